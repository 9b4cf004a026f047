/-
  LAW 1: ShelfStacks: every call on Stacks of ints and of pairs: the walk.
-/
import Derived.Test.YtppikbdeopagkaaSR
import Derived.Test.YtppikbdeopagkaaTx
import Derived.Test.YtppikbdeopagkaaEPrK
import Derived.Test.YtppikbdeopagkaaEOpP
import Derived.Test.YtppikbdeopagkaaEIntS
import Derived.Test.YtppikbdeopagkaaBox
import Derived.Test.YtppikbdeopagkaaCalc
import Derived.Deep.CutRange
import Derived.Deep.DeepCutAuto
set_option linter.unusedVariables false
set_option linter.unusedSimpArgs false
namespace Go.Proofs.Ytppikbdeopagkaa
open Go Go.RowKit
namespace SH
open Tx

/-- What the loop keeps. -/
def scRel (w : World) (g3 g4 n : Nat) (gn : Nat) (i want : Value) (wr : World) : Prop :=
  ∃ (k : Nat) (OW : Ow) (xs : List Int), gn = n - k ∧ k ≤ n ∧ i = .int .i64 (k : Int) ∧ xs.length ≤ k ∧ (∀ x ∈ xs, EInt.Rng x) ∧ EInt.St wr OW [1, 0, 0] g3 0 xs ∧ EPr.St wr OW [1, 0, 1] g4 0 (xs.map mkP) ∧ Row wr OW [1, 2] 3 1 want xs.length (EInt.css xs) ∧ Turn [1] w ow0 wr OW
/-- What stands within a round. -/
def scMid (w : World) (g3 g4 gx : Nat) (o : Op1) (N : Nat) (want : Value) (wr : World) : Prop :=
  ∃ (OW : Ow) (xs : List Int), xs.length ≤ N ∧ (∀ x ∈ xs, EInt.Rng x) ∧ EInt.St wr OW [1, 0, 0] g3 0 xs ∧ EPr.St wr OW [1, 0, 1] g4 0 (xs.map mkP) ∧ Row wr OW [1, 2] 3 1 want xs.length (EInt.css xs) ∧ Cells wr OW [1, 3] gx 0 [.int .i64 o.kind, .int .i64 o.level, .int .i64 o.n] ∧ Turn [1] w ow0 wr OW
def twoS (w : World) (W : World) : Prop := ∃ OW : Ow, EInt.St W OW [1, 0, 0] w.heap.size 0 [] ∧ EPr.St W OW [1, 0, 1] (w.heap.size + 1) 0 [] ∧ Turn [1] w ow0 W OW
theorem two_s (w : World) (b c : TypeId) : twoS w ((w.alloc (.cells #[.slice none 0 0] b)).alloc (.cells #[.slice none 0 0] c)) := by
  obtain ⟨o1, c1, n1, z1⟩ := add_cells w ow0 [1, 0, 0, 0] [.slice none 0 0] b
  generalize w.alloc (.cells #[.slice none 0 0] b) = w1 at *
  obtain ⟨o2, c2, n2, z2⟩ := add_cells w1 o1 [1, 0, 1, 0] [.slice none 0 0] c
  generalize w1.alloc (.cells #[.slice none 0 0] c) = w2 at *
  rw [z1] at c2
  exact ⟨o2, EInt.St.nil (c1.new_ n2), EPr.St.nil c2, (n1.turn [1]).trans (n2.turn [1])⟩

set_option maxRecDepth 100000 in
set_option maxHeartbeats 16000000 in
theorem stacks (w : World) (v : Value) (xs : List Op1) (h : EOp.In w v xs) (hrg : ∀ x ∈ xs, EOp.Rng x) : Calls Try.prog 6 #[v] w fun e w' => e = .returned (.bool true) ∧ Below w.heap.size w w' := by
  go_enter Try.func6, Try.ntmps6
  go_wp2_with fail
  refine (EOp.few w v xs 400 h (by omega)).mono ?_
  rintro e w0 ⟨v1, rfl, hin, hw0⟩
  rw [hw0]
  clear hw0 w0
  have hlen : (xs.take 400).length ≤ 400 := by rw [List.length_take]; omega
  have hrg' : ∀ x ∈ xs.take 400, EOp.Rng x := fun x hx => hrg x (List.mem_of_mem_take hx)
  generalize xs.take 400 = ys at *
  clear h hrg
  obtain ⟨A, cap, rfl, -, -, hcov⟩ := hin
  have Hc := Lib.hid hcov
  have Hrg := Lib.hid hrg'
  clear hcov hrg'
  go_wp2_with fail
  refine gen_world (twoS w) (two_s w _ _) ?_
  rintro w1 ⟨ow1, hs, hp, t⟩
  generalize hg : w.heap.size = g3 at *
  generalize hg4 : g3 + 1 = g4 at *
  clear hg hg4
  go_loopg [6, 5] ys.length (fun gn i want wr => scRel w g3 g4 ys.length gn i want wr)
  case atStart => exact ⟨0, ow1, [], rfl, Nat.zero_le _, rfl, Nat.le_refl _, (fun x hx => by cases hx), hs, hp, Row.nil _ _ _ _ _, t⟩
  case round =>
    clear hs hp t
    obtain ⟨k, OW, xs, hgk, hk, rfl, hxl, hxr, hs, hp, hw, t⟩ := hrel
    have Hgk := Lib.hid hgk
    have Hxr := Lib.hid hxr
    clear hgk hxr
    by_cases hlt : k < ys.length
    · obtain ⟨o, ho⟩ : ∃ o, ys[k]? = some o := ⟨_, List.getElem?_eq_getElem hlt⟩
      obtain ⟨-, -, hor⟩ := Hrg.out o (List.mem_of_getElem? ho)
      obtain ⟨b, off, rfl, c0, c1, c2⟩ := (Hc.out.new_ (t.new_ ow0 [1]).below).at k o ho
      have i0 : (k : Int) < (ys.length : Int) := by omega
      clear ho
      go_upto_if 33 with fail
      obtain ⟨owx, bx, nn, -⟩ := add_cells wr OW [1, 3] [.int .i64 o.kind, .int .i64 o.level, .int .i64 o.n] 59
      refine gen_world (fun W => ∃ OW, EInt.St W OW [1, 0, 0] g3 0 xs ∧ EPr.St W OW [1, 0, 1] g4 0 (xs.map mkP) ∧ Row W OW [1, 2] 3 1 u5 xs.length (EInt.css xs) ∧ Cells W OW [1, 3] wr.heap.size 0 [.int .i64 o.kind, .int .i64 o.level, .int .i64 o.n] ∧ Turn [1] w ow0 W OW) ⟨owx, hs.new_ nn, hp.new_ nn, hw.new_ nn, bx, t.trans (nn.turn [1])⟩ ?_
      clear hs hp hw t bx nn owx c0 c1 c2
      rintro w2 ⟨ow2, hs, hp, hw, ho, t⟩
      generalize wr.heap.size = gx at *
      have o0 := ho.get 0 rfl
      have o2 := ho.get 2 rfl
      simp only [Nat.zero_add] at o0 o2
      go_cut [5] from 31 to 33 (fun s5 wx => scMid w g3 g4 gx o (k + 1) s5 wx)
      case first =>
        by_cases k0 : o.kind = 0
        · have b0 : (o.kind == 0) = true := beq_iff_eq.2 k0
          clear k0
          go_wp2_with fail
          refine (EInt.s_push w2 ow2 [1, 0, 0] g3 0 xs o.n hs (by omega)).mono ?_
          rintro e w11 ⟨ow11, rfl, hn', tt⟩
          replace hp := hp.keep tt (by simp) (by simp)
          replace hw := hw.keep tt (by simp)
          replace ho := ho.keep tt (by simp)
          replace t := t.trans (tt.up (by simp))
          clear hs tt
          have hs := hn'
          clear hn'
          clear o0 o2
          have o0 := ho.get 0 rfl
          have o2 := ho.get 2 rfl
          simp only [Nat.zero_add] at o0 o2
          go_wp2_with fail
          refine (pair w11 o.n hor).mono ?_
          rintro e w12 ⟨rfl, bb⟩
          have nn := bb.nw ow11
          replace hs := hs.new_ nn
          replace hp := hp.new_ nn
          replace hw := hw.new_ nn
          replace ho := ho.new_ nn
          replace t := t.trans (nn.turn [1])
          clear nn
          clear bb
          clear o0 o2
          have o0 := ho.get 0 rfl
          have o2 := ho.get 2 rfl
          simp only [Nat.zero_add] at o0 o2
          go_wp2_with fail
          refine (EPr.s_push w12 ow11 [1, 0, 1] g4 0 _ (mkP o.n) hp (by rw [List.length_map]; omega)).mono ?_
          rintro e w13 ⟨ow13, rfl, hn', tt⟩
          replace hs := hs.keep tt (by simp) (by simp)
          replace hw := hw.keep tt (by simp)
          replace ho := ho.keep tt (by simp)
          replace t := t.trans (tt.up (by simp))
          clear hp tt
          have hp := hn'
          clear hn'
          clear o0 o2
          have o0 := ho.get 0 rfl
          have o2 := ho.get 2 rfl
          simp only [Nat.zero_add] at o0 o2
          obtain ⟨A5, c5, rfl, hnc⟩ := hw.slice
          go_wp2_with (at_builtin; refine wpList_append_row rfl (.tmp 41) (.tmp 44) 22 22 rfl 3 _ 1 8 Try.underlying22 EInt.info rfl rfl (hw.alloc_ _) rfl ((Reads.new _ (EInt.cs o.n) _ 1 1 (Nat.le_refl _)).src Try.underlying22 rfl (EInt.cs_one o.n)) (by unfold maxLen; omega) (by omega) ?_)
          intro v' w20 ow20 hrow' ht'
          have tt := ((Turn.refl [1, 2] w13 ow13).alloc_ (.cells (EInt.cs o.n).toArray 3)).trans ht'
          replace hs := hs.keep tt (by simp) (by simp)
          replace hp := hp.keep tt (by simp) (by simp)
          replace ho := ho.keep tt (by simp)
          replace t := t.trans (tt.up (by simp))
          clear hw tt ht' hnc
          rw [← EInt.css_snoc] at hrow'
          go_wp2_with fail
          go_meet
          exact ⟨ow20, xs ++ [o.n], by rw [List.length_append, List.length_cons, List.length_nil]; omega, (fun x hx => by
            rcases List.mem_append.1 hx with hx | hx
            · exact Hxr.out x hx
            · obtain rfl : x = o.n := by simpa using hx
              exact hor), hs, by rw [List.map_append]; exact hp, by rw [List.length_append]; exact hrow', ho, t⟩
        · have b0 : (o.kind == 0) = false := beq_eq_false_iff_ne.2 k0
          clear k0
          go_wp2_with fail
          go_meet
          exact ⟨ow2, xs, by omega, Hxr.out, hs, hp, hw, ho, t⟩
      case rest =>
        clear hs hp hw ho t Hxr hxl o0 o2
        obtain ⟨ow3, xs, hxl, hxr, hs, hp, hw, ho, t⟩ := hcut
        have Hxr := Lib.hid hxr
        clear hxr
        obtain ⟨w3, rfl⟩ : ∃ w3 : World, w3 = wc := ⟨_, rfl⟩
        obtain ⟨A5, c5, rfl, hnc⟩ := hw.slice
        have o0 := ho.get 0 rfl
        have o2 := ho.get 2 rfl
        simp only [Nat.zero_add] at o0 o2
        go_upto_if 48 with fail
        go_cut [5] from 46 to 48 (fun s5 wx => scMid w g3 g4 gx o (k + 1) s5 wx)
        case first =>
          by_cases k1 : o.kind = 1
          · have b1 : (o.kind == 1) = true := beq_iff_eq.2 k1
            clear k1 o2
            rcases List.eq_nil_or_concat xs with hxs | ⟨zs, x, hxs⟩
            · subst hxs
              go_wp2_with fail
              refine (EInt.s_pop_none w3 ow3 [1, 0, 0] g3 0 hs).mono ?_
              rintro e w31 ⟨rfl, bb⟩
              have nn := bb.nw ow3
              replace hs := hs.new_ nn
              replace hp := hp.new_ nn
              replace hw := hw.new_ nn
              replace ho := ho.new_ nn
              replace t := t.trans (nn.turn [1])
              clear nn
              clear bb
              go_wp2_with fail
              refine (EPr.s_pop_none w31 ow3 [1, 0, 1] g4 0 hp).mono ?_
              rintro e w32 ⟨rfl, bb⟩
              have nn := bb.nw ow3
              replace hs := hs.new_ nn
              replace hp := hp.new_ nn
              replace hw := hw.new_ nn
              replace ho := ho.new_ nn
              replace t := t.trans (nn.turn [1])
              clear nn
              clear bb
              go_wp2_with fail
              obtain ⟨owx, bx, nn, -⟩ := add_cells w32 ow3 [9, 33] [.int .i64 0, .string ⟨#[]⟩] 62
              refine gen_world (fun W => ∃ OW, EInt.St W OW [1, 0, 0] g3 0 [] ∧ EPr.St W OW [1, 0, 1] g4 0 ([].map mkP) ∧ Row W OW [1, 2] 3 1 (.slice A5 ([] : List Int).length c5) ([] : List Int).length (EInt.css []) ∧ Cells W OW [1, 3] gx 0 [.int .i64 o.kind, .int .i64 o.level, .int .i64 o.n] ∧ Cells W OW [9, 33] w32.heap.size 0 [.int .i64 0, .string ⟨#[]⟩] ∧ Turn [1] w ow0 W OW) ⟨owx, hs.new_ nn, hp.new_ nn, hw.new_ nn, ho.new_ nn, bx, t.trans (nn.turn [1])⟩ ?_
              clear hs hp hw ho bx t nn owx
              rintro w33 ⟨ow33, hs, hp, hw, ho, hz, t⟩
              generalize w32.heap.size = gz at *
              have z0 := hz.get 0 rfl
              have z1 := hz.get 1 rfl
              simp only [Nat.zero_add] at z0 z1
              refine plain_regionN (fun W' : World => W'.cell? ⟨gz, 0, none⟩ = some (.int .i64 0) ∧ W'.cell? ⟨gz, 1, none⟩ = some (.string ⟨#[]⟩)) [] (by kernel_rfl) ?_
              have hS : (fun W' : World => W'.cell? ⟨gz, 0, none⟩ = some (.int .i64 0) ∧ W'.cell? ⟨gz, 1, none⟩ = some (.string ⟨#[]⟩)) w33.drew := ⟨z0, z1⟩
              refine anyX_takeNL 0 (v := ?_) rfl rfl (by as_aux_lemma => kernel_rfl) (by as_aux_lemma => kernel_rfl) (by as_aux_lemma => kernel_rfl) (by as_aux_lemma => kernel_rfl) (by as_aux_lemma => kernel_rfl) (fun _ _ _ h => h) rfl ?_ hS ?_
              rotate_left
              · intro W' hW'
                obtain ⟨s0, s1⟩ := hW'
                all_goals (go_simp; first | done | rfl)
              intro l' hl
              dsimp only [List.set_cons_succ, List.set_cons_zero] at hl
              subst hl
              refine anyX_takeNL 1 (v := ?_) rfl rfl (by as_aux_lemma => kernel_rfl) (by as_aux_lemma => kernel_rfl) (by as_aux_lemma => kernel_rfl) (by as_aux_lemma => kernel_rfl) (by as_aux_lemma => kernel_rfl) (fun _ _ _ h => h) rfl ?_ hS ?_
              rotate_left
              · intro W' hW'
                obtain ⟨s0, s1⟩ := hW'
                all_goals (go_simp; first | done | rfl)
              intro l' hl
              dsimp only [List.set_cons_succ, List.set_cons_zero] at hl
              subst hl
              refine anyX_takeNL 2 (v := ?_) rfl rfl (by as_aux_lemma => kernel_rfl) (by as_aux_lemma => kernel_rfl) (by as_aux_lemma => kernel_rfl) (by as_aux_lemma => kernel_rfl) (by as_aux_lemma => kernel_rfl) (fun _ _ _ h => h) rfl ?_ hS ?_
              rotate_left
              · intro W' hW'
                obtain ⟨s0, s1⟩ := hW'
                all_goals (go_simp; first | done | rfl)
              intro l' hl
              dsimp only [List.set_cons_succ, List.set_cons_zero] at hl
              subst hl
              refine anyX_takeNL 3 (v := ?_) rfl rfl (by as_aux_lemma => kernel_rfl) (by as_aux_lemma => kernel_rfl) (by as_aux_lemma => kernel_rfl) (by as_aux_lemma => kernel_rfl) (by as_aux_lemma => kernel_rfl) (fun _ _ _ h => h) rfl ?_ hS ?_
              rotate_left
              · intro W' hW'
                obtain ⟨s0, s1⟩ := hW'
                all_goals (go_simp; first | done | rfl)
              intro l' hl
              dsimp only [List.set_cons_succ, List.set_cons_zero] at hl
              subst hl
              refine anyX_takeNL 4 (v := ?_) rfl rfl (by as_aux_lemma => kernel_rfl) (by as_aux_lemma => kernel_rfl) (by as_aux_lemma => kernel_rfl) (by as_aux_lemma => kernel_rfl) (by as_aux_lemma => kernel_rfl) (fun _ _ _ h => h) rfl ?_ hS ?_
              rotate_left
              · intro W' hW'
                obtain ⟨s0, s1⟩ := hW'
                all_goals (go_simp; first | done | rfl)
              intro l' hl
              dsimp only [List.set_cons_succ, List.set_cons_zero] at hl
              subst hl
              refine anyX_takeWL 5 (v := ?_) rfl rfl (by as_aux_lemma => kernel_rfl) (by as_aux_lemma => kernel_rfl) (by as_aux_lemma => kernel_rfl) (by as_aux_lemma => kernel_rfl) (by as_aux_lemma => kernel_rfl) (fun _ _ _ h => h) (by rfl) ?_ hS ?_
              rotate_left
              · intro W' hW'
                obtain ⟨s0, s1⟩ := hW'
                all_goals (go_simp; first | done | rfl)
              intro l' hl
              dsimp only [List.set_cons_succ, List.set_cons_zero] at hl
              subst hl
              refine anyX_takeWL 6 (v := ?_) rfl rfl (by as_aux_lemma => kernel_rfl) (by as_aux_lemma => kernel_rfl) (by as_aux_lemma => kernel_rfl) (by as_aux_lemma => kernel_rfl) (by as_aux_lemma => kernel_rfl) (fun _ _ _ h => h) (by rfl) ?_ hS ?_
              rotate_left
              · intro W' hW'
                obtain ⟨s0, s1⟩ := hW'
                all_goals (go_simp; first | done | rfl)
              intro l' hl
              dsimp only [List.set_cons_succ, List.set_cons_zero] at hl
              subst hl
              refine anyX_takeWL 7 (v := ?_) rfl rfl (by as_aux_lemma => kernel_rfl) (by as_aux_lemma => kernel_rfl) (by as_aux_lemma => kernel_rfl) (by as_aux_lemma => kernel_rfl) (by as_aux_lemma => kernel_rfl) (fun _ _ _ h => h) (by rfl) ?_ hS ?_
              rotate_left
              · intro W' hW'
                obtain ⟨s0, s1⟩ := hW'
                all_goals (go_simp; first | done | rfl)
              intro l' hl
              dsimp only [List.set_cons_succ, List.set_cons_zero] at hl
              subst hl
              refine anyX_takeNL 8 (v := ?_) rfl rfl (by as_aux_lemma => kernel_rfl) (by as_aux_lemma => kernel_rfl) (by as_aux_lemma => kernel_rfl) (by as_aux_lemma => kernel_rfl) (by as_aux_lemma => kernel_rfl) (fun _ _ _ h => h) rfl ?_ hS ?_
              rotate_left
              · intro W' hW'
                obtain ⟨s0, s1⟩ := hW'
                all_goals (go_simp; first | done | rfl)
              intro l' hl
              dsimp only [List.set_cons_succ, List.set_cons_zero] at hl
              subst hl
              refine anyX_takeNL 9 (v := ?_) rfl rfl (by as_aux_lemma => kernel_rfl) (by as_aux_lemma => kernel_rfl) (by as_aux_lemma => kernel_rfl) (by as_aux_lemma => kernel_rfl) (by as_aux_lemma => kernel_rfl) (fun _ _ _ h => h) rfl ?_ hS ?_
              rotate_left
              · intro W' hW'
                obtain ⟨s0, s1⟩ := hW'
                all_goals (go_simp; first | done | rfl)
              intro l' hl
              dsimp only [List.set_cons_succ, List.set_cons_zero] at hl
              subst hl
              refine anyX_takeWL 10 (v := ?_) rfl rfl (by as_aux_lemma => kernel_rfl) (by as_aux_lemma => kernel_rfl) (by as_aux_lemma => kernel_rfl) (by as_aux_lemma => kernel_rfl) (by as_aux_lemma => kernel_rfl) (fun _ _ _ h => h) (by rfl) ?_ hS ?_
              rotate_left
              · intro W' hW'
                obtain ⟨s0, s1⟩ := hW'
                all_goals (go_simp; first | done | rfl)
              intro l' hl
              dsimp only [List.set_cons_succ, List.set_cons_zero] at hl
              subst hl
              refine anyX_takeWL 11 (v := ?_) rfl rfl (by as_aux_lemma => kernel_rfl) (by as_aux_lemma => kernel_rfl) (by as_aux_lemma => kernel_rfl) (by as_aux_lemma => kernel_rfl) (by as_aux_lemma => kernel_rfl) (fun _ _ _ h => h) (by rfl) ?_ hS ?_
              rotate_left
              · intro W' hW'
                obtain ⟨s0, s1⟩ := hW'
                all_goals (go_simp; first | done | rfl)
              intro l' hl
              dsimp only [List.set_cons_succ, List.set_cons_zero] at hl
              subst hl
              refine anyX_takeUL 12 rfl rfl (by as_aux_lemma => kernel_rfl) (by as_aux_lemma => kernel_rfl) (by as_aux_lemma => kernel_rfl) (by as_aux_lemma => kernel_rfl) (by as_aux_lemma => kernel_rfl) (fun _ _ _ h => h) (by rfl) hS ?_
              intro l' hl
              dsimp only [List.set_cons_succ, List.set_cons_zero] at hl
              subst hl
              refine anyX_takeUL 13 rfl rfl (by as_aux_lemma => kernel_rfl) (by as_aux_lemma => kernel_rfl) (by as_aux_lemma => kernel_rfl) (by as_aux_lemma => kernel_rfl) (by as_aux_lemma => kernel_rfl) (fun _ _ _ h => h) (by rfl) hS ?_
              intro l' hl
              dsimp only [List.set_cons_succ, List.set_cons_zero] at hl
              subst hl
              refine anyX_takeUL 14 rfl rfl (by as_aux_lemma => kernel_rfl) (by as_aux_lemma => kernel_rfl) (by as_aux_lemma => kernel_rfl) (by as_aux_lemma => kernel_rfl) (by as_aux_lemma => kernel_rfl) (fun _ _ _ h => h) (by rfl) hS ?_
              intro l' hl
              dsimp only [List.set_cons_succ, List.set_cons_zero] at hl
              subst hl
              refine anyX_takeUL 15 rfl rfl (by as_aux_lemma => kernel_rfl) (by as_aux_lemma => kernel_rfl) (by as_aux_lemma => kernel_rfl) (by as_aux_lemma => kernel_rfl) (by as_aux_lemma => kernel_rfl) (fun _ _ _ h => h) (by rfl) hS ?_
              intro l' hl
              dsimp only [List.set_cons_succ, List.set_cons_zero] at hl
              subst hl
              refine anyX_takeUL 16 rfl rfl (by as_aux_lemma => kernel_rfl) (by as_aux_lemma => kernel_rfl) (by as_aux_lemma => kernel_rfl) (by as_aux_lemma => kernel_rfl) (by as_aux_lemma => kernel_rfl) (fun _ _ _ h => h) (by rfl) hS ?_
              intro l' hl
              dsimp only [List.set_cons_succ, List.set_cons_zero] at hl
              subst hl
              refine anyX_takeUL 17 rfl rfl (by as_aux_lemma => kernel_rfl) (by as_aux_lemma => kernel_rfl) (by as_aux_lemma => kernel_rfl) (by as_aux_lemma => kernel_rfl) (by as_aux_lemma => kernel_rfl) (fun _ _ _ h => h) (by rfl) hS ?_
              intro l' hl
              dsimp only [List.set_cons_succ, List.set_cons_zero] at hl
              subst hl
              refine anyX_takeUL 18 rfl rfl (by as_aux_lemma => kernel_rfl) (by as_aux_lemma => kernel_rfl) (by as_aux_lemma => kernel_rfl) (by as_aux_lemma => kernel_rfl) (by as_aux_lemma => kernel_rfl) (fun _ _ _ h => h) (by rfl) hS ?_
              intro l' hl
              dsimp only [List.set_cons_succ, List.set_cons_zero] at hl
              subst hl
              refine anyX_takeUL 19 rfl rfl (by as_aux_lemma => kernel_rfl) (by as_aux_lemma => kernel_rfl) (by as_aux_lemma => kernel_rfl) (by as_aux_lemma => kernel_rfl) (by as_aux_lemma => kernel_rfl) (fun _ _ _ h => h) (by rfl) hS ?_
              intro l' hl
              dsimp only [List.set_cons_succ, List.set_cons_zero] at hl
              subst hl
              refine anyX_takeUL 20 rfl rfl (by as_aux_lemma => kernel_rfl) (by as_aux_lemma => kernel_rfl) (by as_aux_lemma => kernel_rfl) (by as_aux_lemma => kernel_rfl) (by as_aux_lemma => kernel_rfl) (fun _ _ _ h => h) (by rfl) hS ?_
              intro l' hl
              dsimp only [List.set_cons_succ, List.set_cons_zero] at hl
              subst hl
              refine anyX_takeUL 21 rfl rfl (by as_aux_lemma => kernel_rfl) (by as_aux_lemma => kernel_rfl) (by as_aux_lemma => kernel_rfl) (by as_aux_lemma => kernel_rfl) (by as_aux_lemma => kernel_rfl) (fun _ _ _ h => h) (by rfl) hS ?_
              intro l' hl
              dsimp only [List.set_cons_succ, List.set_cons_zero] at hl
              subst hl
              refine anyX_takeUL 22 rfl rfl (by as_aux_lemma => kernel_rfl) (by as_aux_lemma => kernel_rfl) (by as_aux_lemma => kernel_rfl) (by as_aux_lemma => kernel_rfl) (by as_aux_lemma => kernel_rfl) (fun _ _ _ h => h) (by rfl) hS ?_
              intro l' hl
              dsimp only [List.set_cons_succ, List.set_cons_zero] at hl
              subst hl
              refine anyX_takeUL 23 rfl rfl (by as_aux_lemma => kernel_rfl) (by as_aux_lemma => kernel_rfl) (by as_aux_lemma => kernel_rfl) (by as_aux_lemma => kernel_rfl) (by as_aux_lemma => kernel_rfl) (fun _ _ _ h => h) (by rfl) hS ?_
              intro l' hl
              dsimp only [List.set_cons_succ, List.set_cons_zero] at hl
              subst hl
              refine anyX_takeUL 24 rfl rfl (by as_aux_lemma => kernel_rfl) (by as_aux_lemma => kernel_rfl) (by as_aux_lemma => kernel_rfl) (by as_aux_lemma => kernel_rfl) (by as_aux_lemma => kernel_rfl) (fun _ _ _ h => h) (by rfl) hS ?_
              intro l' hl
              dsimp only [List.set_cons_succ, List.set_cons_zero] at hl
              subst hl
              refine anyX_takeWL 25 (v := ?_) rfl rfl (by as_aux_lemma => kernel_rfl) (by as_aux_lemma => kernel_rfl) (by as_aux_lemma => kernel_rfl) (by as_aux_lemma => kernel_rfl) (by as_aux_lemma => kernel_rfl) (fun _ _ _ h => h) (by rfl) ?_ hS ?_
              rotate_left
              · intro W' hW'
                obtain ⟨s0, s1⟩ := hW'
                all_goals (go_simp; first | done | rfl)
              intro l' hl
              dsimp only [List.set_cons_succ, List.set_cons_zero] at hl
              subst hl
              refine anyX_takeNL 26 (v := ?_) rfl rfl (by as_aux_lemma => kernel_rfl) (by as_aux_lemma => kernel_rfl) (by as_aux_lemma => kernel_rfl) (by as_aux_lemma => kernel_rfl) (by as_aux_lemma => kernel_rfl) (fun _ _ _ h => h) rfl ?_ hS ?_
              rotate_left
              · intro W' hW'
                obtain ⟨s0, s1⟩ := hW'
                all_goals (go_simp; first | done | rfl)
              intro l' hl
              dsimp only [List.set_cons_succ, List.set_cons_zero] at hl
              subst hl
              refine anyX_takeNL 27 (v := ?_) rfl rfl (by as_aux_lemma => kernel_rfl) (by as_aux_lemma => kernel_rfl) (by as_aux_lemma => kernel_rfl) (by as_aux_lemma => kernel_rfl) (by as_aux_lemma => kernel_rfl) (fun _ _ _ h => h) rfl ?_ hS ?_
              rotate_left
              · intro W' hW'
                obtain ⟨s0, s1⟩ := hW'
                all_goals (go_simp; first | done | rfl)
              intro l' hl
              dsimp only [List.set_cons_succ, List.set_cons_zero] at hl
              subst hl
              refine anyX_takeWL 28 (v := ?_) rfl rfl (by as_aux_lemma => kernel_rfl) (by as_aux_lemma => kernel_rfl) (by as_aux_lemma => kernel_rfl) (by as_aux_lemma => kernel_rfl) (by as_aux_lemma => kernel_rfl) (fun _ _ _ h => h) (by rfl) ?_ hS ?_
              rotate_left
              · intro W' hW'
                obtain ⟨s0, s1⟩ := hW'
                all_goals (go_simp; first | done | rfl)
              intro l' hl
              dsimp only [List.set_cons_succ, List.set_cons_zero] at hl
              subst hl
              refine anyX_takeWL 29 (v := ?_) rfl rfl (by as_aux_lemma => kernel_rfl) (by as_aux_lemma => kernel_rfl) (by as_aux_lemma => kernel_rfl) (by as_aux_lemma => kernel_rfl) (by as_aux_lemma => kernel_rfl) (fun _ _ _ h => h) (by rfl) ?_ hS ?_
              rotate_left
              · intro W' hW'
                obtain ⟨s0, s1⟩ := hW'
                all_goals (go_simp; first | done | rfl)
              intro l' hl
              dsimp only [List.set_cons_succ, List.set_cons_zero] at hl
              subst hl
              refine anyX_takeWL 30 (v := ?_) rfl rfl (by as_aux_lemma => kernel_rfl) (by as_aux_lemma => kernel_rfl) (by as_aux_lemma => kernel_rfl) (by as_aux_lemma => kernel_rfl) (by as_aux_lemma => kernel_rfl) (fun _ _ _ h => h) (by rfl) ?_ hS ?_
              rotate_left
              · intro W' hW'
                obtain ⟨s0, s1⟩ := hW'
                all_goals (go_simp; first | done | rfl)
              intro l' hl
              dsimp only [List.set_cons_succ, List.set_cons_zero] at hl
              subst hl
              refine anyX_takeWL 31 (v := ?_) rfl rfl (by as_aux_lemma => kernel_rfl) (by as_aux_lemma => kernel_rfl) (by as_aux_lemma => kernel_rfl) (by as_aux_lemma => kernel_rfl) (by as_aux_lemma => kernel_rfl) (fun _ _ _ h => h) (by rfl) ?_ hS ?_
              rotate_left
              · intro W' hW'
                obtain ⟨s0, s1⟩ := hW'
                all_goals (go_simp; first | done | rfl)
              intro l' hl
              dsimp only [List.set_cons_succ, List.set_cons_zero] at hl
              subst hl
              refine anyX_takeWL 32 (v := ?_) rfl rfl (by as_aux_lemma => kernel_rfl) (by as_aux_lemma => kernel_rfl) (by as_aux_lemma => kernel_rfl) (by as_aux_lemma => kernel_rfl) (by as_aux_lemma => kernel_rfl) (fun _ _ _ h => h) (by rfl) ?_ hS ?_
              rotate_left
              · intro W' hW'
                obtain ⟨s0, s1⟩ := hW'
                all_goals (go_simp; first | done | rfl)
              intro l' hl
              dsimp only [List.set_cons_succ, List.set_cons_zero] at hl
              subst hl
              refine anyX_takeWL 33 (v := ?_) rfl rfl (by as_aux_lemma => kernel_rfl) (by as_aux_lemma => kernel_rfl) (by as_aux_lemma => kernel_rfl) (by as_aux_lemma => kernel_rfl) (by as_aux_lemma => kernel_rfl) (fun _ _ _ h => h) (by rfl) ?_ hS ?_
              rotate_left
              · intro W' hW'
                obtain ⟨s0, s1⟩ := hW'
                all_goals (go_simp; first | done | rfl)
              intro l' hl
              dsimp only [List.set_cons_succ, List.set_cons_zero] at hl
              subst hl
              refine anyX_takeWL 34 (v := ?_) rfl rfl (by as_aux_lemma => kernel_rfl) (by as_aux_lemma => kernel_rfl) (by as_aux_lemma => kernel_rfl) (by as_aux_lemma => kernel_rfl) (by as_aux_lemma => kernel_rfl) (fun _ _ _ h => h) (by rfl) ?_ hS ?_
              rotate_left
              · intro W' hW'
                obtain ⟨s0, s1⟩ := hW'
                all_goals (go_simp; first | done | rfl)
              intro l' hl
              dsimp only [List.set_cons_succ, List.set_cons_zero] at hl
              subst hl
              refine anyX_takeWL 35 (v := ?_) rfl rfl (by as_aux_lemma => kernel_rfl) (by as_aux_lemma => kernel_rfl) (by as_aux_lemma => kernel_rfl) (by as_aux_lemma => kernel_rfl) (by as_aux_lemma => kernel_rfl) (fun _ _ _ h => h) (by rfl) ?_ hS ?_
              rotate_left
              · intro W' hW'
                obtain ⟨s0, s1⟩ := hW'
                all_goals (go_simp; first | done | rfl)
              intro l' hl
              dsimp only [List.set_cons_succ, List.set_cons_zero] at hl
              subst hl
              refine anyX_takeWL 36 (v := ?_) rfl rfl (by as_aux_lemma => kernel_rfl) (by as_aux_lemma => kernel_rfl) (by as_aux_lemma => kernel_rfl) (by as_aux_lemma => kernel_rfl) (by as_aux_lemma => kernel_rfl) (fun _ _ _ h => h) (by rfl) ?_ hS ?_
              rotate_left
              · intro W' hW'
                obtain ⟨s0, s1⟩ := hW'
                all_goals (go_simp; first | done | rfl)
              intro l' hl
              dsimp only [List.set_cons_succ, List.set_cons_zero] at hl
              subst hl
              refine anyX_takeWL 37 (v := ?_) rfl rfl (by as_aux_lemma => kernel_rfl) (by as_aux_lemma => kernel_rfl) (by as_aux_lemma => kernel_rfl) (by as_aux_lemma => kernel_rfl) (by as_aux_lemma => kernel_rfl) (fun _ _ _ h => h) (by rfl) ?_ hS ?_
              rotate_left
              · intro W' hW'
                obtain ⟨s0, s1⟩ := hW'
                all_goals (go_simp; first | done | rfl)
              intro l' hl
              dsimp only [List.set_cons_succ, List.set_cons_zero] at hl
              subst hl
              refine anyX_takeWL 38 (v := ?_) rfl rfl (by as_aux_lemma => kernel_rfl) (by as_aux_lemma => kernel_rfl) (by as_aux_lemma => kernel_rfl) (by as_aux_lemma => kernel_rfl) (by as_aux_lemma => kernel_rfl) (fun _ _ _ h => h) (by rfl) ?_ hS ?_
              rotate_left
              · intro W' hW'
                obtain ⟨s0, s1⟩ := hW'
                all_goals (go_simp; first | done | rfl)
              intro l' hl
              dsimp only [List.set_cons_succ, List.set_cons_zero] at hl
              subst hl
              refine anyX_takeNL 39 (v := ?_) rfl rfl (by as_aux_lemma => kernel_rfl) (by as_aux_lemma => kernel_rfl) (by as_aux_lemma => kernel_rfl) (by as_aux_lemma => kernel_rfl) (by as_aux_lemma => kernel_rfl) (fun _ _ _ h => h) rfl ?_ hS ?_
              rotate_left
              · intro W' hW'
                obtain ⟨s0, s1⟩ := hW'
                all_goals (go_simp; first | done | rfl)
              intro l' hl
              dsimp only [List.set_cons_succ, List.set_cons_zero] at hl
              subst hl
              refine anyX_done (by kernel_rfl) ?_ _
              refine NoPanic.normal ?_
              clear hS z0 z1
              go_wp2_with fail
              go_meet
              exact ⟨ow33, [], by simp, (fun x hx => by cases hx), hs, hp, hw, ho, t.drew⟩
            · rw [List.concat_eq_append] at hxs
              have hlx : xs.length = zs.length + 1 := by rw [hxs, List.length_append]; rfl
              have hlast : xs[zs.length]? = some x := by rw [hxs, List.getElem?_append_right (Nat.le_refl _), Nat.sub_self]; rfl
              have hzr : ∀ y ∈ zs, EInt.Rng y := fun y hy => Hxr.out y (by rw [hxs]; exact List.mem_append_left _ hy)
              have hxr : EInt.Rng x := Hxr.out x (by rw [hxs]; exact List.mem_append_right _ List.mem_cons_self)
              obtain ⟨g5, off5, cap5, hv, hcc, hmx, -⟩ := hw.at (by omega)
              simp only [Value.slice.injEq] at hv
              obtain ⟨rfl, -, rfl⟩ := hv
              obtain ⟨-, -, -, hcell⟩ := hw.open_
              have i1 : (0 : Int) < (xs.length : Int) := by omega
              have i6 : decide (0 < xs.length) = true := decide_eq_true (by omega)
              have i2 : IntKind.i64.wrap ((xs.length : Int) - 1) = (zs.length : Int) := by simp only [IntKind.wrap_i64]; omega
              have i3 : (zs.length : Int) < (xs.length : Int) := by omega
              have i4 : zs.length ≤ c5 := by omega
              have i5 : (zs.length : Int) ≤ (c5 : Int) := by omega
              have Hzr := Lib.hid hzr
              have Hlx := Lib.hid hlx
              have hm1 : xs.map mkP = zs.map mkP ++ [mkP x] := by rw [hxs, List.map_append]; rfl
              rw [hxs] at hs
              rw [hm1] at hp
              have Hxs := Lib.hid hxs
              clear hzr hlx hxs hm1 hcell hmx
              go_wp2_with fail
              refine (EInt.s_pop_some w3 ow3 [1, 0, 0] g3 0 zs x hs (by omega)).mono ?_
              rintro e w51 ⟨ow51, rfl, hn', tt⟩
              replace hp := hp.keep tt (by simp) (by simp)
              replace hw := hw.keep tt (by simp)
              replace ho := ho.keep tt (by simp)
              replace t := t.trans (tt.up (by simp))
              clear hs tt
              have hs := hn'
              clear hn'
              go_wp2_with fail
              refine (EPr.s_pop_some w51 ow51 [1, 0, 1] g4 0 (zs.map mkP) (mkP x) hp (by rw [List.length_map]; omega)).mono ?_
              rintro e w52 ⟨ow52, rfl, hn', tt⟩
              replace hs := hs.keep tt (by simp) (by simp)
              replace hw := hw.keep tt (by simp)
              replace ho := ho.keep tt (by simp)
              replace t := t.trans (tt.up (by simp))
              clear hp tt
              have hp := hn'
              clear hn'
              go_wp2_with fail
              obtain ⟨owx, bx, nn, -⟩ := add_cells w52 ow52 [9, 53] [.int .i64 x, .string (tx x)] 62
              refine gen_world (fun W => ∃ OW, EInt.St W OW [1, 0, 0] g3 0 zs ∧ EPr.St W OW [1, 0, 1] g4 0 (zs.map mkP) ∧ Row W OW [1, 2] 3 1 (.slice (some ⟨g5, off5, none⟩) xs.length c5) xs.length (EInt.css xs) ∧ Cells W OW [1, 3] gx 0 [.int .i64 o.kind, .int .i64 o.level, .int .i64 o.n] ∧ Cells W OW [9, 53] w52.heap.size 0 [.int .i64 x, .string (tx x)] ∧ Turn [1] w ow0 W OW) ⟨owx, hs.new_ nn, hp.new_ nn, hw.new_ nn, ho.new_ nn, bx, t.trans (nn.turn [1])⟩ ?_
              clear hs hp hw ho bx t nn owx
              rintro w53 ⟨ow53, hs, hp, hw, ho, hz, t⟩
              generalize w52.heap.size = gz at *
              have z0 := hz.get 0 rfl
              have z1 := hz.get 1 rfl
              simp only [Nat.zero_add] at z0 z1
              obtain ⟨-, -, -, hcell⟩ := hw.open_
              have e0 := hcell (zs.length * 1 + 0) _ (EInt.css_at xs zs.length x hlast 0 _ rfl (by omega))
              simp only [Nat.mul_one, Nat.add_zero] at e0
              clear hcell
              refine plain_regionN (fun W' : World => W'.cell? ⟨gz, 0, none⟩ = some (.int .i64 x) ∧ W'.cell? ⟨gz, 1, none⟩ = some (.string (tx x)) ∧ W'.cell? ⟨g5, off5 + zs.length, none⟩ = some (.int .i64 x)) [] (by kernel_rfl) ?_
              have hS : (fun W' : World => W'.cell? ⟨gz, 0, none⟩ = some (.int .i64 x) ∧ W'.cell? ⟨gz, 1, none⟩ = some (.string (tx x)) ∧ W'.cell? ⟨g5, off5 + zs.length, none⟩ = some (.int .i64 x)) w53.drew := ⟨z0, z1, e0⟩
              refine anyX_takeNL 0 (v := ?_) rfl rfl (by as_aux_lemma => kernel_rfl) (by as_aux_lemma => kernel_rfl) (by as_aux_lemma => kernel_rfl) (by as_aux_lemma => kernel_rfl) (by as_aux_lemma => kernel_rfl) (fun _ _ _ h => h) rfl ?_ hS ?_
              rotate_left
              · intro W' hW'
                obtain ⟨s0, s1, s2⟩ := hW'
                all_goals (go_simp; first | done | rfl)
              intro l' hl
              dsimp only [List.set_cons_succ, List.set_cons_zero] at hl
              subst hl
              refine anyX_takeNL 1 (v := ?_) rfl rfl (by as_aux_lemma => kernel_rfl) (by as_aux_lemma => kernel_rfl) (by as_aux_lemma => kernel_rfl) (by as_aux_lemma => kernel_rfl) (by as_aux_lemma => kernel_rfl) (fun _ _ _ h => h) rfl ?_ hS ?_
              rotate_left
              · intro W' hW'
                obtain ⟨s0, s1, s2⟩ := hW'
                all_goals (go_simp; first | done | rfl)
              intro l' hl
              dsimp only [List.set_cons_succ, List.set_cons_zero] at hl
              subst hl
              refine anyX_takeNL 2 (v := ?_) rfl rfl (by as_aux_lemma => kernel_rfl) (by as_aux_lemma => kernel_rfl) (by as_aux_lemma => kernel_rfl) (by as_aux_lemma => kernel_rfl) (by as_aux_lemma => kernel_rfl) (fun _ _ _ h => h) rfl ?_ hS ?_
              rotate_left
              · intro W' hW'
                obtain ⟨s0, s1, s2⟩ := hW'
                all_goals (go_simp; first | done | rfl)
              intro l' hl
              dsimp only [List.set_cons_succ, List.set_cons_zero] at hl
              subst hl
              refine anyX_takeNL 3 (v := ?_) rfl rfl (by as_aux_lemma => kernel_rfl) (by as_aux_lemma => kernel_rfl) (by as_aux_lemma => kernel_rfl) (by as_aux_lemma => kernel_rfl) (by as_aux_lemma => kernel_rfl) (fun _ _ _ h => h) rfl ?_ hS ?_
              rotate_left
              · intro W' hW'
                obtain ⟨s0, s1, s2⟩ := hW'
                all_goals (go_simp; first | done | rfl)
              intro l' hl
              dsimp only [List.set_cons_succ, List.set_cons_zero] at hl
              subst hl
              refine anyX_takeNL 4 (v := ?_) rfl rfl (by as_aux_lemma => kernel_rfl) (by as_aux_lemma => kernel_rfl) (by as_aux_lemma => kernel_rfl) (by as_aux_lemma => kernel_rfl) (by as_aux_lemma => kernel_rfl) (fun _ _ _ h => h) rfl ?_ hS ?_
              rotate_left
              · intro W' hW'
                obtain ⟨s0, s1, s2⟩ := hW'
                all_goals (go_simp; first | done | rfl)
              intro l' hl
              dsimp only [List.set_cons_succ, List.set_cons_zero] at hl
              subst hl
              refine anyX_takeWL 5 (v := ?_) rfl rfl (by as_aux_lemma => kernel_rfl) (by as_aux_lemma => kernel_rfl) (by as_aux_lemma => kernel_rfl) (by as_aux_lemma => kernel_rfl) (by as_aux_lemma => kernel_rfl) (fun _ _ _ h => h) (by rfl) ?_ hS ?_
              rotate_left
              · intro W' hW'
                obtain ⟨s0, s1, s2⟩ := hW'
                all_goals (go_simp; first | done | rfl)
              intro l' hl
              dsimp only [List.set_cons_succ, List.set_cons_zero] at hl
              subst hl
              refine anyX_takeWL 6 (v := ?_) rfl rfl (by as_aux_lemma => kernel_rfl) (by as_aux_lemma => kernel_rfl) (by as_aux_lemma => kernel_rfl) (by as_aux_lemma => kernel_rfl) (by as_aux_lemma => kernel_rfl) (fun _ _ _ h => h) (by rfl) ?_ hS ?_
              rotate_left
              · intro W' hW'
                obtain ⟨s0, s1, s2⟩ := hW'
                all_goals (go_simp; first | done | rfl)
              intro l' hl
              dsimp only [List.set_cons_succ, List.set_cons_zero] at hl
              subst hl
              refine anyX_takeWL 7 (v := ?_) rfl rfl (by as_aux_lemma => kernel_rfl) (by as_aux_lemma => kernel_rfl) (by as_aux_lemma => kernel_rfl) (by as_aux_lemma => kernel_rfl) (by as_aux_lemma => kernel_rfl) (fun _ _ _ h => h) (by rfl) ?_ hS ?_
              rotate_left
              · intro W' hW'
                obtain ⟨s0, s1, s2⟩ := hW'
                all_goals (go_simp; first | done | rfl)
              intro l' hl
              dsimp only [List.set_cons_succ, List.set_cons_zero] at hl
              subst hl
              refine anyX_takeNL 8 (v := ?_) rfl rfl (by as_aux_lemma => kernel_rfl) (by as_aux_lemma => kernel_rfl) (by as_aux_lemma => kernel_rfl) (by as_aux_lemma => kernel_rfl) (by as_aux_lemma => kernel_rfl) (fun _ _ _ h => h) rfl ?_ hS ?_
              rotate_left
              · intro W' hW'
                obtain ⟨s0, s1, s2⟩ := hW'
                all_goals (go_simp; first | done | rfl)
              intro l' hl
              dsimp only [List.set_cons_succ, List.set_cons_zero] at hl
              subst hl
              refine anyX_takeNL 9 (v := ?_) rfl rfl (by as_aux_lemma => kernel_rfl) (by as_aux_lemma => kernel_rfl) (by as_aux_lemma => kernel_rfl) (by as_aux_lemma => kernel_rfl) (by as_aux_lemma => kernel_rfl) (fun _ _ _ h => h) rfl ?_ hS ?_
              rotate_left
              · intro W' hW'
                obtain ⟨s0, s1, s2⟩ := hW'
                all_goals (go_simp; first | done | rfl)
              intro l' hl
              dsimp only [List.set_cons_succ, List.set_cons_zero] at hl
              subst hl
              refine anyX_takeWL 10 (v := ?_) rfl rfl (by as_aux_lemma => kernel_rfl) (by as_aux_lemma => kernel_rfl) (by as_aux_lemma => kernel_rfl) (by as_aux_lemma => kernel_rfl) (by as_aux_lemma => kernel_rfl) (fun _ _ _ h => h) (by rfl) ?_ hS ?_
              rotate_left
              · intro W' hW'
                obtain ⟨s0, s1, s2⟩ := hW'
                all_goals (go_simp; first | done | rfl)
              intro l' hl
              dsimp only [List.set_cons_succ, List.set_cons_zero] at hl
              subst hl
              refine anyX_takeWL 11 (v := ?_) rfl rfl (by as_aux_lemma => kernel_rfl) (by as_aux_lemma => kernel_rfl) (by as_aux_lemma => kernel_rfl) (by as_aux_lemma => kernel_rfl) (by as_aux_lemma => kernel_rfl) (fun _ _ _ h => h) (by rfl) ?_ hS ?_
              rotate_left
              · intro W' hW'
                obtain ⟨s0, s1, s2⟩ := hW'
                all_goals (go_simp; first | done | rfl)
              intro l' hl
              dsimp only [List.set_cons_succ, List.set_cons_zero] at hl
              subst hl
              refine anyX_takeWL 12 (v := ?_) rfl rfl (by as_aux_lemma => kernel_rfl) (by as_aux_lemma => kernel_rfl) (by as_aux_lemma => kernel_rfl) (by as_aux_lemma => kernel_rfl) (by as_aux_lemma => kernel_rfl) (fun _ _ _ h => h) (by rfl) ?_ hS ?_
              rotate_left
              · intro W' hW'
                obtain ⟨s0, s1, s2⟩ := hW'
                all_goals (go_simp; first | done | rfl)
              intro l' hl
              dsimp only [List.set_cons_succ, List.set_cons_zero] at hl
              subst hl
              refine anyX_takeWL 13 (v := ?_) rfl rfl (by as_aux_lemma => kernel_rfl) (by as_aux_lemma => kernel_rfl) (by as_aux_lemma => kernel_rfl) (by as_aux_lemma => kernel_rfl) (by as_aux_lemma => kernel_rfl) (fun _ _ _ h => h) (by rfl) ?_ hS ?_
              rotate_left
              · intro W' hW'
                obtain ⟨s0, s1, s2⟩ := hW'
                all_goals (go_simp; first | done | rfl)
              intro l' hl
              dsimp only [List.set_cons_succ, List.set_cons_zero] at hl
              subst hl
              refine anyX_takeWL 14 (v := ?_) rfl rfl (by as_aux_lemma => kernel_rfl) (by as_aux_lemma => kernel_rfl) (by as_aux_lemma => kernel_rfl) (by as_aux_lemma => kernel_rfl) (by as_aux_lemma => kernel_rfl) (fun _ _ _ h => h) (by rfl) ?_ hS ?_
              rotate_left
              · intro W' hW'
                obtain ⟨s0, s1, s2⟩ := hW'
                all_goals (go_simp; first | done | rfl)
              intro l' hl
              dsimp only [List.set_cons_succ, List.set_cons_zero] at hl
              subst hl
              refine anyX_takeWL 15 (v := ?_) rfl rfl (by as_aux_lemma => kernel_rfl) (by as_aux_lemma => kernel_rfl) (by as_aux_lemma => kernel_rfl) (by as_aux_lemma => kernel_rfl) (by as_aux_lemma => kernel_rfl) (fun _ _ _ h => h) (by rfl) ?_ hS ?_
              rotate_left
              · intro W' hW'
                obtain ⟨s0, s1, s2⟩ := hW'
                all_goals (go_simp; first | done | rfl)
              intro l' hl
              dsimp only [List.set_cons_succ, List.set_cons_zero] at hl
              subst hl
              refine anyX_takeWL 16 (v := ?_) rfl rfl (by as_aux_lemma => kernel_rfl) (by as_aux_lemma => kernel_rfl) (by as_aux_lemma => kernel_rfl) (by as_aux_lemma => kernel_rfl) (by as_aux_lemma => kernel_rfl) (fun _ _ _ h => h) (by rfl) ?_ hS ?_
              rotate_left
              · intro W' hW'
                obtain ⟨s0, s1, s2⟩ := hW'
                all_goals (go_simp; first | done | rfl)
              intro l' hl
              dsimp only [List.set_cons_succ, List.set_cons_zero] at hl
              subst hl
              refine anyX_takeWL 17 (v := ?_) rfl rfl (by as_aux_lemma => kernel_rfl) (by as_aux_lemma => kernel_rfl) (by as_aux_lemma => kernel_rfl) (by as_aux_lemma => kernel_rfl) (by as_aux_lemma => kernel_rfl) (fun _ _ _ h => h) (by rfl) ?_ hS ?_
              rotate_left
              · intro W' hW'
                obtain ⟨s0, s1, s2⟩ := hW'
                all_goals (go_simp; first | done | rfl)
              intro l' hl
              dsimp only [List.set_cons_succ, List.set_cons_zero] at hl
              subst hl
              refine anyX_takeWL 18 (v := ?_) rfl rfl (by as_aux_lemma => kernel_rfl) (by as_aux_lemma => kernel_rfl) (by as_aux_lemma => kernel_rfl) (by as_aux_lemma => kernel_rfl) (by as_aux_lemma => kernel_rfl) (fun _ _ _ h => h) (by rfl) ?_ hS ?_
              rotate_left
              · intro W' hW'
                obtain ⟨s0, s1, s2⟩ := hW'
                all_goals (go_simp; first | done | rfl)
              intro l' hl
              dsimp only [List.set_cons_succ, List.set_cons_zero] at hl
              subst hl
              refine anyX_takeWL 19 (v := ?_) rfl rfl (by as_aux_lemma => kernel_rfl) (by as_aux_lemma => kernel_rfl) (by as_aux_lemma => kernel_rfl) (by as_aux_lemma => kernel_rfl) (by as_aux_lemma => kernel_rfl) (fun _ _ _ h => h) (by rfl) ?_ hS ?_
              rotate_left
              · intro W' hW'
                obtain ⟨s0, s1, s2⟩ := hW'
                all_goals (go_simp; first | done | rfl)
              intro l' hl
              dsimp only [List.set_cons_succ, List.set_cons_zero] at hl
              subst hl
              refine anyX_takeWL 20 (v := ?_) rfl rfl (by as_aux_lemma => kernel_rfl) (by as_aux_lemma => kernel_rfl) (by as_aux_lemma => kernel_rfl) (by as_aux_lemma => kernel_rfl) (by as_aux_lemma => kernel_rfl) (fun _ _ _ h => h) (by rfl) ?_ hS ?_
              rotate_left
              · intro W' hW'
                obtain ⟨s0, s1, s2⟩ := hW'
                all_goals (go_simp; first | done | rfl)
              intro l' hl
              dsimp only [List.set_cons_succ, List.set_cons_zero] at hl
              subst hl
              refine anyX_takeWL 21 (v := ?_) rfl rfl (by as_aux_lemma => kernel_rfl) (by as_aux_lemma => kernel_rfl) (by as_aux_lemma => kernel_rfl) (by as_aux_lemma => kernel_rfl) (by as_aux_lemma => kernel_rfl) (fun _ _ _ h => h) (by rfl) ?_ hS ?_
              rotate_left
              · intro W' hW'
                obtain ⟨s0, s1, s2⟩ := hW'
                all_goals (go_simp; first | done | rfl)
              intro l' hl
              dsimp only [List.set_cons_succ, List.set_cons_zero] at hl
              subst hl
              refine anyX_oneW (i := 22) (by kernel_rfl) rfl (by rfl) fun K' hK' => ?_
              unfold Oper.wp
              go_simp
              refine (pair _ x hxr).mono ?_
              rintro e w54 ⟨rfl, bb⟩
              have bb : Below w53.heap.size w53 w54 := ⟨bb.os, bb.tape, bb.output, bb.size, bb.block⟩
              have nn := bb.nw ow53
              replace hs := hs.new_ nn
              replace hp := hp.new_ nn
              replace hw := hw.new_ nn
              replace ho := ho.new_ nn
              replace hz := hz.new_ nn
              replace t := t.trans (nn.turn [1])
              clear nn
              clear bb hS z0 z1 e0
              have z0 := hz.get 0 rfl
              have z1 := hz.get 1 rfl
              simp only [Nat.zero_add] at z0 z1
              obtain ⟨-, -, -, hcell⟩ := hw.open_
              have e0 := hcell (zs.length * 1 + 0) _ (EInt.css_at xs zs.length x hlast 0 _ rfl (by omega))
              simp only [Nat.mul_one, Nat.add_zero] at e0
              clear hcell
              have hS : (fun W' : World => W'.cell? ⟨gz, 0, none⟩ = some (.int .i64 x) ∧ W'.cell? ⟨gz, 1, none⟩ = some (.string (tx x)) ∧ W'.cell? ⟨g5, off5 + zs.length, none⟩ = some (.int .i64 x)) w54 := ⟨z0, z1, e0⟩
              refine hK' _ _ (fun _ => hS) ?_
              clear hK' K'
              refine anyX_takeWL 23 (v := ?_) rfl rfl (by as_aux_lemma => kernel_rfl) (by as_aux_lemma => kernel_rfl) (by as_aux_lemma => kernel_rfl) (by as_aux_lemma => kernel_rfl) (by as_aux_lemma => kernel_rfl) (fun _ _ _ h => h) (by rfl) ?_ hS ?_
              rotate_left
              · intro W' hW'
                obtain ⟨s0, s1, s2⟩ := hW'
                all_goals (go_simp; first | done | rfl)
              intro l' hl
              dsimp only [List.set_cons_succ, List.set_cons_zero] at hl
              subst hl
              refine anyX_takeWL 24 (v := ?_) rfl rfl (by as_aux_lemma => kernel_rfl) (by as_aux_lemma => kernel_rfl) (by as_aux_lemma => kernel_rfl) (by as_aux_lemma => kernel_rfl) (by as_aux_lemma => kernel_rfl) (fun _ _ _ h => h) (by rfl) ?_ hS ?_
              rotate_left
              · intro W' hW'
                obtain ⟨s0, s1, s2⟩ := hW'
                all_goals (go_simp; first | done | rfl)
              intro l' hl
              dsimp only [List.set_cons_succ, List.set_cons_zero] at hl
              subst hl
              refine anyX_takeWL 25 (v := ?_) rfl rfl (by as_aux_lemma => kernel_rfl) (by as_aux_lemma => kernel_rfl) (by as_aux_lemma => kernel_rfl) (by as_aux_lemma => kernel_rfl) (by as_aux_lemma => kernel_rfl) (fun _ _ _ h => h) (by rfl) ?_ hS ?_
              rotate_left
              · intro W' hW'
                obtain ⟨s0, s1, s2⟩ := hW'
                all_goals (go_simp; first | done | rfl)
              intro l' hl
              dsimp only [List.set_cons_succ, List.set_cons_zero] at hl
              subst hl
              refine anyX_takeNL 26 (v := ?_) rfl rfl (by as_aux_lemma => kernel_rfl) (by as_aux_lemma => kernel_rfl) (by as_aux_lemma => kernel_rfl) (by as_aux_lemma => kernel_rfl) (by as_aux_lemma => kernel_rfl) (fun _ _ _ h => h) rfl ?_ hS ?_
              rotate_left
              · intro W' hW'
                obtain ⟨s0, s1, s2⟩ := hW'
                all_goals (go_simp; first | done | rfl)
              intro l' hl
              dsimp only [List.set_cons_succ, List.set_cons_zero] at hl
              subst hl
              refine anyX_takeNL 27 (v := ?_) rfl rfl (by as_aux_lemma => kernel_rfl) (by as_aux_lemma => kernel_rfl) (by as_aux_lemma => kernel_rfl) (by as_aux_lemma => kernel_rfl) (by as_aux_lemma => kernel_rfl) (fun _ _ _ h => h) rfl ?_ hS ?_
              rotate_left
              · intro W' hW'
                obtain ⟨s0, s1, s2⟩ := hW'
                all_goals (go_simp; first | done | rfl)
              intro l' hl
              dsimp only [List.set_cons_succ, List.set_cons_zero] at hl
              subst hl
              refine anyX_takeWL 28 (v := ?_) rfl rfl (by as_aux_lemma => kernel_rfl) (by as_aux_lemma => kernel_rfl) (by as_aux_lemma => kernel_rfl) (by as_aux_lemma => kernel_rfl) (by as_aux_lemma => kernel_rfl) (fun _ _ _ h => h) (by rfl) ?_ hS ?_
              rotate_left
              · intro W' hW'
                obtain ⟨s0, s1, s2⟩ := hW'
                all_goals (go_simp; first | done | rfl)
              intro l' hl
              dsimp only [List.set_cons_succ, List.set_cons_zero] at hl
              subst hl
              refine anyX_takeWL 29 (v := ?_) rfl rfl (by as_aux_lemma => kernel_rfl) (by as_aux_lemma => kernel_rfl) (by as_aux_lemma => kernel_rfl) (by as_aux_lemma => kernel_rfl) (by as_aux_lemma => kernel_rfl) (fun _ _ _ h => h) (by rfl) ?_ hS ?_
              rotate_left
              · intro W' hW'
                obtain ⟨s0, s1, s2⟩ := hW'
                all_goals (go_simp; first | done | rfl)
              intro l' hl
              dsimp only [List.set_cons_succ, List.set_cons_zero] at hl
              subst hl
              refine anyX_takeWL 30 (v := ?_) rfl rfl (by as_aux_lemma => kernel_rfl) (by as_aux_lemma => kernel_rfl) (by as_aux_lemma => kernel_rfl) (by as_aux_lemma => kernel_rfl) (by as_aux_lemma => kernel_rfl) (fun _ _ _ h => h) (by rfl) ?_ hS ?_
              rotate_left
              · intro W' hW'
                obtain ⟨s0, s1, s2⟩ := hW'
                all_goals (go_simp; first | done | rfl)
              intro l' hl
              dsimp only [List.set_cons_succ, List.set_cons_zero] at hl
              subst hl
              refine anyX_takeUL 31 rfl rfl (by as_aux_lemma => kernel_rfl) (by as_aux_lemma => kernel_rfl) (by as_aux_lemma => kernel_rfl) (by as_aux_lemma => kernel_rfl) (by as_aux_lemma => kernel_rfl) (fun _ _ _ h => h) (by rfl) hS ?_
              intro l' hl
              dsimp only [List.set_cons_succ, List.set_cons_zero] at hl
              subst hl
              refine anyX_takeUL 32 rfl rfl (by as_aux_lemma => kernel_rfl) (by as_aux_lemma => kernel_rfl) (by as_aux_lemma => kernel_rfl) (by as_aux_lemma => kernel_rfl) (by as_aux_lemma => kernel_rfl) (fun _ _ _ h => h) (by rfl) hS ?_
              intro l' hl
              dsimp only [List.set_cons_succ, List.set_cons_zero] at hl
              subst hl
              refine anyX_takeUL 33 rfl rfl (by as_aux_lemma => kernel_rfl) (by as_aux_lemma => kernel_rfl) (by as_aux_lemma => kernel_rfl) (by as_aux_lemma => kernel_rfl) (by as_aux_lemma => kernel_rfl) (fun _ _ _ h => h) (by rfl) hS ?_
              intro l' hl
              dsimp only [List.set_cons_succ, List.set_cons_zero] at hl
              subst hl
              refine anyX_takeUL 34 rfl rfl (by as_aux_lemma => kernel_rfl) (by as_aux_lemma => kernel_rfl) (by as_aux_lemma => kernel_rfl) (by as_aux_lemma => kernel_rfl) (by as_aux_lemma => kernel_rfl) (fun _ _ _ h => h) (by rfl) hS ?_
              intro l' hl
              dsimp only [List.set_cons_succ, List.set_cons_zero] at hl
              subst hl
              refine anyX_takeUL 35 rfl rfl (by as_aux_lemma => kernel_rfl) (by as_aux_lemma => kernel_rfl) (by as_aux_lemma => kernel_rfl) (by as_aux_lemma => kernel_rfl) (by as_aux_lemma => kernel_rfl) (fun _ _ _ h => h) (by rfl) hS ?_
              intro l' hl
              dsimp only [List.set_cons_succ, List.set_cons_zero] at hl
              subst hl
              refine anyX_takeUL 36 rfl rfl (by as_aux_lemma => kernel_rfl) (by as_aux_lemma => kernel_rfl) (by as_aux_lemma => kernel_rfl) (by as_aux_lemma => kernel_rfl) (by as_aux_lemma => kernel_rfl) (fun _ _ _ h => h) (by rfl) hS ?_
              intro l' hl
              dsimp only [List.set_cons_succ, List.set_cons_zero] at hl
              subst hl
              refine anyX_takeUL 37 rfl rfl (by as_aux_lemma => kernel_rfl) (by as_aux_lemma => kernel_rfl) (by as_aux_lemma => kernel_rfl) (by as_aux_lemma => kernel_rfl) (by as_aux_lemma => kernel_rfl) (fun _ _ _ h => h) (by rfl) hS ?_
              intro l' hl
              dsimp only [List.set_cons_succ, List.set_cons_zero] at hl
              subst hl
              refine anyX_takeWL 38 (v := ?_) rfl rfl (by as_aux_lemma => kernel_rfl) (by as_aux_lemma => kernel_rfl) (by as_aux_lemma => kernel_rfl) (by as_aux_lemma => kernel_rfl) (by as_aux_lemma => kernel_rfl) (fun _ _ _ h => h) (by rfl) ?_ hS ?_
              rotate_left
              · intro W' hW'
                obtain ⟨s0, s1, s2⟩ := hW'
                all_goals (go_simp; first | done | rfl)
              intro l' hl
              dsimp only [List.set_cons_succ, List.set_cons_zero] at hl
              subst hl
              refine anyX_takeNL 39 (v := ?_) rfl rfl (by as_aux_lemma => kernel_rfl) (by as_aux_lemma => kernel_rfl) (by as_aux_lemma => kernel_rfl) (by as_aux_lemma => kernel_rfl) (by as_aux_lemma => kernel_rfl) (fun _ _ _ h => h) rfl ?_ hS ?_
              rotate_left
              · intro W' hW'
                obtain ⟨s0, s1, s2⟩ := hW'
                all_goals (go_simp; first | done | rfl)
              intro l' hl
              dsimp only [List.set_cons_succ, List.set_cons_zero] at hl
              subst hl
              refine anyX_done (by kernel_rfl) ?_ _
              refine NoPanic.normal ?_
              clear hS z0 z1 e0
              go_wp2_with fail
              go_meet
              exact ⟨ow53, zs, by have := Hlx.out; omega, Hzr.out, hs, hp, by
                have h := (hw.take zs.length (by have := Hlx.out; omega)).clip
                rw [← EInt.css_take, Hxs.out, List.take_left' rfl] at h
                exact h, ho, t⟩
          · have b1 : (o.kind == 1) = false := beq_eq_false_iff_ne.2 k1
            clear k1
            go_wp2_with fail
            go_meet
            exact ⟨ow3, xs, hxl, Hxr.out, hs, hp, hw, ho, t⟩
        case rest =>
          clear hs hp hw ho t Hxr hxl o0 o2
          obtain ⟨ow4, xs, hxl, hxr, hs, hp, hw, ho, t⟩ := hcut
          have Hxr := Lib.hid hxr
          clear hxr
          obtain ⟨w4, rfl⟩ : ∃ w4 : World, w4 = wc := ⟨_, rfl⟩
          obtain ⟨A6, c6, rfl, hnc⟩ := hw.slice
          rcases List.eq_nil_or_concat xs with hxs | ⟨zs, x, hxs⟩
          · subst hxs
            have hout : o.n < 0 ∨ (([] : List Int).length : Int) ≤ o.n := by simp only [List.length_nil]; omega
            go_wp2_with fail
            refine (EInt.s_top_none w4 ow4 [1, 0, 0] g3 0 hs).mono ?_
            rintro e w61 ⟨rfl, bb⟩
            have nn := bb.nw ow4
            replace hs := hs.new_ nn
            replace hp := hp.new_ nn
            replace hw := hw.new_ nn
            replace ho := ho.new_ nn
            replace t := t.trans (nn.turn [1])
            clear nn
            clear bb
            have hl2 : (([] : List Int).map mkP).length = ([] : List Int).length := List.length_map _
            go_wp2_with fail
            refine (EInt.s_len w61 ow4 [1, 0, 0] g3 0 ([] : List Int) hs).mono ?_
            rintro e w62 ⟨rfl, kk, hw'⟩
            have nn := ((Below.refl w61.heap.size w61).nw ow4).drewN kk
            rw [← hw'] at nn
            clear hw'
            replace hs := hs.new_ nn
            replace hp := hp.new_ nn
            replace hw := hw.new_ nn
            replace ho := ho.new_ nn
            replace t := t.trans (nn.turn [1])
            clear nn
            have hlen2 := EPr.s_len w62 ow4 [1, 0, 1] g4 0 _ hp
            rw [List.length_map] at hlen2
            clear hl2
            go_wp2_with fail
            refine (hlen2).mono ?_
            rintro e w63 ⟨rfl, kk, hw'⟩
            have nn := ((Below.refl w62.heap.size w62).nw ow4).drewN kk
            rw [← hw'] at nn
            clear hw'
            replace hs := hs.new_ nn
            replace hp := hp.new_ nn
            replace hw := hw.new_ nn
            replace ho := ho.new_ nn
            replace t := t.trans (nn.turn [1])
            clear nn
            clear hlen2
            have o2 := ho.get 2 rfl
            simp only [Nat.zero_add] at o2
            go_wp2_with fail
            refine (EInt.s_at_out w63 ow4 [1, 0, 0] g3 0 ([] : List Int) hs o.n hout).mono ?_
            rintro e w64 ⟨rfl, bb⟩
            have nn := bb.nw ow4
            replace hs := hs.new_ nn
            replace hp := hp.new_ nn
            replace hw := hw.new_ nn
            replace ho := ho.new_ nn
            replace t := t.trans (nn.turn [1])
            clear nn
            clear bb
            clear o2
            have o2 := ho.get 2 rfl
            simp only [Nat.zero_add] at o2
            go_wp2_with fail
            refine (EPr.s_at_out w64 ow4 [1, 0, 1] g4 0 _ hp o.n (by rw [List.length_map]; exact hout)).mono ?_
            rintro e w65 ⟨rfl, bb⟩
            have nn := bb.nw ow4
            replace hs := hs.new_ nn
            replace hp := hp.new_ nn
            replace hw := hw.new_ nn
            replace ho := ho.new_ nn
            replace t := t.trans (nn.turn [1])
            clear nn
            clear bb
            clear o2
            have o2 := ho.get 2 rfl
            simp only [Nat.zero_add] at o2
            go_upto_region 27 with fail
            obtain ⟨owx, bx, nn, -⟩ := add_cells w65 ow4 [9, 66] [.int .i64 0, .string ⟨#[]⟩] 62
            refine gen_world (fun W => ∃ OW, EInt.St W OW [1, 0, 0] g3 0 ([] : List Int) ∧ EPr.St W OW [1, 0, 1] g4 0 (([] : List Int).map mkP) ∧ Row W OW [1, 2] 3 1 (.slice A6 ([] : List Int).length c6) ([] : List Int).length (EInt.css ([] : List Int)) ∧ Cells W OW [1, 3] gx 0 [.int .i64 o.kind, .int .i64 o.level, .int .i64 o.n] ∧ Cells W OW [9, 66] w65.heap.size 0 [.int .i64 0, .string ⟨#[]⟩] ∧ Turn [1] w ow0 W OW) ⟨owx, hs.new_ nn, hp.new_ nn, hw.new_ nn, ho.new_ nn, bx, t.trans (nn.turn [1])⟩ ?_
            clear hs hp hw ho bx t nn owx
            rintro w66 ⟨ow66, hs, hp, hw, ho, hz, t⟩
            generalize w65.heap.size = gz at *
            clear o2
            have o2 := ho.get 2 rfl
            simp only [Nat.zero_add] at o2
            go_cut [18] from 150 to 150 (fun s18 wx => w66 = wx ∧ s18 = .bool false)
            case first =>
              rcases hout with hneg | hbig
              · have j0 : ¬ (0 : Int) ≤ o.n := by omega
                go_wp2_with fail
                go_meet
                exact ⟨rfl, rfl⟩
              · have j0 : (0 : Int) ≤ o.n := by omega
                have j1 : ¬ o.n < 0 := by simp only [List.length_nil] at hbig; omega
                go_wp2_with fail
                go_meet
                exact ⟨rfl, rfl⟩
            case rest =>
              obtain ⟨rfl, rfl⟩ := hcut
              go_wp2_with fail
              refine plain_regionN (fun _ => True) [] (by kernel_rfl) ?_
              have hS : (fun _ : World => True) w66.drew := trivial
              refine anyX_takeNL 0 (v := ?_) rfl rfl (by as_aux_lemma => kernel_rfl) (by as_aux_lemma => kernel_rfl) (by as_aux_lemma => kernel_rfl) (by as_aux_lemma => kernel_rfl) (by as_aux_lemma => kernel_rfl) (fun _ _ _ h => h) rfl ?_ hS ?_
              rotate_left
              · intro W' hW'
                obtain - := hW'
                all_goals (go_simp; first | done | rfl)
              intro l' hl
              dsimp only [List.set_cons_succ, List.set_cons_zero] at hl
              subst hl
              refine anyX_takeNL 1 (v := ?_) rfl rfl (by as_aux_lemma => kernel_rfl) (by as_aux_lemma => kernel_rfl) (by as_aux_lemma => kernel_rfl) (by as_aux_lemma => kernel_rfl) (by as_aux_lemma => kernel_rfl) (fun _ _ _ h => h) rfl ?_ hS ?_
              rotate_left
              · intro W' hW'
                obtain - := hW'
                all_goals (go_simp; first | done | rfl)
              intro l' hl
              dsimp only [List.set_cons_succ, List.set_cons_zero] at hl
              subst hl
              refine anyX_takeNL 2 (v := ?_) rfl rfl (by as_aux_lemma => kernel_rfl) (by as_aux_lemma => kernel_rfl) (by as_aux_lemma => kernel_rfl) (by as_aux_lemma => kernel_rfl) (by as_aux_lemma => kernel_rfl) (fun _ _ _ h => h) rfl ?_ hS ?_
              rotate_left
              · intro W' hW'
                obtain - := hW'
                all_goals (go_simp; first | done | rfl)
              intro l' hl
              dsimp only [List.set_cons_succ, List.set_cons_zero] at hl
              subst hl
              refine anyX_takeNL 3 (v := ?_) rfl rfl (by as_aux_lemma => kernel_rfl) (by as_aux_lemma => kernel_rfl) (by as_aux_lemma => kernel_rfl) (by as_aux_lemma => kernel_rfl) (by as_aux_lemma => kernel_rfl) (fun _ _ _ h => h) rfl ?_ hS ?_
              rotate_left
              · intro W' hW'
                obtain - := hW'
                all_goals (go_simp; first | done | rfl)
              intro l' hl
              dsimp only [List.set_cons_succ, List.set_cons_zero] at hl
              subst hl
              refine anyX_takeWL 4 (v := ?_) rfl rfl (by as_aux_lemma => kernel_rfl) (by as_aux_lemma => kernel_rfl) (by as_aux_lemma => kernel_rfl) (by as_aux_lemma => kernel_rfl) (by as_aux_lemma => kernel_rfl) (fun _ _ _ h => h) (by rfl) ?_ hS ?_
              rotate_left
              · intro W' hW'
                obtain - := hW'
                all_goals (go_simp; first | done | rfl)
              intro l' hl
              dsimp only [List.set_cons_succ, List.set_cons_zero] at hl
              subst hl
              refine anyX_takeWL 5 (v := ?_) rfl rfl (by as_aux_lemma => kernel_rfl) (by as_aux_lemma => kernel_rfl) (by as_aux_lemma => kernel_rfl) (by as_aux_lemma => kernel_rfl) (by as_aux_lemma => kernel_rfl) (fun _ _ _ h => h) (by rfl) ?_ hS ?_
              rotate_left
              · intro W' hW'
                obtain - := hW'
                all_goals (go_simp; first | done | rfl)
              intro l' hl
              dsimp only [List.set_cons_succ, List.set_cons_zero] at hl
              subst hl
              refine anyX_takeWL 6 (v := ?_) rfl rfl (by as_aux_lemma => kernel_rfl) (by as_aux_lemma => kernel_rfl) (by as_aux_lemma => kernel_rfl) (by as_aux_lemma => kernel_rfl) (by as_aux_lemma => kernel_rfl) (fun _ _ _ h => h) (by rfl) ?_ hS ?_
              rotate_left
              · intro W' hW'
                obtain - := hW'
                all_goals (go_simp; first | done | rfl)
              intro l' hl
              dsimp only [List.set_cons_succ, List.set_cons_zero] at hl
              subst hl
              refine anyX_takeNL 7 (v := ?_) rfl rfl (by as_aux_lemma => kernel_rfl) (by as_aux_lemma => kernel_rfl) (by as_aux_lemma => kernel_rfl) (by as_aux_lemma => kernel_rfl) (by as_aux_lemma => kernel_rfl) (fun _ _ _ h => h) rfl ?_ hS ?_
              rotate_left
              · intro W' hW'
                obtain - := hW'
                all_goals (go_simp; first | done | rfl)
              intro l' hl
              dsimp only [List.set_cons_succ, List.set_cons_zero] at hl
              subst hl
              refine anyX_takeNL 8 (v := ?_) rfl rfl (by as_aux_lemma => kernel_rfl) (by as_aux_lemma => kernel_rfl) (by as_aux_lemma => kernel_rfl) (by as_aux_lemma => kernel_rfl) (by as_aux_lemma => kernel_rfl) (fun _ _ _ h => h) rfl ?_ hS ?_
              rotate_left
              · intro W' hW'
                obtain - := hW'
                all_goals (go_simp; first | done | rfl)
              intro l' hl
              dsimp only [List.set_cons_succ, List.set_cons_zero] at hl
              subst hl
              refine anyX_takeWL 9 (v := ?_) rfl rfl (by as_aux_lemma => kernel_rfl) (by as_aux_lemma => kernel_rfl) (by as_aux_lemma => kernel_rfl) (by as_aux_lemma => kernel_rfl) (by as_aux_lemma => kernel_rfl) (fun _ _ _ h => h) (by rfl) ?_ hS ?_
              rotate_left
              · intro W' hW'
                obtain - := hW'
                all_goals (go_simp; first | done | rfl)
              intro l' hl
              dsimp only [List.set_cons_succ, List.set_cons_zero] at hl
              subst hl
              refine anyX_takeWL 10 (v := ?_) rfl rfl (by as_aux_lemma => kernel_rfl) (by as_aux_lemma => kernel_rfl) (by as_aux_lemma => kernel_rfl) (by as_aux_lemma => kernel_rfl) (by as_aux_lemma => kernel_rfl) (fun _ _ _ h => h) (by rfl) ?_ hS ?_
              rotate_left
              · intro W' hW'
                obtain - := hW'
                all_goals (go_simp; first | done | rfl)
              intro l' hl
              dsimp only [List.set_cons_succ, List.set_cons_zero] at hl
              subst hl
              refine anyX_takeUL 11 rfl rfl (by as_aux_lemma => kernel_rfl) (by as_aux_lemma => kernel_rfl) (by as_aux_lemma => kernel_rfl) (by as_aux_lemma => kernel_rfl) (by as_aux_lemma => kernel_rfl) (fun _ _ _ h => h) (by rfl) hS ?_
              intro l' hl
              dsimp only [List.set_cons_succ, List.set_cons_zero] at hl
              subst hl
              refine anyX_takeUL 12 rfl rfl (by as_aux_lemma => kernel_rfl) (by as_aux_lemma => kernel_rfl) (by as_aux_lemma => kernel_rfl) (by as_aux_lemma => kernel_rfl) (by as_aux_lemma => kernel_rfl) (fun _ _ _ h => h) (by rfl) hS ?_
              intro l' hl
              dsimp only [List.set_cons_succ, List.set_cons_zero] at hl
              subst hl
              refine anyX_takeUL 13 rfl rfl (by as_aux_lemma => kernel_rfl) (by as_aux_lemma => kernel_rfl) (by as_aux_lemma => kernel_rfl) (by as_aux_lemma => kernel_rfl) (by as_aux_lemma => kernel_rfl) (fun _ _ _ h => h) (by rfl) hS ?_
              intro l' hl
              dsimp only [List.set_cons_succ, List.set_cons_zero] at hl
              subst hl
              refine anyX_takeUL 14 rfl rfl (by as_aux_lemma => kernel_rfl) (by as_aux_lemma => kernel_rfl) (by as_aux_lemma => kernel_rfl) (by as_aux_lemma => kernel_rfl) (by as_aux_lemma => kernel_rfl) (fun _ _ _ h => h) (by rfl) hS ?_
              intro l' hl
              dsimp only [List.set_cons_succ, List.set_cons_zero] at hl
              subst hl
              refine anyX_takeUL 15 rfl rfl (by as_aux_lemma => kernel_rfl) (by as_aux_lemma => kernel_rfl) (by as_aux_lemma => kernel_rfl) (by as_aux_lemma => kernel_rfl) (by as_aux_lemma => kernel_rfl) (fun _ _ _ h => h) (by rfl) hS ?_
              intro l' hl
              dsimp only [List.set_cons_succ, List.set_cons_zero] at hl
              subst hl
              refine anyX_takeUL 16 rfl rfl (by as_aux_lemma => kernel_rfl) (by as_aux_lemma => kernel_rfl) (by as_aux_lemma => kernel_rfl) (by as_aux_lemma => kernel_rfl) (by as_aux_lemma => kernel_rfl) (fun _ _ _ h => h) (by rfl) hS ?_
              intro l' hl
              dsimp only [List.set_cons_succ, List.set_cons_zero] at hl
              subst hl
              refine anyX_takeUL 17 rfl rfl (by as_aux_lemma => kernel_rfl) (by as_aux_lemma => kernel_rfl) (by as_aux_lemma => kernel_rfl) (by as_aux_lemma => kernel_rfl) (by as_aux_lemma => kernel_rfl) (fun _ _ _ h => h) (by rfl) hS ?_
              intro l' hl
              dsimp only [List.set_cons_succ, List.set_cons_zero] at hl
              subst hl
              refine anyX_takeUL 18 rfl rfl (by as_aux_lemma => kernel_rfl) (by as_aux_lemma => kernel_rfl) (by as_aux_lemma => kernel_rfl) (by as_aux_lemma => kernel_rfl) (by as_aux_lemma => kernel_rfl) (fun _ _ _ h => h) (by rfl) hS ?_
              intro l' hl
              dsimp only [List.set_cons_succ, List.set_cons_zero] at hl
              subst hl
              refine anyX_takeUL 19 rfl rfl (by as_aux_lemma => kernel_rfl) (by as_aux_lemma => kernel_rfl) (by as_aux_lemma => kernel_rfl) (by as_aux_lemma => kernel_rfl) (by as_aux_lemma => kernel_rfl) (fun _ _ _ h => h) (by rfl) hS ?_
              intro l' hl
              dsimp only [List.set_cons_succ, List.set_cons_zero] at hl
              subst hl
              refine anyX_takeUL 20 rfl rfl (by as_aux_lemma => kernel_rfl) (by as_aux_lemma => kernel_rfl) (by as_aux_lemma => kernel_rfl) (by as_aux_lemma => kernel_rfl) (by as_aux_lemma => kernel_rfl) (fun _ _ _ h => h) (by rfl) hS ?_
              intro l' hl
              dsimp only [List.set_cons_succ, List.set_cons_zero] at hl
              subst hl
              refine anyX_takeUL 21 rfl rfl (by as_aux_lemma => kernel_rfl) (by as_aux_lemma => kernel_rfl) (by as_aux_lemma => kernel_rfl) (by as_aux_lemma => kernel_rfl) (by as_aux_lemma => kernel_rfl) (fun _ _ _ h => h) (by rfl) hS ?_
              intro l' hl
              dsimp only [List.set_cons_succ, List.set_cons_zero] at hl
              subst hl
              refine anyX_takeUL 22 rfl rfl (by as_aux_lemma => kernel_rfl) (by as_aux_lemma => kernel_rfl) (by as_aux_lemma => kernel_rfl) (by as_aux_lemma => kernel_rfl) (by as_aux_lemma => kernel_rfl) (fun _ _ _ h => h) (by rfl) hS ?_
              intro l' hl
              dsimp only [List.set_cons_succ, List.set_cons_zero] at hl
              subst hl
              refine anyX_takeUL 23 rfl rfl (by as_aux_lemma => kernel_rfl) (by as_aux_lemma => kernel_rfl) (by as_aux_lemma => kernel_rfl) (by as_aux_lemma => kernel_rfl) (by as_aux_lemma => kernel_rfl) (fun _ _ _ h => h) (by rfl) hS ?_
              intro l' hl
              dsimp only [List.set_cons_succ, List.set_cons_zero] at hl
              subst hl
              refine anyX_takeWL 24 (v := ?_) rfl rfl (by as_aux_lemma => kernel_rfl) (by as_aux_lemma => kernel_rfl) (by as_aux_lemma => kernel_rfl) (by as_aux_lemma => kernel_rfl) (by as_aux_lemma => kernel_rfl) (fun _ _ _ h => h) (by rfl) ?_ hS ?_
              rotate_left
              · intro W' hW'
                obtain - := hW'
                all_goals (go_simp; first | done | rfl)
              intro l' hl
              dsimp only [List.set_cons_succ, List.set_cons_zero] at hl
              subst hl
              refine anyX_takeNL 25 (v := ?_) rfl rfl (by as_aux_lemma => kernel_rfl) (by as_aux_lemma => kernel_rfl) (by as_aux_lemma => kernel_rfl) (by as_aux_lemma => kernel_rfl) (by as_aux_lemma => kernel_rfl) (fun _ _ _ h => h) rfl ?_ hS ?_
              rotate_left
              · intro W' hW'
                obtain - := hW'
                all_goals (go_simp; first | done | rfl)
              intro l' hl
              dsimp only [List.set_cons_succ, List.set_cons_zero] at hl
              subst hl
              refine anyX_takeNL 26 (v := ?_) rfl rfl (by as_aux_lemma => kernel_rfl) (by as_aux_lemma => kernel_rfl) (by as_aux_lemma => kernel_rfl) (by as_aux_lemma => kernel_rfl) (by as_aux_lemma => kernel_rfl) (fun _ _ _ h => h) rfl ?_ hS ?_
              rotate_left
              · intro W' hW'
                obtain - := hW'
                all_goals (go_simp; first | done | rfl)
              intro l' hl
              dsimp only [List.set_cons_succ, List.set_cons_zero] at hl
              subst hl
              refine anyX_takeWL 27 (v := ?_) rfl rfl (by as_aux_lemma => kernel_rfl) (by as_aux_lemma => kernel_rfl) (by as_aux_lemma => kernel_rfl) (by as_aux_lemma => kernel_rfl) (by as_aux_lemma => kernel_rfl) (fun _ _ _ h => h) (by rfl) ?_ hS ?_
              rotate_left
              · intro W' hW'
                obtain - := hW'
                all_goals (go_simp; first | done | rfl)
              intro l' hl
              dsimp only [List.set_cons_succ, List.set_cons_zero] at hl
              subst hl
              refine anyX_takeWL 28 (v := ?_) rfl rfl (by as_aux_lemma => kernel_rfl) (by as_aux_lemma => kernel_rfl) (by as_aux_lemma => kernel_rfl) (by as_aux_lemma => kernel_rfl) (by as_aux_lemma => kernel_rfl) (fun _ _ _ h => h) (by rfl) ?_ hS ?_
              rotate_left
              · intro W' hW'
                obtain - := hW'
                all_goals (go_simp; first | done | rfl)
              intro l' hl
              dsimp only [List.set_cons_succ, List.set_cons_zero] at hl
              subst hl
              refine anyX_takeWL 29 (v := ?_) rfl rfl (by as_aux_lemma => kernel_rfl) (by as_aux_lemma => kernel_rfl) (by as_aux_lemma => kernel_rfl) (by as_aux_lemma => kernel_rfl) (by as_aux_lemma => kernel_rfl) (fun _ _ _ h => h) (by rfl) ?_ hS ?_
              rotate_left
              · intro W' hW'
                obtain - := hW'
                all_goals (go_simp; first | done | rfl)
              intro l' hl
              dsimp only [List.set_cons_succ, List.set_cons_zero] at hl
              subst hl
              refine anyX_takeWL 30 (v := ?_) rfl rfl (by as_aux_lemma => kernel_rfl) (by as_aux_lemma => kernel_rfl) (by as_aux_lemma => kernel_rfl) (by as_aux_lemma => kernel_rfl) (by as_aux_lemma => kernel_rfl) (fun _ _ _ h => h) (by rfl) ?_ hS ?_
              rotate_left
              · intro W' hW'
                obtain - := hW'
                all_goals (go_simp; first | done | rfl)
              intro l' hl
              dsimp only [List.set_cons_succ, List.set_cons_zero] at hl
              subst hl
              refine anyX_takeWL 31 (v := ?_) rfl rfl (by as_aux_lemma => kernel_rfl) (by as_aux_lemma => kernel_rfl) (by as_aux_lemma => kernel_rfl) (by as_aux_lemma => kernel_rfl) (by as_aux_lemma => kernel_rfl) (fun _ _ _ h => h) (by rfl) ?_ hS ?_
              rotate_left
              · intro W' hW'
                obtain - := hW'
                all_goals (go_simp; first | done | rfl)
              intro l' hl
              dsimp only [List.set_cons_succ, List.set_cons_zero] at hl
              subst hl
              refine anyX_takeWL 32 (v := ?_) rfl rfl (by as_aux_lemma => kernel_rfl) (by as_aux_lemma => kernel_rfl) (by as_aux_lemma => kernel_rfl) (by as_aux_lemma => kernel_rfl) (by as_aux_lemma => kernel_rfl) (fun _ _ _ h => h) (by rfl) ?_ hS ?_
              rotate_left
              · intro W' hW'
                obtain - := hW'
                all_goals (go_simp; first | done | rfl)
              intro l' hl
              dsimp only [List.set_cons_succ, List.set_cons_zero] at hl
              subst hl
              refine anyX_takeNL 33 (v := ?_) rfl rfl (by as_aux_lemma => kernel_rfl) (by as_aux_lemma => kernel_rfl) (by as_aux_lemma => kernel_rfl) (by as_aux_lemma => kernel_rfl) (by as_aux_lemma => kernel_rfl) (fun _ _ _ h => h) rfl ?_ hS ?_
              rotate_left
              · intro W' hW'
                obtain - := hW'
                all_goals (go_simp; first | done | rfl)
              intro l' hl
              dsimp only [List.set_cons_succ, List.set_cons_zero] at hl
              subst hl
              refine anyX_done (by kernel_rfl) ?_ _
              refine NoPanic.normal ?_
              clear hS o2
              go_wp2_with fail
              go_roundg (ys.length - (k + 1))
              case measure => have := Hgk.out; omega
              case rel => exact ⟨k + 1, ow66, ([] : List Int), rfl, by omega, by go_num, hxl, Hxr.out, hs, hp, hw, t.drew⟩
          · rw [List.concat_eq_append] at hxs
            have hlx : xs.length = zs.length + 1 := by rw [hxs, List.length_append]; rfl
            have hlast : xs[zs.length]? = some x := by rw [hxs, List.getElem?_append_right (Nat.le_refl _), Nat.sub_self]; rfl
            have hzr : ∀ y ∈ zs, EInt.Rng y := fun y hy => Hxr.out y (by rw [hxs]; exact List.mem_append_left _ hy)
            have hxr : EInt.Rng x := Hxr.out x (by rw [hxs]; exact List.mem_append_right _ List.mem_cons_self)
            obtain ⟨g5, off5, cap5, hv, hcc, hmx, -⟩ := hw.at (by omega)
            simp only [Value.slice.injEq] at hv
            obtain ⟨rfl, -, rfl⟩ := hv
            obtain ⟨-, -, -, hcell⟩ := hw.open_
            have i1 : (0 : Int) < (xs.length : Int) := by omega
            have i6 : decide (0 < xs.length) = true := decide_eq_true (by omega)
            have i2 : IntKind.i64.wrap ((xs.length : Int) - 1) = (zs.length : Int) := by simp only [IntKind.wrap_i64]; omega
            have i3 : (zs.length : Int) < (xs.length : Int) := by omega
            have i4 : zs.length ≤ c6 := by omega
            have i5 : (zs.length : Int) ≤ (c6 : Int) := by omega
            have Hzr := Lib.hid hzr
            have Hlx := Lib.hid hlx
            have hs0 : EInt.St w4 ow4 [1, 0, 0] g3 0 (zs ++ [x]) := by rw [← hxs]; exact hs
            clear hzr hlx hxs hcell hmx i4 i5 Hzr
            go_wp2_with fail
            refine (EInt.s_top_some w4 ow4 [1, 0, 0] g3 0 zs x hs0 (by omega)).mono ?_
            rintro e w81 ⟨rfl, bb⟩
            have nn := bb.nw ow4
            replace hs := hs.new_ nn
            replace hp := hp.new_ nn
            replace hw := hw.new_ nn
            replace ho := ho.new_ nn
            replace t := t.trans (nn.turn [1])
            clear nn
            clear bb
            clear hs0
            have hl2 : (xs.map mkP).length = xs.length := List.length_map _
            go_wp2_with fail
            refine (EInt.s_len w81 ow4 [1, 0, 0] g3 0 xs hs).mono ?_
            rintro e w82 ⟨rfl, kk, hw'⟩
            have nn := ((Below.refl w81.heap.size w81).nw ow4).drewN kk
            rw [← hw'] at nn
            clear hw'
            replace hs := hs.new_ nn
            replace hp := hp.new_ nn
            replace hw := hw.new_ nn
            replace ho := ho.new_ nn
            replace t := t.trans (nn.turn [1])
            clear nn
            have hlen2 := EPr.s_len w82 ow4 [1, 0, 1] g4 0 _ hp
            rw [List.length_map] at hlen2
            clear hl2
            go_wp2_with fail
            refine (hlen2).mono ?_
            rintro e w83 ⟨rfl, kk, hw'⟩
            have nn := ((Below.refl w82.heap.size w82).nw ow4).drewN kk
            rw [← hw'] at nn
            clear hw'
            replace hs := hs.new_ nn
            replace hp := hp.new_ nn
            replace hw := hw.new_ nn
            replace ho := ho.new_ nn
            replace t := t.trans (nn.turn [1])
            clear nn
            clear hlen2
            obtain ⟨-, -, -, hcell⟩ := hw.open_
            have e0 := hcell (zs.length * 1 + 0) _ (EInt.css_at xs zs.length x hlast 0 _ rfl (by omega))
            simp only [Nat.mul_one, Nat.add_zero] at e0
            clear hcell
            by_cases hin : 0 ≤ o.n ∧ o.n < (xs.length : Int)
            · obtain ⟨m, hm⟩ : ∃ m : Nat, o.n = m := ⟨o.n.toNat, by omega⟩
              obtain ⟨y, hy⟩ : ∃ y, xs[m]? = some y := ⟨_, List.getElem?_eq_getElem (by omega)⟩
              have hyr : EInt.Rng y := Hxr.out y (List.mem_of_getElem? hy)
              have hyp : (xs.map mkP)[m]? = some (mkP y) := by rw [List.getElem?_map, hy]; rfl
              have j0 : (0 : Int) ≤ (m : Int) := by omega
              have j1 : (m : Int) < (xs.length : Int) := by omega
              clear hin
              rw [hm] at ho
              clear hm
              have o2 := ho.get 2 rfl
              simp only [Nat.zero_add] at o2
              go_wp2_with fail
              refine (EInt.s_at_in w83 ow4 [1, 0, 0] g3 0 xs hs m y hy).mono ?_
              rintro e w84 ⟨rfl, bb⟩
              have nn := bb.nw ow4
              replace hs := hs.new_ nn
              replace hp := hp.new_ nn
              replace hw := hw.new_ nn
              replace ho := ho.new_ nn
              replace t := t.trans (nn.turn [1])
              clear nn
              clear bb
              clear o2 e0
              have o2 := ho.get 2 rfl
              simp only [Nat.zero_add] at o2
              go_wp2_with fail
              refine (EPr.s_at_in w84 ow4 [1, 0, 1] g4 0 _ hp m (mkP y) hyp).mono ?_
              rintro e w85 ⟨rfl, bb⟩
              have nn := bb.nw ow4
              replace hs := hs.new_ nn
              replace hp := hp.new_ nn
              replace hw := hw.new_ nn
              replace ho := ho.new_ nn
              replace t := t.trans (nn.turn [1])
              clear nn
              clear bb
              clear o2
              have o2 := ho.get 2 rfl
              simp only [Nat.zero_add] at o2
              go_upto_region 27 with fail
              obtain ⟨owx, bx, nn, -⟩ := add_cells w85 ow4 [9, 86] [.int .i64 y, .string (tx y)] 62
              refine gen_world (fun W => ∃ OW, EInt.St W OW [1, 0, 0] g3 0 xs ∧ EPr.St W OW [1, 0, 1] g4 0 (xs.map mkP) ∧ Row W OW [1, 2] 3 1 (.slice (some ⟨g5, off5, none⟩) xs.length c6) xs.length (EInt.css xs) ∧ Cells W OW [1, 3] gx 0 [.int .i64 o.kind, .int .i64 o.level, .int .i64 (m : Int)] ∧ Cells W OW [9, 86] w85.heap.size 0 [.int .i64 y, .string (tx y)] ∧ Turn [1] w ow0 W OW) ⟨owx, hs.new_ nn, hp.new_ nn, hw.new_ nn, ho.new_ nn, bx, t.trans (nn.turn [1])⟩ ?_
              clear hs hp hw ho bx t nn owx
              rintro w86 ⟨ow86, hs, hp, hw, ho, hz, t⟩
              generalize w85.heap.size = gz at *
              clear o2
              have o2 := ho.get 2 rfl
              simp only [Nat.zero_add] at o2
              have z0 := hz.get 0 rfl
              have z1 := hz.get 1 rfl
              simp only [Nat.zero_add] at z0 z1
              obtain ⟨-, -, -, hcell⟩ := hw.open_
              have e0 := hcell (m * 1 + 0) _ (EInt.css_at xs m y hy 0 _ rfl (by omega))
              simp only [Nat.mul_one, Nat.add_zero] at e0
              clear hcell
              go_wp2_with fail
              refine plain_regionN (fun W' : World => W'.cell? ⟨gz, 0, none⟩ = some (.int .i64 y) ∧ W'.cell? ⟨gz, 1, none⟩ = some (.string (tx y)) ∧ W'.cell? ⟨g5, off5 + m, none⟩ = some (.int .i64 y) ∧ W'.cell? ⟨gx, 2, none⟩ = some (.int .i64 (m : Int))) [] (by kernel_rfl) ?_
              have hS : (fun W' : World => W'.cell? ⟨gz, 0, none⟩ = some (.int .i64 y) ∧ W'.cell? ⟨gz, 1, none⟩ = some (.string (tx y)) ∧ W'.cell? ⟨g5, off5 + m, none⟩ = some (.int .i64 y) ∧ W'.cell? ⟨gx, 2, none⟩ = some (.int .i64 (m : Int))) w86.drew := ⟨z0, z1, e0, o2⟩
              refine anyX_takeNL 0 (v := ?_) rfl rfl (by as_aux_lemma => kernel_rfl) (by as_aux_lemma => kernel_rfl) (by as_aux_lemma => kernel_rfl) (by as_aux_lemma => kernel_rfl) (by as_aux_lemma => kernel_rfl) (fun _ _ _ h => h) rfl ?_ hS ?_
              rotate_left
              · intro W' hW'
                obtain ⟨s0, s1, s2, s3⟩ := hW'
                all_goals (go_simp; first | done | rfl)
              intro l' hl
              dsimp only [List.set_cons_succ, List.set_cons_zero] at hl
              subst hl
              refine anyX_takeNL 1 (v := ?_) rfl rfl (by as_aux_lemma => kernel_rfl) (by as_aux_lemma => kernel_rfl) (by as_aux_lemma => kernel_rfl) (by as_aux_lemma => kernel_rfl) (by as_aux_lemma => kernel_rfl) (fun _ _ _ h => h) rfl ?_ hS ?_
              rotate_left
              · intro W' hW'
                obtain ⟨s0, s1, s2, s3⟩ := hW'
                all_goals (go_simp; first | done | rfl)
              intro l' hl
              dsimp only [List.set_cons_succ, List.set_cons_zero] at hl
              subst hl
              refine anyX_takeNL 2 (v := ?_) rfl rfl (by as_aux_lemma => kernel_rfl) (by as_aux_lemma => kernel_rfl) (by as_aux_lemma => kernel_rfl) (by as_aux_lemma => kernel_rfl) (by as_aux_lemma => kernel_rfl) (fun _ _ _ h => h) rfl ?_ hS ?_
              rotate_left
              · intro W' hW'
                obtain ⟨s0, s1, s2, s3⟩ := hW'
                all_goals (go_simp; first | done | rfl)
              intro l' hl
              dsimp only [List.set_cons_succ, List.set_cons_zero] at hl
              subst hl
              refine anyX_takeNL 3 (v := ?_) rfl rfl (by as_aux_lemma => kernel_rfl) (by as_aux_lemma => kernel_rfl) (by as_aux_lemma => kernel_rfl) (by as_aux_lemma => kernel_rfl) (by as_aux_lemma => kernel_rfl) (fun _ _ _ h => h) rfl ?_ hS ?_
              rotate_left
              · intro W' hW'
                obtain ⟨s0, s1, s2, s3⟩ := hW'
                all_goals (go_simp; first | done | rfl)
              intro l' hl
              dsimp only [List.set_cons_succ, List.set_cons_zero] at hl
              subst hl
              refine anyX_takeWL 4 (v := ?_) rfl rfl (by as_aux_lemma => kernel_rfl) (by as_aux_lemma => kernel_rfl) (by as_aux_lemma => kernel_rfl) (by as_aux_lemma => kernel_rfl) (by as_aux_lemma => kernel_rfl) (fun _ _ _ h => h) (by rfl) ?_ hS ?_
              rotate_left
              · intro W' hW'
                obtain ⟨s0, s1, s2, s3⟩ := hW'
                all_goals (go_simp; first | done | rfl)
              intro l' hl
              dsimp only [List.set_cons_succ, List.set_cons_zero] at hl
              subst hl
              refine anyX_takeWL 5 (v := ?_) rfl rfl (by as_aux_lemma => kernel_rfl) (by as_aux_lemma => kernel_rfl) (by as_aux_lemma => kernel_rfl) (by as_aux_lemma => kernel_rfl) (by as_aux_lemma => kernel_rfl) (fun _ _ _ h => h) (by rfl) ?_ hS ?_
              rotate_left
              · intro W' hW'
                obtain ⟨s0, s1, s2, s3⟩ := hW'
                all_goals (go_simp; first | done | rfl)
              intro l' hl
              dsimp only [List.set_cons_succ, List.set_cons_zero] at hl
              subst hl
              refine anyX_takeWL 6 (v := ?_) rfl rfl (by as_aux_lemma => kernel_rfl) (by as_aux_lemma => kernel_rfl) (by as_aux_lemma => kernel_rfl) (by as_aux_lemma => kernel_rfl) (by as_aux_lemma => kernel_rfl) (fun _ _ _ h => h) (by rfl) ?_ hS ?_
              rotate_left
              · intro W' hW'
                obtain ⟨s0, s1, s2, s3⟩ := hW'
                all_goals (go_simp; first | done | rfl)
              intro l' hl
              dsimp only [List.set_cons_succ, List.set_cons_zero] at hl
              subst hl
              refine anyX_takeNL 7 (v := ?_) rfl rfl (by as_aux_lemma => kernel_rfl) (by as_aux_lemma => kernel_rfl) (by as_aux_lemma => kernel_rfl) (by as_aux_lemma => kernel_rfl) (by as_aux_lemma => kernel_rfl) (fun _ _ _ h => h) rfl ?_ hS ?_
              rotate_left
              · intro W' hW'
                obtain ⟨s0, s1, s2, s3⟩ := hW'
                all_goals (go_simp; first | done | rfl)
              intro l' hl
              dsimp only [List.set_cons_succ, List.set_cons_zero] at hl
              subst hl
              refine anyX_takeNL 8 (v := ?_) rfl rfl (by as_aux_lemma => kernel_rfl) (by as_aux_lemma => kernel_rfl) (by as_aux_lemma => kernel_rfl) (by as_aux_lemma => kernel_rfl) (by as_aux_lemma => kernel_rfl) (fun _ _ _ h => h) rfl ?_ hS ?_
              rotate_left
              · intro W' hW'
                obtain ⟨s0, s1, s2, s3⟩ := hW'
                all_goals (go_simp; first | done | rfl)
              intro l' hl
              dsimp only [List.set_cons_succ, List.set_cons_zero] at hl
              subst hl
              refine anyX_takeWL 9 (v := ?_) rfl rfl (by as_aux_lemma => kernel_rfl) (by as_aux_lemma => kernel_rfl) (by as_aux_lemma => kernel_rfl) (by as_aux_lemma => kernel_rfl) (by as_aux_lemma => kernel_rfl) (fun _ _ _ h => h) (by rfl) ?_ hS ?_
              rotate_left
              · intro W' hW'
                obtain ⟨s0, s1, s2, s3⟩ := hW'
                all_goals (go_simp; first | done | rfl)
              intro l' hl
              dsimp only [List.set_cons_succ, List.set_cons_zero] at hl
              subst hl
              refine anyX_takeWL 10 (v := ?_) rfl rfl (by as_aux_lemma => kernel_rfl) (by as_aux_lemma => kernel_rfl) (by as_aux_lemma => kernel_rfl) (by as_aux_lemma => kernel_rfl) (by as_aux_lemma => kernel_rfl) (fun _ _ _ h => h) (by rfl) ?_ hS ?_
              rotate_left
              · intro W' hW'
                obtain ⟨s0, s1, s2, s3⟩ := hW'
                all_goals (go_simp; first | done | rfl)
              intro l' hl
              dsimp only [List.set_cons_succ, List.set_cons_zero] at hl
              subst hl
              refine anyX_takeWL 11 (v := ?_) rfl rfl (by as_aux_lemma => kernel_rfl) (by as_aux_lemma => kernel_rfl) (by as_aux_lemma => kernel_rfl) (by as_aux_lemma => kernel_rfl) (by as_aux_lemma => kernel_rfl) (fun _ _ _ h => h) (by rfl) ?_ hS ?_
              rotate_left
              · intro W' hW'
                obtain ⟨s0, s1, s2, s3⟩ := hW'
                all_goals (go_simp; first | done | rfl)
              intro l' hl
              dsimp only [List.set_cons_succ, List.set_cons_zero] at hl
              subst hl
              refine anyX_takeWL 12 (v := ?_) rfl rfl (by as_aux_lemma => kernel_rfl) (by as_aux_lemma => kernel_rfl) (by as_aux_lemma => kernel_rfl) (by as_aux_lemma => kernel_rfl) (by as_aux_lemma => kernel_rfl) (fun _ _ _ h => h) (by rfl) ?_ hS ?_
              rotate_left
              · intro W' hW'
                obtain ⟨s0, s1, s2, s3⟩ := hW'
                all_goals (go_simp; first | done | rfl)
              intro l' hl
              dsimp only [List.set_cons_succ, List.set_cons_zero] at hl
              subst hl
              refine anyX_takeWL 13 (v := ?_) rfl rfl (by as_aux_lemma => kernel_rfl) (by as_aux_lemma => kernel_rfl) (by as_aux_lemma => kernel_rfl) (by as_aux_lemma => kernel_rfl) (by as_aux_lemma => kernel_rfl) (fun _ _ _ h => h) (by rfl) ?_ hS ?_
              rotate_left
              · intro W' hW'
                obtain ⟨s0, s1, s2, s3⟩ := hW'
                all_goals (go_simp; first | done | rfl)
              intro l' hl
              dsimp only [List.set_cons_succ, List.set_cons_zero] at hl
              subst hl
              refine anyX_takeWL 14 (v := ?_) rfl rfl (by as_aux_lemma => kernel_rfl) (by as_aux_lemma => kernel_rfl) (by as_aux_lemma => kernel_rfl) (by as_aux_lemma => kernel_rfl) (by as_aux_lemma => kernel_rfl) (fun _ _ _ h => h) (by rfl) ?_ hS ?_
              rotate_left
              · intro W' hW'
                obtain ⟨s0, s1, s2, s3⟩ := hW'
                all_goals (go_simp; first | done | rfl)
              intro l' hl
              dsimp only [List.set_cons_succ, List.set_cons_zero] at hl
              subst hl
              refine anyX_takeWL 15 (v := ?_) rfl rfl (by as_aux_lemma => kernel_rfl) (by as_aux_lemma => kernel_rfl) (by as_aux_lemma => kernel_rfl) (by as_aux_lemma => kernel_rfl) (by as_aux_lemma => kernel_rfl) (fun _ _ _ h => h) (by rfl) ?_ hS ?_
              rotate_left
              · intro W' hW'
                obtain ⟨s0, s1, s2, s3⟩ := hW'
                all_goals (go_simp; first | done | rfl)
              intro l' hl
              dsimp only [List.set_cons_succ, List.set_cons_zero] at hl
              subst hl
              refine anyX_takeWL 16 (v := ?_) rfl rfl (by as_aux_lemma => kernel_rfl) (by as_aux_lemma => kernel_rfl) (by as_aux_lemma => kernel_rfl) (by as_aux_lemma => kernel_rfl) (by as_aux_lemma => kernel_rfl) (fun _ _ _ h => h) (by rfl) ?_ hS ?_
              rotate_left
              · intro W' hW'
                obtain ⟨s0, s1, s2, s3⟩ := hW'
                all_goals (go_simp; first | done | rfl)
              intro l' hl
              dsimp only [List.set_cons_succ, List.set_cons_zero] at hl
              subst hl
              refine anyX_takeWL 17 (v := ?_) rfl rfl (by as_aux_lemma => kernel_rfl) (by as_aux_lemma => kernel_rfl) (by as_aux_lemma => kernel_rfl) (by as_aux_lemma => kernel_rfl) (by as_aux_lemma => kernel_rfl) (fun _ _ _ h => h) (by rfl) ?_ hS ?_
              rotate_left
              · intro W' hW'
                obtain ⟨s0, s1, s2, s3⟩ := hW'
                all_goals (go_simp; first | done | rfl)
              intro l' hl
              dsimp only [List.set_cons_succ, List.set_cons_zero] at hl
              subst hl
              refine anyX_takeWL 18 (v := ?_) rfl rfl (by as_aux_lemma => kernel_rfl) (by as_aux_lemma => kernel_rfl) (by as_aux_lemma => kernel_rfl) (by as_aux_lemma => kernel_rfl) (by as_aux_lemma => kernel_rfl) (fun _ _ _ h => h) (by rfl) ?_ hS ?_
              rotate_left
              · intro W' hW'
                obtain ⟨s0, s1, s2, s3⟩ := hW'
                all_goals (go_simp; first | done | rfl)
              intro l' hl
              dsimp only [List.set_cons_succ, List.set_cons_zero] at hl
              subst hl
              refine anyX_takeWL 19 (v := ?_) rfl rfl (by as_aux_lemma => kernel_rfl) (by as_aux_lemma => kernel_rfl) (by as_aux_lemma => kernel_rfl) (by as_aux_lemma => kernel_rfl) (by as_aux_lemma => kernel_rfl) (fun _ _ _ h => h) (by rfl) ?_ hS ?_
              rotate_left
              · intro W' hW'
                obtain ⟨s0, s1, s2, s3⟩ := hW'
                all_goals (go_simp; first | done | rfl)
              intro l' hl
              dsimp only [List.set_cons_succ, List.set_cons_zero] at hl
              subst hl
              refine anyX_takeWL 20 (v := ?_) rfl rfl (by as_aux_lemma => kernel_rfl) (by as_aux_lemma => kernel_rfl) (by as_aux_lemma => kernel_rfl) (by as_aux_lemma => kernel_rfl) (by as_aux_lemma => kernel_rfl) (fun _ _ _ h => h) (by rfl) ?_ hS ?_
              rotate_left
              · intro W' hW'
                obtain ⟨s0, s1, s2, s3⟩ := hW'
                all_goals (go_simp; first | done | rfl)
              intro l' hl
              dsimp only [List.set_cons_succ, List.set_cons_zero] at hl
              subst hl
              refine anyX_oneW (i := 21) (by kernel_rfl) rfl (by rfl) fun K' hK' => ?_
              unfold Oper.wp
              go_simp
              refine (pair _ y hyr).mono ?_
              rintro e w87 ⟨rfl, bb⟩
              have bb : Below w86.heap.size w86 w87 := ⟨bb.os, bb.tape, bb.output, bb.size, bb.block⟩
              have nn := bb.nw ow86
              replace hs := hs.new_ nn
              replace hp := hp.new_ nn
              replace hw := hw.new_ nn
              replace ho := ho.new_ nn
              replace hz := hz.new_ nn
              replace t := t.trans (nn.turn [1])
              clear nn
              clear bb hS z0 z1 e0 o2
              have o2 := ho.get 2 rfl
              simp only [Nat.zero_add] at o2
              have z0 := hz.get 0 rfl
              have z1 := hz.get 1 rfl
              simp only [Nat.zero_add] at z0 z1
              obtain ⟨-, -, -, hcell⟩ := hw.open_
              have e0 := hcell (m * 1 + 0) _ (EInt.css_at xs m y hy 0 _ rfl (by omega))
              simp only [Nat.mul_one, Nat.add_zero] at e0
              clear hcell
              have hS : (fun W' : World => W'.cell? ⟨gz, 0, none⟩ = some (.int .i64 y) ∧ W'.cell? ⟨gz, 1, none⟩ = some (.string (tx y)) ∧ W'.cell? ⟨g5, off5 + m, none⟩ = some (.int .i64 y) ∧ W'.cell? ⟨gx, 2, none⟩ = some (.int .i64 (m : Int))) w87 := ⟨z0, z1, e0, o2⟩
              refine hK' _ _ (fun _ => hS) ?_
              clear hK' K'
              refine anyX_takeWL 22 (v := ?_) rfl rfl (by as_aux_lemma => kernel_rfl) (by as_aux_lemma => kernel_rfl) (by as_aux_lemma => kernel_rfl) (by as_aux_lemma => kernel_rfl) (by as_aux_lemma => kernel_rfl) (fun _ _ _ h => h) (by rfl) ?_ hS ?_
              rotate_left
              · intro W' hW'
                obtain ⟨s0, s1, s2, s3⟩ := hW'
                all_goals (go_simp; first | done | rfl)
              intro l' hl
              dsimp only [List.set_cons_succ, List.set_cons_zero] at hl
              subst hl
              refine anyX_takeWL 23 (v := ?_) rfl rfl (by as_aux_lemma => kernel_rfl) (by as_aux_lemma => kernel_rfl) (by as_aux_lemma => kernel_rfl) (by as_aux_lemma => kernel_rfl) (by as_aux_lemma => kernel_rfl) (fun _ _ _ h => h) (by rfl) ?_ hS ?_
              rotate_left
              · intro W' hW'
                obtain ⟨s0, s1, s2, s3⟩ := hW'
                all_goals (go_simp; first | done | rfl)
              intro l' hl
              dsimp only [List.set_cons_succ, List.set_cons_zero] at hl
              subst hl
              refine anyX_takeWL 24 (v := ?_) rfl rfl (by as_aux_lemma => kernel_rfl) (by as_aux_lemma => kernel_rfl) (by as_aux_lemma => kernel_rfl) (by as_aux_lemma => kernel_rfl) (by as_aux_lemma => kernel_rfl) (fun _ _ _ h => h) (by rfl) ?_ hS ?_
              rotate_left
              · intro W' hW'
                obtain ⟨s0, s1, s2, s3⟩ := hW'
                all_goals (go_simp; first | done | rfl)
              intro l' hl
              dsimp only [List.set_cons_succ, List.set_cons_zero] at hl
              subst hl
              refine anyX_takeNL 25 (v := ?_) rfl rfl (by as_aux_lemma => kernel_rfl) (by as_aux_lemma => kernel_rfl) (by as_aux_lemma => kernel_rfl) (by as_aux_lemma => kernel_rfl) (by as_aux_lemma => kernel_rfl) (fun _ _ _ h => h) rfl ?_ hS ?_
              rotate_left
              · intro W' hW'
                obtain ⟨s0, s1, s2, s3⟩ := hW'
                all_goals (go_simp; first | done | rfl)
              intro l' hl
              dsimp only [List.set_cons_succ, List.set_cons_zero] at hl
              subst hl
              refine anyX_takeNL 26 (v := ?_) rfl rfl (by as_aux_lemma => kernel_rfl) (by as_aux_lemma => kernel_rfl) (by as_aux_lemma => kernel_rfl) (by as_aux_lemma => kernel_rfl) (by as_aux_lemma => kernel_rfl) (fun _ _ _ h => h) rfl ?_ hS ?_
              rotate_left
              · intro W' hW'
                obtain ⟨s0, s1, s2, s3⟩ := hW'
                all_goals (go_simp; first | done | rfl)
              intro l' hl
              dsimp only [List.set_cons_succ, List.set_cons_zero] at hl
              subst hl
              refine anyX_takeWL 27 (v := ?_) rfl rfl (by as_aux_lemma => kernel_rfl) (by as_aux_lemma => kernel_rfl) (by as_aux_lemma => kernel_rfl) (by as_aux_lemma => kernel_rfl) (by as_aux_lemma => kernel_rfl) (fun _ _ _ h => h) (by rfl) ?_ hS ?_
              rotate_left
              · intro W' hW'
                obtain ⟨s0, s1, s2, s3⟩ := hW'
                all_goals (go_simp; first | done | rfl)
              intro l' hl
              dsimp only [List.set_cons_succ, List.set_cons_zero] at hl
              subst hl
              refine anyX_takeWL 28 (v := ?_) rfl rfl (by as_aux_lemma => kernel_rfl) (by as_aux_lemma => kernel_rfl) (by as_aux_lemma => kernel_rfl) (by as_aux_lemma => kernel_rfl) (by as_aux_lemma => kernel_rfl) (fun _ _ _ h => h) (by rfl) ?_ hS ?_
              rotate_left
              · intro W' hW'
                obtain ⟨s0, s1, s2, s3⟩ := hW'
                all_goals (go_simp; first | done | rfl)
              intro l' hl
              dsimp only [List.set_cons_succ, List.set_cons_zero] at hl
              subst hl
              refine anyX_takeWL 29 (v := ?_) rfl rfl (by as_aux_lemma => kernel_rfl) (by as_aux_lemma => kernel_rfl) (by as_aux_lemma => kernel_rfl) (by as_aux_lemma => kernel_rfl) (by as_aux_lemma => kernel_rfl) (fun _ _ _ h => h) (by rfl) ?_ hS ?_
              rotate_left
              · intro W' hW'
                obtain ⟨s0, s1, s2, s3⟩ := hW'
                all_goals (go_simp; first | done | rfl)
              intro l' hl
              dsimp only [List.set_cons_succ, List.set_cons_zero] at hl
              subst hl
              refine anyX_takeUL 30 rfl rfl (by as_aux_lemma => kernel_rfl) (by as_aux_lemma => kernel_rfl) (by as_aux_lemma => kernel_rfl) (by as_aux_lemma => kernel_rfl) (by as_aux_lemma => kernel_rfl) (fun _ _ _ h => h) (by rfl) hS ?_
              intro l' hl
              dsimp only [List.set_cons_succ, List.set_cons_zero] at hl
              subst hl
              refine anyX_takeUL 31 rfl rfl (by as_aux_lemma => kernel_rfl) (by as_aux_lemma => kernel_rfl) (by as_aux_lemma => kernel_rfl) (by as_aux_lemma => kernel_rfl) (by as_aux_lemma => kernel_rfl) (fun _ _ _ h => h) (by rfl) hS ?_
              intro l' hl
              dsimp only [List.set_cons_succ, List.set_cons_zero] at hl
              subst hl
              refine anyX_takeWL 32 (v := ?_) rfl rfl (by as_aux_lemma => kernel_rfl) (by as_aux_lemma => kernel_rfl) (by as_aux_lemma => kernel_rfl) (by as_aux_lemma => kernel_rfl) (by as_aux_lemma => kernel_rfl) (fun _ _ _ h => h) (by rfl) ?_ hS ?_
              rotate_left
              · intro W' hW'
                obtain ⟨s0, s1, s2, s3⟩ := hW'
                all_goals (go_simp; first | done | rfl)
              intro l' hl
              dsimp only [List.set_cons_succ, List.set_cons_zero] at hl
              subst hl
              refine anyX_takeNL 33 (v := ?_) rfl rfl (by as_aux_lemma => kernel_rfl) (by as_aux_lemma => kernel_rfl) (by as_aux_lemma => kernel_rfl) (by as_aux_lemma => kernel_rfl) (by as_aux_lemma => kernel_rfl) (fun _ _ _ h => h) rfl ?_ hS ?_
              rotate_left
              · intro W' hW'
                obtain ⟨s0, s1, s2, s3⟩ := hW'
                all_goals (go_simp; first | done | rfl)
              intro l' hl
              dsimp only [List.set_cons_succ, List.set_cons_zero] at hl
              subst hl
              refine anyX_done (by kernel_rfl) ?_ _
              refine NoPanic.normal ?_
              clear hS z0 z1 e0 o2
              go_wp2_with fail
              go_roundg (ys.length - (k + 1))
              case measure => have := Hgk.out; omega
              case rel => exact ⟨k + 1, ow86, xs, rfl, by omega, by go_num, hxl, Hxr.out, hs, hp, hw, t⟩
            · have hout : o.n < 0 ∨ (xs.length : Int) ≤ o.n := by omega
              clear hin
              have o2 := ho.get 2 rfl
              simp only [Nat.zero_add] at o2
              go_wp2_with fail
              refine (EInt.s_at_out w83 ow4 [1, 0, 0] g3 0 xs hs o.n hout).mono ?_
              rintro e w84 ⟨rfl, bb⟩
              have nn := bb.nw ow4
              replace hs := hs.new_ nn
              replace hp := hp.new_ nn
              replace hw := hw.new_ nn
              replace ho := ho.new_ nn
              replace t := t.trans (nn.turn [1])
              clear nn
              clear bb
              clear o2
              have o2 := ho.get 2 rfl
              simp only [Nat.zero_add] at o2
              go_wp2_with fail
              refine (EPr.s_at_out w84 ow4 [1, 0, 1] g4 0 _ hp o.n (by rw [List.length_map]; exact hout)).mono ?_
              rintro e w85 ⟨rfl, bb⟩
              have nn := bb.nw ow4
              replace hs := hs.new_ nn
              replace hp := hp.new_ nn
              replace hw := hw.new_ nn
              replace ho := ho.new_ nn
              replace t := t.trans (nn.turn [1])
              clear nn
              clear bb
              clear o2
              have o2 := ho.get 2 rfl
              simp only [Nat.zero_add] at o2
              go_upto_region 27 with fail
              obtain ⟨owx, bx, nn, -⟩ := add_cells w85 ow4 [9, 86] [.int .i64 0, .string ⟨#[]⟩] 62
              refine gen_world (fun W => ∃ OW, EInt.St W OW [1, 0, 0] g3 0 xs ∧ EPr.St W OW [1, 0, 1] g4 0 (xs.map mkP) ∧ Row W OW [1, 2] 3 1 (.slice (some ⟨g5, off5, none⟩) xs.length c6) xs.length (EInt.css xs) ∧ Cells W OW [1, 3] gx 0 [.int .i64 o.kind, .int .i64 o.level, .int .i64 o.n] ∧ Cells W OW [9, 86] w85.heap.size 0 [.int .i64 0, .string ⟨#[]⟩] ∧ Turn [1] w ow0 W OW) ⟨owx, hs.new_ nn, hp.new_ nn, hw.new_ nn, ho.new_ nn, bx, t.trans (nn.turn [1])⟩ ?_
              clear hs hp hw ho bx t nn owx
              rintro w86 ⟨ow86, hs, hp, hw, ho, hz, t⟩
              generalize w85.heap.size = gz at *
              clear o2
              have o2 := ho.get 2 rfl
              simp only [Nat.zero_add] at o2
              go_cut [18] from 150 to 150 (fun s18 wx => w86 = wx ∧ s18 = .bool false)
              case first =>
                rcases hout with hneg | hbig
                · have j0 : ¬ (0 : Int) ≤ o.n := by omega
                  go_wp2_with fail
                  go_meet
                  exact ⟨rfl, rfl⟩
                · have j0 : (0 : Int) ≤ o.n := by omega
                  have j1 : ¬ o.n < (xs.length : Int) := by omega
                  go_wp2_with fail
                  go_meet
                  exact ⟨rfl, rfl⟩
              case rest =>
                obtain ⟨rfl, rfl⟩ := hcut
                go_wp2_with fail
                refine plain_regionN (fun _ => True) [] (by kernel_rfl) ?_
                have hS : (fun _ : World => True) w86.drew := trivial
                refine anyX_takeNL 0 (v := ?_) rfl rfl (by as_aux_lemma => kernel_rfl) (by as_aux_lemma => kernel_rfl) (by as_aux_lemma => kernel_rfl) (by as_aux_lemma => kernel_rfl) (by as_aux_lemma => kernel_rfl) (fun _ _ _ h => h) rfl ?_ hS ?_
                rotate_left
                · intro W' hW'
                  obtain - := hW'
                  all_goals (go_simp; first | done | rfl)
                intro l' hl
                dsimp only [List.set_cons_succ, List.set_cons_zero] at hl
                subst hl
                refine anyX_takeNL 1 (v := ?_) rfl rfl (by as_aux_lemma => kernel_rfl) (by as_aux_lemma => kernel_rfl) (by as_aux_lemma => kernel_rfl) (by as_aux_lemma => kernel_rfl) (by as_aux_lemma => kernel_rfl) (fun _ _ _ h => h) rfl ?_ hS ?_
                rotate_left
                · intro W' hW'
                  obtain - := hW'
                  all_goals (go_simp; first | done | rfl)
                intro l' hl
                dsimp only [List.set_cons_succ, List.set_cons_zero] at hl
                subst hl
                refine anyX_takeNL 2 (v := ?_) rfl rfl (by as_aux_lemma => kernel_rfl) (by as_aux_lemma => kernel_rfl) (by as_aux_lemma => kernel_rfl) (by as_aux_lemma => kernel_rfl) (by as_aux_lemma => kernel_rfl) (fun _ _ _ h => h) rfl ?_ hS ?_
                rotate_left
                · intro W' hW'
                  obtain - := hW'
                  all_goals (go_simp; first | done | rfl)
                intro l' hl
                dsimp only [List.set_cons_succ, List.set_cons_zero] at hl
                subst hl
                refine anyX_takeNL 3 (v := ?_) rfl rfl (by as_aux_lemma => kernel_rfl) (by as_aux_lemma => kernel_rfl) (by as_aux_lemma => kernel_rfl) (by as_aux_lemma => kernel_rfl) (by as_aux_lemma => kernel_rfl) (fun _ _ _ h => h) rfl ?_ hS ?_
                rotate_left
                · intro W' hW'
                  obtain - := hW'
                  all_goals (go_simp; first | done | rfl)
                intro l' hl
                dsimp only [List.set_cons_succ, List.set_cons_zero] at hl
                subst hl
                refine anyX_takeWL 4 (v := ?_) rfl rfl (by as_aux_lemma => kernel_rfl) (by as_aux_lemma => kernel_rfl) (by as_aux_lemma => kernel_rfl) (by as_aux_lemma => kernel_rfl) (by as_aux_lemma => kernel_rfl) (fun _ _ _ h => h) (by rfl) ?_ hS ?_
                rotate_left
                · intro W' hW'
                  obtain - := hW'
                  all_goals (go_simp; first | done | rfl)
                intro l' hl
                dsimp only [List.set_cons_succ, List.set_cons_zero] at hl
                subst hl
                refine anyX_takeWL 5 (v := ?_) rfl rfl (by as_aux_lemma => kernel_rfl) (by as_aux_lemma => kernel_rfl) (by as_aux_lemma => kernel_rfl) (by as_aux_lemma => kernel_rfl) (by as_aux_lemma => kernel_rfl) (fun _ _ _ h => h) (by rfl) ?_ hS ?_
                rotate_left
                · intro W' hW'
                  obtain - := hW'
                  all_goals (go_simp; first | done | rfl)
                intro l' hl
                dsimp only [List.set_cons_succ, List.set_cons_zero] at hl
                subst hl
                refine anyX_takeWL 6 (v := ?_) rfl rfl (by as_aux_lemma => kernel_rfl) (by as_aux_lemma => kernel_rfl) (by as_aux_lemma => kernel_rfl) (by as_aux_lemma => kernel_rfl) (by as_aux_lemma => kernel_rfl) (fun _ _ _ h => h) (by rfl) ?_ hS ?_
                rotate_left
                · intro W' hW'
                  obtain - := hW'
                  all_goals (go_simp; first | done | rfl)
                intro l' hl
                dsimp only [List.set_cons_succ, List.set_cons_zero] at hl
                subst hl
                refine anyX_takeNL 7 (v := ?_) rfl rfl (by as_aux_lemma => kernel_rfl) (by as_aux_lemma => kernel_rfl) (by as_aux_lemma => kernel_rfl) (by as_aux_lemma => kernel_rfl) (by as_aux_lemma => kernel_rfl) (fun _ _ _ h => h) rfl ?_ hS ?_
                rotate_left
                · intro W' hW'
                  obtain - := hW'
                  all_goals (go_simp; first | done | rfl)
                intro l' hl
                dsimp only [List.set_cons_succ, List.set_cons_zero] at hl
                subst hl
                refine anyX_takeNL 8 (v := ?_) rfl rfl (by as_aux_lemma => kernel_rfl) (by as_aux_lemma => kernel_rfl) (by as_aux_lemma => kernel_rfl) (by as_aux_lemma => kernel_rfl) (by as_aux_lemma => kernel_rfl) (fun _ _ _ h => h) rfl ?_ hS ?_
                rotate_left
                · intro W' hW'
                  obtain - := hW'
                  all_goals (go_simp; first | done | rfl)
                intro l' hl
                dsimp only [List.set_cons_succ, List.set_cons_zero] at hl
                subst hl
                refine anyX_takeWL 9 (v := ?_) rfl rfl (by as_aux_lemma => kernel_rfl) (by as_aux_lemma => kernel_rfl) (by as_aux_lemma => kernel_rfl) (by as_aux_lemma => kernel_rfl) (by as_aux_lemma => kernel_rfl) (fun _ _ _ h => h) (by rfl) ?_ hS ?_
                rotate_left
                · intro W' hW'
                  obtain - := hW'
                  all_goals (go_simp; first | done | rfl)
                intro l' hl
                dsimp only [List.set_cons_succ, List.set_cons_zero] at hl
                subst hl
                refine anyX_takeWL 10 (v := ?_) rfl rfl (by as_aux_lemma => kernel_rfl) (by as_aux_lemma => kernel_rfl) (by as_aux_lemma => kernel_rfl) (by as_aux_lemma => kernel_rfl) (by as_aux_lemma => kernel_rfl) (fun _ _ _ h => h) (by rfl) ?_ hS ?_
                rotate_left
                · intro W' hW'
                  obtain - := hW'
                  all_goals (go_simp; first | done | rfl)
                intro l' hl
                dsimp only [List.set_cons_succ, List.set_cons_zero] at hl
                subst hl
                refine anyX_takeUL 11 rfl rfl (by as_aux_lemma => kernel_rfl) (by as_aux_lemma => kernel_rfl) (by as_aux_lemma => kernel_rfl) (by as_aux_lemma => kernel_rfl) (by as_aux_lemma => kernel_rfl) (fun _ _ _ h => h) (by rfl) hS ?_
                intro l' hl
                dsimp only [List.set_cons_succ, List.set_cons_zero] at hl
                subst hl
                refine anyX_takeUL 12 rfl rfl (by as_aux_lemma => kernel_rfl) (by as_aux_lemma => kernel_rfl) (by as_aux_lemma => kernel_rfl) (by as_aux_lemma => kernel_rfl) (by as_aux_lemma => kernel_rfl) (fun _ _ _ h => h) (by rfl) hS ?_
                intro l' hl
                dsimp only [List.set_cons_succ, List.set_cons_zero] at hl
                subst hl
                refine anyX_takeUL 13 rfl rfl (by as_aux_lemma => kernel_rfl) (by as_aux_lemma => kernel_rfl) (by as_aux_lemma => kernel_rfl) (by as_aux_lemma => kernel_rfl) (by as_aux_lemma => kernel_rfl) (fun _ _ _ h => h) (by rfl) hS ?_
                intro l' hl
                dsimp only [List.set_cons_succ, List.set_cons_zero] at hl
                subst hl
                refine anyX_takeUL 14 rfl rfl (by as_aux_lemma => kernel_rfl) (by as_aux_lemma => kernel_rfl) (by as_aux_lemma => kernel_rfl) (by as_aux_lemma => kernel_rfl) (by as_aux_lemma => kernel_rfl) (fun _ _ _ h => h) (by rfl) hS ?_
                intro l' hl
                dsimp only [List.set_cons_succ, List.set_cons_zero] at hl
                subst hl
                refine anyX_takeUL 15 rfl rfl (by as_aux_lemma => kernel_rfl) (by as_aux_lemma => kernel_rfl) (by as_aux_lemma => kernel_rfl) (by as_aux_lemma => kernel_rfl) (by as_aux_lemma => kernel_rfl) (fun _ _ _ h => h) (by rfl) hS ?_
                intro l' hl
                dsimp only [List.set_cons_succ, List.set_cons_zero] at hl
                subst hl
                refine anyX_takeUL 16 rfl rfl (by as_aux_lemma => kernel_rfl) (by as_aux_lemma => kernel_rfl) (by as_aux_lemma => kernel_rfl) (by as_aux_lemma => kernel_rfl) (by as_aux_lemma => kernel_rfl) (fun _ _ _ h => h) (by rfl) hS ?_
                intro l' hl
                dsimp only [List.set_cons_succ, List.set_cons_zero] at hl
                subst hl
                refine anyX_takeUL 17 rfl rfl (by as_aux_lemma => kernel_rfl) (by as_aux_lemma => kernel_rfl) (by as_aux_lemma => kernel_rfl) (by as_aux_lemma => kernel_rfl) (by as_aux_lemma => kernel_rfl) (fun _ _ _ h => h) (by rfl) hS ?_
                intro l' hl
                dsimp only [List.set_cons_succ, List.set_cons_zero] at hl
                subst hl
                refine anyX_takeUL 18 rfl rfl (by as_aux_lemma => kernel_rfl) (by as_aux_lemma => kernel_rfl) (by as_aux_lemma => kernel_rfl) (by as_aux_lemma => kernel_rfl) (by as_aux_lemma => kernel_rfl) (fun _ _ _ h => h) (by rfl) hS ?_
                intro l' hl
                dsimp only [List.set_cons_succ, List.set_cons_zero] at hl
                subst hl
                refine anyX_takeUL 19 rfl rfl (by as_aux_lemma => kernel_rfl) (by as_aux_lemma => kernel_rfl) (by as_aux_lemma => kernel_rfl) (by as_aux_lemma => kernel_rfl) (by as_aux_lemma => kernel_rfl) (fun _ _ _ h => h) (by rfl) hS ?_
                intro l' hl
                dsimp only [List.set_cons_succ, List.set_cons_zero] at hl
                subst hl
                refine anyX_takeUL 20 rfl rfl (by as_aux_lemma => kernel_rfl) (by as_aux_lemma => kernel_rfl) (by as_aux_lemma => kernel_rfl) (by as_aux_lemma => kernel_rfl) (by as_aux_lemma => kernel_rfl) (fun _ _ _ h => h) (by rfl) hS ?_
                intro l' hl
                dsimp only [List.set_cons_succ, List.set_cons_zero] at hl
                subst hl
                refine anyX_takeUL 21 rfl rfl (by as_aux_lemma => kernel_rfl) (by as_aux_lemma => kernel_rfl) (by as_aux_lemma => kernel_rfl) (by as_aux_lemma => kernel_rfl) (by as_aux_lemma => kernel_rfl) (fun _ _ _ h => h) (by rfl) hS ?_
                intro l' hl
                dsimp only [List.set_cons_succ, List.set_cons_zero] at hl
                subst hl
                refine anyX_takeUL 22 rfl rfl (by as_aux_lemma => kernel_rfl) (by as_aux_lemma => kernel_rfl) (by as_aux_lemma => kernel_rfl) (by as_aux_lemma => kernel_rfl) (by as_aux_lemma => kernel_rfl) (fun _ _ _ h => h) (by rfl) hS ?_
                intro l' hl
                dsimp only [List.set_cons_succ, List.set_cons_zero] at hl
                subst hl
                refine anyX_takeUL 23 rfl rfl (by as_aux_lemma => kernel_rfl) (by as_aux_lemma => kernel_rfl) (by as_aux_lemma => kernel_rfl) (by as_aux_lemma => kernel_rfl) (by as_aux_lemma => kernel_rfl) (fun _ _ _ h => h) (by rfl) hS ?_
                intro l' hl
                dsimp only [List.set_cons_succ, List.set_cons_zero] at hl
                subst hl
                refine anyX_takeWL 24 (v := ?_) rfl rfl (by as_aux_lemma => kernel_rfl) (by as_aux_lemma => kernel_rfl) (by as_aux_lemma => kernel_rfl) (by as_aux_lemma => kernel_rfl) (by as_aux_lemma => kernel_rfl) (fun _ _ _ h => h) (by rfl) ?_ hS ?_
                rotate_left
                · intro W' hW'
                  obtain - := hW'
                  all_goals (go_simp; first | done | rfl)
                intro l' hl
                dsimp only [List.set_cons_succ, List.set_cons_zero] at hl
                subst hl
                refine anyX_takeNL 25 (v := ?_) rfl rfl (by as_aux_lemma => kernel_rfl) (by as_aux_lemma => kernel_rfl) (by as_aux_lemma => kernel_rfl) (by as_aux_lemma => kernel_rfl) (by as_aux_lemma => kernel_rfl) (fun _ _ _ h => h) rfl ?_ hS ?_
                rotate_left
                · intro W' hW'
                  obtain - := hW'
                  all_goals (go_simp; first | done | rfl)
                intro l' hl
                dsimp only [List.set_cons_succ, List.set_cons_zero] at hl
                subst hl
                refine anyX_takeNL 26 (v := ?_) rfl rfl (by as_aux_lemma => kernel_rfl) (by as_aux_lemma => kernel_rfl) (by as_aux_lemma => kernel_rfl) (by as_aux_lemma => kernel_rfl) (by as_aux_lemma => kernel_rfl) (fun _ _ _ h => h) rfl ?_ hS ?_
                rotate_left
                · intro W' hW'
                  obtain - := hW'
                  all_goals (go_simp; first | done | rfl)
                intro l' hl
                dsimp only [List.set_cons_succ, List.set_cons_zero] at hl
                subst hl
                refine anyX_takeWL 27 (v := ?_) rfl rfl (by as_aux_lemma => kernel_rfl) (by as_aux_lemma => kernel_rfl) (by as_aux_lemma => kernel_rfl) (by as_aux_lemma => kernel_rfl) (by as_aux_lemma => kernel_rfl) (fun _ _ _ h => h) (by rfl) ?_ hS ?_
                rotate_left
                · intro W' hW'
                  obtain - := hW'
                  all_goals (go_simp; first | done | rfl)
                intro l' hl
                dsimp only [List.set_cons_succ, List.set_cons_zero] at hl
                subst hl
                refine anyX_takeWL 28 (v := ?_) rfl rfl (by as_aux_lemma => kernel_rfl) (by as_aux_lemma => kernel_rfl) (by as_aux_lemma => kernel_rfl) (by as_aux_lemma => kernel_rfl) (by as_aux_lemma => kernel_rfl) (fun _ _ _ h => h) (by rfl) ?_ hS ?_
                rotate_left
                · intro W' hW'
                  obtain - := hW'
                  all_goals (go_simp; first | done | rfl)
                intro l' hl
                dsimp only [List.set_cons_succ, List.set_cons_zero] at hl
                subst hl
                refine anyX_takeWL 29 (v := ?_) rfl rfl (by as_aux_lemma => kernel_rfl) (by as_aux_lemma => kernel_rfl) (by as_aux_lemma => kernel_rfl) (by as_aux_lemma => kernel_rfl) (by as_aux_lemma => kernel_rfl) (fun _ _ _ h => h) (by rfl) ?_ hS ?_
                rotate_left
                · intro W' hW'
                  obtain - := hW'
                  all_goals (go_simp; first | done | rfl)
                intro l' hl
                dsimp only [List.set_cons_succ, List.set_cons_zero] at hl
                subst hl
                refine anyX_takeWL 30 (v := ?_) rfl rfl (by as_aux_lemma => kernel_rfl) (by as_aux_lemma => kernel_rfl) (by as_aux_lemma => kernel_rfl) (by as_aux_lemma => kernel_rfl) (by as_aux_lemma => kernel_rfl) (fun _ _ _ h => h) (by rfl) ?_ hS ?_
                rotate_left
                · intro W' hW'
                  obtain - := hW'
                  all_goals (go_simp; first | done | rfl)
                intro l' hl
                dsimp only [List.set_cons_succ, List.set_cons_zero] at hl
                subst hl
                refine anyX_takeWL 31 (v := ?_) rfl rfl (by as_aux_lemma => kernel_rfl) (by as_aux_lemma => kernel_rfl) (by as_aux_lemma => kernel_rfl) (by as_aux_lemma => kernel_rfl) (by as_aux_lemma => kernel_rfl) (fun _ _ _ h => h) (by rfl) ?_ hS ?_
                rotate_left
                · intro W' hW'
                  obtain - := hW'
                  all_goals (go_simp; first | done | rfl)
                intro l' hl
                dsimp only [List.set_cons_succ, List.set_cons_zero] at hl
                subst hl
                refine anyX_takeWL 32 (v := ?_) rfl rfl (by as_aux_lemma => kernel_rfl) (by as_aux_lemma => kernel_rfl) (by as_aux_lemma => kernel_rfl) (by as_aux_lemma => kernel_rfl) (by as_aux_lemma => kernel_rfl) (fun _ _ _ h => h) (by rfl) ?_ hS ?_
                rotate_left
                · intro W' hW'
                  obtain - := hW'
                  all_goals (go_simp; first | done | rfl)
                intro l' hl
                dsimp only [List.set_cons_succ, List.set_cons_zero] at hl
                subst hl
                refine anyX_takeNL 33 (v := ?_) rfl rfl (by as_aux_lemma => kernel_rfl) (by as_aux_lemma => kernel_rfl) (by as_aux_lemma => kernel_rfl) (by as_aux_lemma => kernel_rfl) (by as_aux_lemma => kernel_rfl) (fun _ _ _ h => h) rfl ?_ hS ?_
                rotate_left
                · intro W' hW'
                  obtain - := hW'
                  all_goals (go_simp; first | done | rfl)
                intro l' hl
                dsimp only [List.set_cons_succ, List.set_cons_zero] at hl
                subst hl
                refine anyX_done (by kernel_rfl) ?_ _
                refine NoPanic.normal ?_
                clear hS o2
                go_wp2_with fail
                go_roundg (ys.length - (k + 1))
                case measure => have := Hgk.out; omega
                case rel => exact ⟨k + 1, ow86, xs, rfl, by omega, by go_num, hxl, Hxr.out, hs, hp, hw, t.drew⟩
    · obtain rfl : k = ys.length := by omega
      obtain ⟨A6, c6, rfl, hnc⟩ := hw.slice
      have hl2 : (xs.map mkP).length = xs.length := List.length_map _
      clear hlt Hgk
      go_wp2_with fail
      refine (EInt.s_list wr OW [1, 0, 0] [8, 0] g3 0 xs hs (by omega)).mono ?_
      rintro e w101 ⟨v101, ow101, rfl, rr, nn, -⟩
      replace hs := hs.new_ nn
      replace hp := hp.new_ nn
      replace hw := hw.new_ nn
      replace t := t.trans (nn.turn [1])
      clear nn
      go_wp2_with fail
      refine (EInt.same_yes w101 v101 (.slice A6 xs.length c6) xs (by omega) rr.reads hw.reads).mono ?_
      rintro e w102 ⟨rfl, kk, hw'⟩
      have nn := ((Below.refl w101.heap.size w101).nw ow101).drewN kk
      rw [← hw'] at nn
      clear hw'
      replace hs := hs.new_ nn
      replace hp := hp.new_ nn
      replace hw := hw.new_ nn
      replace t := t.trans (nn.turn [1])
      clear nn
      clear rr
      go_wp2_with fail
      refine (EPr.s_list w102 ow101 [1, 0, 1] [8, 0] g4 0 _ hp (by rw [hl2]; omega)).mono ?_
      rintro e w103 ⟨v103, ow103, rfl, rr, nn, -⟩
      replace hs := hs.new_ nn
      replace hp := hp.new_ nn
      replace hw := hw.new_ nn
      replace t := t.trans (nn.turn [1])
      clear nn
      go_wp2_with fail
      refine (pairs w103 v103 A6 c6 xs (by omega) Hxr.out (by have := rr.reads; rwa [hl2] at this) (EInt.Cov.of_reads hw.reads)).mono ?_
      rintro e w104 ⟨rfl, bb⟩
      have nn := bb.nw ow103
      replace hs := hs.new_ nn
      replace hp := hp.new_ nn
      replace hw := hw.new_ nn
      replace t := t.trans (nn.turn [1])
      clear nn
      clear bb
      clear rr
      have fin := (t.new_ ow0 [1]).below
      go_wp2_with fail
      refine (runs w104).mono ?_
      rintro e w60 ⟨rfl, b5⟩
      have fin := fin.trans (b5.mono fin.size)
      go_wp2
      go_ret
      exact ⟨rfl, fin⟩

end SH
end Go.Proofs.Ytppikbdeopagkaa
