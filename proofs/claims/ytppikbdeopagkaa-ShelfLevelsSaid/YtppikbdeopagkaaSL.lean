/-
  LAW 1: ShelfLevels: every call on Levels: the walk.
-/
import Derived.Test.YtppikbdeopagkaaLvQ
import Derived.Test.YtppikbdeopagkaaTold
import Derived.Test.YtppikbdeopagkaaEOpP
import Derived.Test.YtppikbdeopagkaaBox
import Derived.Test.YtppikbdeopagkaaCalc
import Derived.Deep.CutRange
import Derived.Deep.DeepCutAuto
set_option linter.unusedVariables false
set_option linter.unusedSimpArgs false
namespace Go.Proofs.Ytppikbdeopagkaa
open Go Go.RowKit
namespace SH
open RL

/-- What the loop keeps. -/
def lvRel (w : World) (g gw n N : Nat) (gn : Nat) (i : Value) (wr : World) : Prop :=
  ∃ (k : Nat) (OW : Ow) (qs : List (List Int)) (ys : List (Int × Int)), gn = N - k ∧ k ≤ N ∧ i = .int .i64 (k : Int) ∧ ys.length ≤ k ∧ RL.Same n qs ys ∧ EInt.L wr OW [1, 0] g 0 qs ∧ Lv wr OW [1, 1] gw n ys ∧ Turn [1] w ow0 wr OW
/-- What stands within a round. -/
def lvMid (w : World) (g gw gx n : Nat) (o : Op1) (N : Nat) (wr : World) : Prop :=
  ∃ (OW : Ow) (qs : List (List Int)) (ys : List (Int × Int)), ys.length ≤ N ∧ RL.Same n qs ys ∧ EInt.L wr OW [1, 0] g 0 qs ∧ Lv wr OW [1, 1] gw n ys ∧ Cells wr OW [1, 3] gx 0 [.int .i64 o.kind, .int .i64 o.level, .int .i64 o.n] ∧ Turn [1] w ow0 wr OW

set_option maxRecDepth 100000 in
set_option maxHeartbeats 16000000 in
theorem levelsL (w : World) (n : Int) (v : Value) (xs : List Op1) (h : EOp.In w v xs) : Calls Try.prog 14 #[.int .i64 n, v] w fun e w' => e = .returned (.bool true) ∧ Below w.heap.size w w' := by
  go_enter Try.func14, Try.ntmps14
  go_wp2_with fail
  refine (EOp.few w v xs 300 h (by omega)).mono ?_
  rintro e w0 ⟨v1, rfl, hin, hw0⟩
  rw [hw0]
  clear hw0 w0
  have hlen : (xs.take 300).length ≤ 300 := by rw [List.length_take]; omega
  generalize xs.take 300 = ys at *
  clear h
  obtain ⟨A, cap, rfl, -, -, hcov⟩ := hin
  have Hc := Lib.hid hcov
  clear hcov
  by_cases hn : n < 1 ∨ 32 < n
  · go_wp2_with fail
    refine (EInt.l_new_out w n hn).mono ?_
    rintro e w1 ⟨rfl, k1, hk1⟩
    have bd := bdN (Below.refl w.heap.size w) k1
    rw [← hk1] at bd
    clear hk1
    by_cases h1 : n < 1
    · go_wp2_with fail
      refine (runs w1).mono ?_
      rintro e w2 ⟨rfl, b2⟩
      have fin := bd.trans (b2.mono bd.size)
      go_wp2
      go_ret
      exact ⟨rfl, fin⟩
    · have h2 : 32 < n := by omega
      go_wp2_with fail
      refine (runs w1).mono ?_
      rintro e w2 ⟨rfl, b2⟩
      have fin := bd.trans (b2.mono bd.size)
      go_wp2
      go_ret
      exact ⟨rfl, fin⟩
  · obtain ⟨m, rfl⟩ : ∃ m : Nat, n = m := ⟨n.toNat, by omega⟩
    have n1 : ¬ (m : Int) < 1 := by omega
    have n2 : ¬ 32 < (m : Int) := by omega
    have m1 : 1 ≤ m := by omega
    have m2 : m ≤ 32 := by omega
    clear hn
    go_wp2_with fail
    refine (EInt.l_new w ow0 [1, 0] m m1 m2).mono ?_
    rintro e w1 ⟨g, ow1, rfl, hL, nn, -⟩
    have t := nn.turn [1]
    clear nn
    go_wp2_with fail
    obtain ⟨owx, bx, nn, -⟩ := add_cells w1 ow1 [1, 1, 0] [.int .i64 (m : Int), .slice none 0 0, .slice none 0 0] 125
    refine gen_world (fun W => ∃ OW, EInt.L W OW [1, 0] g 0 (List.replicate m []) ∧ Lv W OW [1, 1] w1.heap.size m [] ∧ Turn [1] w ow0 W OW) ⟨owx, hL.new_ nn, ⟨_, _, bx, Row.nil _ _ _ _ _, Row.nil _ _ _ _ _⟩, t.trans (nn.turn [1])⟩ ?_
    clear hL t bx nn owx
    rintro w2 ⟨ow2, hL, hV, t⟩
    generalize w1.heap.size = gw at *
    go_loopg [8] ys.length (fun gn i wr => lvRel w g gw m ys.length gn i wr)
    case atStart => exact ⟨0, ow2, _, [], rfl, Nat.zero_le _, rfl, Nat.le_refl _, RL.Same.nil m, hL, hV, t⟩
    case round =>
      clear hL hV t
      obtain ⟨k, OW, qs, zs, hgk, hk, rfl, hzl, hsm, hL, hV, t⟩ := hrel
      have Hgk := Lib.hid hgk
      have Hsm := Lib.hid hsm
      clear hgk hsm
      by_cases hlt : k < ys.length
      · obtain ⟨o, ho⟩ : ∃ o, ys[k]? = some o := ⟨_, List.getElem?_eq_getElem hlt⟩
        obtain ⟨b, off, rfl, c0, c1, c2⟩ := (Hc.out.new_ (t.new_ ow0 [1]).below).at k o ho
        have i0 : (k : Int) < (ys.length : Int) := by omega
        clear ho
        go_upto_if 68 with fail
        obtain ⟨owx, bx, nn, -⟩ := add_cells wr OW [1, 3] [.int .i64 o.kind, .int .i64 o.level, .int .i64 o.n] 59
        refine gen_world (fun W => ∃ OW, EInt.L W OW [1, 0] g 0 qs ∧ Lv W OW [1, 1] gw m zs ∧ Cells W OW [1, 3] wr.heap.size 0 [.int .i64 o.kind, .int .i64 o.level, .int .i64 o.n] ∧ Turn [1] w ow0 W OW) ⟨owx, hL.new_ nn, hV.new_ nn, bx, t.trans (nn.turn [1])⟩ ?_
        clear hL hV t bx nn owx c0 c1 c2
        rintro w3 ⟨ow3, hL, hV, ho, t⟩
        generalize wr.heap.size = gx at *
        have o0 := ho.get 0 rfl
        have o1 := ho.get 1 rfl
        have o2 := ho.get 2 rfl
        simp only [Nat.zero_add] at o0 o1 o2
        go_cut [] from 66 to 68 (fun wx => lvMid w g gw gx m o (k + 1) wx)
        case first =>
          by_cases k0 : o.kind = 0
          · have b0 : (o.kind == 0) = true := beq_iff_eq.2 k0
            clear k0
            obtain ⟨a, c, qs', zs', hac, hsm', hzl', hp1, hp2⟩ := putQ Hsm.out m2 (by omega) o.level o.n
            have Hp1 := Lib.hid hp1
            have Hp2 := Lib.hid hp2
            have Hsm' := Lib.hid hsm'
            clear hp1 hp2 hsm'
            rcases hac with ⟨rfl, rfl⟩ | ⟨rfl, rfl⟩
            all_goals
              go_wp2_with fail
              refine (Hp1.out w3 ow3 [1, 0] g hL).mono ?_
              rintro e w11 ⟨ow11, rfl, hn', tt⟩
              replace hV := hV.keep tt (fun s => by simp)
              replace ho := ho.keep tt (by simp)
              replace t := t.trans (tt.up (by simp))
              clear hL tt
              have hL := hn'
              clear hn'
              clear o0 o1 o2
              have o0 := ho.get 0 rfl
              have o1 := ho.get 1 rfl
              have o2 := ho.get 2 rfl
              simp only [Nat.zero_add] at o0 o1 o2
              go_wp2_with fail
              refine (Hp2.out w11 ow11 [1, 1] gw hV).mono ?_
              rintro e w12 ⟨ow12, rfl, hn', tt⟩
              replace hL := hL.keep tt (by simp) (fun i j => by simp)
              replace ho := ho.keep tt (by simp)
              replace t := t.trans (tt.up (by simp))
              clear hV tt
              have hV := hn'
              clear hn'
              clear o0 o1 o2
              have o0 := ho.get 0 rfl
              have o1 := ho.get 1 rfl
              have o2 := ho.get 2 rfl
              simp only [Nat.zero_add] at o0 o1 o2
              go_wp2_with fail
              go_meet
              exact ⟨ow12, qs', zs', by omega, Hsm'.out, hL, hV, ho, t⟩
          · have b0 : (o.kind == 0) = false := beq_eq_false_iff_ne.2 k0
            clear k0
            go_wp2_with fail
            go_meet
            exact ⟨ow3, qs, zs, by omega, Hsm.out, hL, hV, ho, t⟩
        case rest =>
          clear hL hV ho t Hsm hzl o0 o1 o2
          obtain ⟨ow4, qs, zs, hzl, hsm, hL, hV, ho, t⟩ := hcut
          have Hsm := Lib.hid hsm
          clear hsm
          obtain ⟨w4, rfl⟩ : ∃ w4 : World, w4 = wc := ⟨_, rfl⟩
          have o0 := ho.get 0 rfl
          have o1 := ho.get 1 rfl
          have o2 := ho.get 2 rfl
          simp only [Nat.zero_add] at o0 o1 o2
          go_upto_if 94 with fail
          go_cut [] from 92 to 94 (fun wx => lvMid w g gw gx m o (k + 1) wx)
          case first =>
            by_cases k1 : o.kind = 1
            · have b1 : (o.kind == 1) = true := beq_iff_eq.2 k1
              clear k1
              obtain ⟨a, a', c, qs', zs', hsm', hzl', hp1, hp2⟩ := takeQ Hsm.out m2 (by omega)
              have Hp1 := Lib.hid hp1
              have Hp2 := Lib.hid hp2
              have Hsm' := Lib.hid hsm'
              clear hp1 hp2 hsm'
              go_wp2_with fail
              refine (Hp1.out w4 ow4 [1, 0] g hL).mono ?_
              rintro e w31 ⟨ow31, rfl, hn', tt⟩
              replace hV := hV.keep tt (fun s => by simp)
              replace ho := ho.keep tt (by simp)
              replace t := t.trans (tt.up (by simp))
              clear hL tt
              have hL := hn'
              clear hn'
              go_wp2_with fail
              refine (Hp2.out w31 ow31 [1, 1] gw hV).mono ?_
              rintro e w32 ⟨ow32, rfl, hn', tt⟩
              replace hL := hL.keep tt (by simp) (fun i j => by simp)
              replace ho := ho.keep tt (by simp)
              replace t := t.trans (tt.up (by simp))
              clear hV tt
              have hV := hn'
              clear hn'
              go_wp2_with fail
              go_meet
              exact ⟨ow32, qs', zs', by omega, Hsm'.out, hL, hV, ho, t⟩
            · have b1 : (o.kind == 1) = false := beq_eq_false_iff_ne.2 k1
              clear k1
              go_wp2_with fail
              go_meet
              exact ⟨ow4, qs, zs, hzl, Hsm.out, hL, hV, ho, t⟩
          case rest =>
            clear hL hV ho t Hsm hzl o0 o1 o2
            obtain ⟨ow5, qs, zs, hzl, hsm, hL, hV, ho, t⟩ := hcut
            obtain ⟨w5, rfl⟩ : ∃ w5 : World, w5 = wc := ⟨_, rfl⟩
            have Hsm := Lib.hid hsm
            obtain ⟨a, a', c, hp1, hp2⟩ := frontQ hsm m2 (by omega)
            have Hp1 := Lib.hid hp1
            have Hp2 := Lib.hid hp2
            clear hp1 hp2 hsm
            go_wp2_with fail
            refine (Hp1.out w5 ow5 [1, 0] g hL).mono ?_
            rintro e w51 ⟨rfl, bb⟩
            have nn := bb.nw ow5
            replace hL := hL.new_ nn
            replace hV := hV.new_ nn
            replace ho := ho.new_ nn
            replace t := t.trans (nn.turn [1])
            clear nn
            clear bb
            go_wp2_with fail
            refine (Hp2.out w51 ow5 [1, 1] gw hV).mono ?_
            rintro e w52 ⟨rfl, bb⟩
            have nn := bb.nw ow5
            replace hL := hL.new_ nn
            replace hV := hV.new_ nn
            replace ho := ho.new_ nn
            replace t := t.trans (nn.turn [1])
            clear nn
            clear bb
            obtain ⟨vl, vx, hcV, -, hr2⟩ := id hV
            obtain ⟨B5, c5, rfl, -⟩ := hr2.slice
            clear hr2
            go_wp2_with fail
            have v2 := hcV.get 2 rfl
            have o1 := ho.get 1 rfl
            have o2 := ho.get 2 rfl
            simp only [Nat.zero_add] at v2 o1 o2
            refine plain_regionN (fun W' : World => W'.cell? ⟨gw, 2, none⟩ = some (.slice B5 zs.length c5) ∧ W'.cell? ⟨gx, 1, none⟩ = some (.int .i64 o.level) ∧ W'.cell? ⟨gx, 2, none⟩ = some (.int .i64 o.n)) [] (by kernel_rfl) ?_
            have hS : (fun W' : World => W'.cell? ⟨gw, 2, none⟩ = some (.slice B5 zs.length c5) ∧ W'.cell? ⟨gx, 1, none⟩ = some (.int .i64 o.level) ∧ W'.cell? ⟨gx, 2, none⟩ = some (.int .i64 o.n)) w52.drew := ⟨v2, o1, o2⟩
            refine anyX_takeNL 0 (v := ?_) rfl rfl (by as_aux_lemma => kernel_rfl) (by as_aux_lemma => kernel_rfl) (by as_aux_lemma => kernel_rfl) (by as_aux_lemma => kernel_rfl) (by as_aux_lemma => kernel_rfl) (fun _ _ _ h => h) rfl ?_ hS ?_
            rotate_left
            · intro W' hW'
              obtain ⟨s0, s1, s2⟩ := hW'
              all_goals (go_simp; first | done | rfl)
            intro l' hl
            dsimp only [List.set_cons_succ, List.set_cons_zero] at hl
            subst hl
            refine anyX_takeNL 1 (v := ?_) rfl rfl (by as_aux_lemma => kernel_rfl) (by as_aux_lemma => kernel_rfl) (by as_aux_lemma => kernel_rfl) (by as_aux_lemma => kernel_rfl) (by as_aux_lemma => kernel_rfl) (fun _ _ _ h => h) rfl ?_ hS ?_
            rotate_left
            · intro W' hW'
              obtain ⟨s0, s1, s2⟩ := hW'
              all_goals (go_simp; first | done | rfl)
            intro l' hl
            dsimp only [List.set_cons_succ, List.set_cons_zero] at hl
            subst hl
            refine anyX_takeNL 2 (v := ?_) rfl rfl (by as_aux_lemma => kernel_rfl) (by as_aux_lemma => kernel_rfl) (by as_aux_lemma => kernel_rfl) (by as_aux_lemma => kernel_rfl) (by as_aux_lemma => kernel_rfl) (fun _ _ _ h => h) rfl ?_ hS ?_
            rotate_left
            · intro W' hW'
              obtain ⟨s0, s1, s2⟩ := hW'
              all_goals (go_simp; first | done | rfl)
            intro l' hl
            dsimp only [List.set_cons_succ, List.set_cons_zero] at hl
            subst hl
            refine anyX_takeNL 3 (v := ?_) rfl rfl (by as_aux_lemma => kernel_rfl) (by as_aux_lemma => kernel_rfl) (by as_aux_lemma => kernel_rfl) (by as_aux_lemma => kernel_rfl) (by as_aux_lemma => kernel_rfl) (fun _ _ _ h => h) rfl ?_ hS ?_
            rotate_left
            · intro W' hW'
              obtain ⟨s0, s1, s2⟩ := hW'
              all_goals (go_simp; first | done | rfl)
            intro l' hl
            dsimp only [List.set_cons_succ, List.set_cons_zero] at hl
            subst hl
            refine anyX_takeWL 4 (v := ?_) rfl rfl (by as_aux_lemma => kernel_rfl) (by as_aux_lemma => kernel_rfl) (by as_aux_lemma => kernel_rfl) (by as_aux_lemma => kernel_rfl) (by as_aux_lemma => kernel_rfl) (fun _ _ _ h => h) (by rfl) ?_ hS ?_
            rotate_left
            · intro W' hW'
              obtain ⟨s0, s1, s2⟩ := hW'
              all_goals (go_simp; first | done | rfl)
            intro l' hl
            dsimp only [List.set_cons_succ, List.set_cons_zero] at hl
            subst hl
            refine anyX_takeWL 5 (v := ?_) rfl rfl (by as_aux_lemma => kernel_rfl) (by as_aux_lemma => kernel_rfl) (by as_aux_lemma => kernel_rfl) (by as_aux_lemma => kernel_rfl) (by as_aux_lemma => kernel_rfl) (fun _ _ _ h => h) (by rfl) ?_ hS ?_
            rotate_left
            · intro W' hW'
              obtain ⟨s0, s1, s2⟩ := hW'
              all_goals (go_simp; first | done | rfl)
            intro l' hl
            dsimp only [List.set_cons_succ, List.set_cons_zero] at hl
            subst hl
            refine anyX_takeWL 6 (v := ?_) rfl rfl (by as_aux_lemma => kernel_rfl) (by as_aux_lemma => kernel_rfl) (by as_aux_lemma => kernel_rfl) (by as_aux_lemma => kernel_rfl) (by as_aux_lemma => kernel_rfl) (fun _ _ _ h => h) (by rfl) ?_ hS ?_
            rotate_left
            · intro W' hW'
              obtain ⟨s0, s1, s2⟩ := hW'
              all_goals (go_simp; first | done | rfl)
            intro l' hl
            dsimp only [List.set_cons_succ, List.set_cons_zero] at hl
            subst hl
            refine anyX_takeNL 7 (v := ?_) rfl rfl (by as_aux_lemma => kernel_rfl) (by as_aux_lemma => kernel_rfl) (by as_aux_lemma => kernel_rfl) (by as_aux_lemma => kernel_rfl) (by as_aux_lemma => kernel_rfl) (fun _ _ _ h => h) rfl ?_ hS ?_
            rotate_left
            · intro W' hW'
              obtain ⟨s0, s1, s2⟩ := hW'
              all_goals (go_simp; first | done | rfl)
            intro l' hl
            dsimp only [List.set_cons_succ, List.set_cons_zero] at hl
            subst hl
            refine anyX_takeNL 8 (v := ?_) rfl rfl (by as_aux_lemma => kernel_rfl) (by as_aux_lemma => kernel_rfl) (by as_aux_lemma => kernel_rfl) (by as_aux_lemma => kernel_rfl) (by as_aux_lemma => kernel_rfl) (fun _ _ _ h => h) rfl ?_ hS ?_
            rotate_left
            · intro W' hW'
              obtain ⟨s0, s1, s2⟩ := hW'
              all_goals (go_simp; first | done | rfl)
            intro l' hl
            dsimp only [List.set_cons_succ, List.set_cons_zero] at hl
            subst hl
            refine anyX_takeWL 9 (v := ?_) rfl rfl (by as_aux_lemma => kernel_rfl) (by as_aux_lemma => kernel_rfl) (by as_aux_lemma => kernel_rfl) (by as_aux_lemma => kernel_rfl) (by as_aux_lemma => kernel_rfl) (fun _ _ _ h => h) (by rfl) ?_ hS ?_
            rotate_left
            · intro W' hW'
              obtain ⟨s0, s1, s2⟩ := hW'
              all_goals (go_simp; first | done | rfl)
            intro l' hl
            dsimp only [List.set_cons_succ, List.set_cons_zero] at hl
            subst hl
            refine anyX_takeWL 10 (v := ?_) rfl rfl (by as_aux_lemma => kernel_rfl) (by as_aux_lemma => kernel_rfl) (by as_aux_lemma => kernel_rfl) (by as_aux_lemma => kernel_rfl) (by as_aux_lemma => kernel_rfl) (fun _ _ _ h => h) (by rfl) ?_ hS ?_
            rotate_left
            · intro W' hW'
              obtain ⟨s0, s1, s2⟩ := hW'
              all_goals (go_simp; first | done | rfl)
            intro l' hl
            dsimp only [List.set_cons_succ, List.set_cons_zero] at hl
            subst hl
            refine anyX_takeWL 11 (v := ?_) rfl rfl (by as_aux_lemma => kernel_rfl) (by as_aux_lemma => kernel_rfl) (by as_aux_lemma => kernel_rfl) (by as_aux_lemma => kernel_rfl) (by as_aux_lemma => kernel_rfl) (fun _ _ _ h => h) (by rfl) ?_ hS ?_
            rotate_left
            · intro W' hW'
              obtain ⟨s0, s1, s2⟩ := hW'
              all_goals (go_simp; first | done | rfl)
            intro l' hl
            dsimp only [List.set_cons_succ, List.set_cons_zero] at hl
            subst hl
            refine anyX_takeNL 12 (v := ?_) rfl rfl (by as_aux_lemma => kernel_rfl) (by as_aux_lemma => kernel_rfl) (by as_aux_lemma => kernel_rfl) (by as_aux_lemma => kernel_rfl) (by as_aux_lemma => kernel_rfl) (fun _ _ _ h => h) rfl ?_ hS ?_
            rotate_left
            · intro W' hW'
              obtain ⟨s0, s1, s2⟩ := hW'
              all_goals (go_simp; first | done | rfl)
            intro l' hl
            dsimp only [List.set_cons_succ, List.set_cons_zero] at hl
            subst hl
            refine anyX_takeNL 13 (v := ?_) rfl rfl (by as_aux_lemma => kernel_rfl) (by as_aux_lemma => kernel_rfl) (by as_aux_lemma => kernel_rfl) (by as_aux_lemma => kernel_rfl) (by as_aux_lemma => kernel_rfl) (fun _ _ _ h => h) rfl ?_ hS ?_
            rotate_left
            · intro W' hW'
              obtain ⟨s0, s1, s2⟩ := hW'
              all_goals (go_simp; first | done | rfl)
            intro l' hl
            dsimp only [List.set_cons_succ, List.set_cons_zero] at hl
            subst hl
            refine anyX_takeWL 14 (v := ?_) rfl rfl (by as_aux_lemma => kernel_rfl) (by as_aux_lemma => kernel_rfl) (by as_aux_lemma => kernel_rfl) (by as_aux_lemma => kernel_rfl) (by as_aux_lemma => kernel_rfl) (fun _ _ _ h => h) (by rfl) ?_ hS ?_
            rotate_left
            · intro W' hW'
              obtain ⟨s0, s1, s2⟩ := hW'
              all_goals (go_simp; first | done | rfl)
            intro l' hl
            dsimp only [List.set_cons_succ, List.set_cons_zero] at hl
            subst hl
            refine anyX_takeWL 16 (v := ?_) rfl rfl (by as_aux_lemma => kernel_rfl) (by as_aux_lemma => kernel_rfl) (by as_aux_lemma => kernel_rfl) (by as_aux_lemma => kernel_rfl) (by as_aux_lemma => kernel_rfl) (fun _ _ _ h => h) (by rfl) ?_ hS ?_
            rotate_left
            · intro W' hW'
              obtain ⟨s0, s1, s2⟩ := hW'
              all_goals (go_simp; first | done | rfl)
            intro l' hl
            dsimp only [List.set_cons_succ, List.set_cons_zero] at hl
            subst hl
            refine anyX_takeWL 17 (v := ?_) rfl rfl (by as_aux_lemma => kernel_rfl) (by as_aux_lemma => kernel_rfl) (by as_aux_lemma => kernel_rfl) (by as_aux_lemma => kernel_rfl) (by as_aux_lemma => kernel_rfl) (fun _ _ _ h => h) (by rfl) ?_ hS ?_
            rotate_left
            · intro W' hW'
              obtain ⟨s0, s1, s2⟩ := hW'
              all_goals (go_simp; first | done | rfl)
            intro l' hl
            dsimp only [List.set_cons_succ, List.set_cons_zero] at hl
            subst hl
            refine anyX_takeWL 18 (v := ?_) rfl rfl (by as_aux_lemma => kernel_rfl) (by as_aux_lemma => kernel_rfl) (by as_aux_lemma => kernel_rfl) (by as_aux_lemma => kernel_rfl) (by as_aux_lemma => kernel_rfl) (fun _ _ _ h => h) (by rfl) ?_ hS ?_
            rotate_left
            · intro W' hW'
              obtain ⟨s0, s1, s2⟩ := hW'
              all_goals (go_simp; first | done | rfl)
            intro l' hl
            dsimp only [List.set_cons_succ, List.set_cons_zero] at hl
            subst hl
            refine anyX_takeWL 19 (v := ?_) rfl rfl (by as_aux_lemma => kernel_rfl) (by as_aux_lemma => kernel_rfl) (by as_aux_lemma => kernel_rfl) (by as_aux_lemma => kernel_rfl) (by as_aux_lemma => kernel_rfl) (fun _ _ _ h => h) (by rfl) ?_ hS ?_
            rotate_left
            · intro W' hW'
              obtain ⟨s0, s1, s2⟩ := hW'
              all_goals (go_simp; first | done | rfl)
            intro l' hl
            dsimp only [List.set_cons_succ, List.set_cons_zero] at hl
            subst hl
            refine anyX_takeWL 20 (v := ?_) rfl rfl (by as_aux_lemma => kernel_rfl) (by as_aux_lemma => kernel_rfl) (by as_aux_lemma => kernel_rfl) (by as_aux_lemma => kernel_rfl) (by as_aux_lemma => kernel_rfl) (fun _ _ _ h => h) (by rfl) ?_ hS ?_
            rotate_left
            · intro W' hW'
              obtain ⟨s0, s1, s2⟩ := hW'
              all_goals (go_simp; first | done | rfl)
            intro l' hl
            dsimp only [List.set_cons_succ, List.set_cons_zero] at hl
            subst hl
            refine anyX_oneW (i := 15) (by kernel_rfl) rfl (by rfl) fun K' hK' => ?_
            unfold Oper.wp
            go_simp
            refine (lenQ Hsm.out m2 (by omega) _ ow5 [1, 0] g (hL.new_ (New.refl _ _).drew)).mono ?_
            rintro e w53 ⟨rfl, kk, hw'⟩
            have nn : New w52 ow5 w53 ow5 := by rw [hw']; exact ((New.refl _ _).drew).drewN kk
            clear hw'
            replace hL := hL.new_ nn
            replace hV := hV.new_ nn
            replace ho := ho.new_ nn
            replace hcV := hcV.new_ nn
            replace t := t.trans (nn.turn [1])
            clear nn
            clear hS v2 o1 o2
            have v2 := hcV.get 2 rfl
            have o1 := ho.get 1 rfl
            have o2 := ho.get 2 rfl
            simp only [Nat.zero_add] at v2 o1 o2
            have hS : (fun W' : World => W'.cell? ⟨gw, 2, none⟩ = some (.slice B5 zs.length c5) ∧ W'.cell? ⟨gx, 1, none⟩ = some (.int .i64 o.level) ∧ W'.cell? ⟨gx, 2, none⟩ = some (.int .i64 o.n)) w53 := ⟨v2, o1, o2⟩
            refine hK' _ _ (fun _ => hS) ?_
            clear hK' K'
            refine anyX_takeWL 21 (v := ?_) rfl rfl (by as_aux_lemma => kernel_rfl) (by as_aux_lemma => kernel_rfl) (by as_aux_lemma => kernel_rfl) (by as_aux_lemma => kernel_rfl) (by as_aux_lemma => kernel_rfl) (fun _ _ _ h => h) (by rfl) ?_ hS ?_
            rotate_left
            · intro W' hW'
              obtain ⟨s0, s1, s2⟩ := hW'
              all_goals (go_simp; first | done | rfl)
            intro l' hl
            dsimp only [List.set_cons_succ, List.set_cons_zero] at hl
            subst hl
            refine anyX_takeNL 22 (v := ?_) rfl rfl (by as_aux_lemma => kernel_rfl) (by as_aux_lemma => kernel_rfl) (by as_aux_lemma => kernel_rfl) (by as_aux_lemma => kernel_rfl) (by as_aux_lemma => kernel_rfl) (fun _ _ _ h => h) rfl ?_ hS ?_
            rotate_left
            · intro W' hW'
              obtain ⟨s0, s1, s2⟩ := hW'
              all_goals (go_simp; first | done | rfl)
            intro l' hl
            dsimp only [List.set_cons_succ, List.set_cons_zero] at hl
            subst hl
            refine anyX_takeNL 23 (v := ?_) rfl rfl (by as_aux_lemma => kernel_rfl) (by as_aux_lemma => kernel_rfl) (by as_aux_lemma => kernel_rfl) (by as_aux_lemma => kernel_rfl) (by as_aux_lemma => kernel_rfl) (fun _ _ _ h => h) rfl ?_ hS ?_
            rotate_left
            · intro W' hW'
              obtain ⟨s0, s1, s2⟩ := hW'
              all_goals (go_simp; first | done | rfl)
            intro l' hl
            dsimp only [List.set_cons_succ, List.set_cons_zero] at hl
            subst hl
            refine anyX_takeWL 24 (v := ?_) rfl rfl (by as_aux_lemma => kernel_rfl) (by as_aux_lemma => kernel_rfl) (by as_aux_lemma => kernel_rfl) (by as_aux_lemma => kernel_rfl) (by as_aux_lemma => kernel_rfl) (fun _ _ _ h => h) (by rfl) ?_ hS ?_
            rotate_left
            · intro W' hW'
              obtain ⟨s0, s1, s2⟩ := hW'
              all_goals (go_simp; first | done | rfl)
            intro l' hl
            dsimp only [List.set_cons_succ, List.set_cons_zero] at hl
            subst hl
            refine anyX_takeWL 25 (v := ?_) rfl rfl (by as_aux_lemma => kernel_rfl) (by as_aux_lemma => kernel_rfl) (by as_aux_lemma => kernel_rfl) (by as_aux_lemma => kernel_rfl) (by as_aux_lemma => kernel_rfl) (fun _ _ _ h => h) (by rfl) ?_ hS ?_
            rotate_left
            · intro W' hW'
              obtain ⟨s0, s1, s2⟩ := hW'
              all_goals (go_simp; first | done | rfl)
            intro l' hl
            dsimp only [List.set_cons_succ, List.set_cons_zero] at hl
            subst hl
            refine anyX_takeWL 26 (v := ?_) rfl rfl (by as_aux_lemma => kernel_rfl) (by as_aux_lemma => kernel_rfl) (by as_aux_lemma => kernel_rfl) (by as_aux_lemma => kernel_rfl) (by as_aux_lemma => kernel_rfl) (fun _ _ _ h => h) (by rfl) ?_ hS ?_
            rotate_left
            · intro W' hW'
              obtain ⟨s0, s1, s2⟩ := hW'
              all_goals (go_simp; first | done | rfl)
            intro l' hl
            dsimp only [List.set_cons_succ, List.set_cons_zero] at hl
            subst hl
            refine anyX_takeWL 28 (v := ?_) rfl rfl (by as_aux_lemma => kernel_rfl) (by as_aux_lemma => kernel_rfl) (by as_aux_lemma => kernel_rfl) (by as_aux_lemma => kernel_rfl) (by as_aux_lemma => kernel_rfl) (fun _ _ _ h => h) (by rfl) ?_ hS ?_
            rotate_left
            · intro W' hW'
              obtain ⟨s0, s1, s2⟩ := hW'
              all_goals (go_simp; first | done | rfl)
            intro l' hl
            dsimp only [List.set_cons_succ, List.set_cons_zero] at hl
            subst hl
            refine anyX_takeWL 29 (v := ?_) rfl rfl (by as_aux_lemma => kernel_rfl) (by as_aux_lemma => kernel_rfl) (by as_aux_lemma => kernel_rfl) (by as_aux_lemma => kernel_rfl) (by as_aux_lemma => kernel_rfl) (fun _ _ _ h => h) (by rfl) ?_ hS ?_
            rotate_left
            · intro W' hW'
              obtain ⟨s0, s1, s2⟩ := hW'
              all_goals (go_simp; first | done | rfl)
            intro l' hl
            dsimp only [List.set_cons_succ, List.set_cons_zero] at hl
            subst hl
            refine anyX_takeWL 30 (v := ?_) rfl rfl (by as_aux_lemma => kernel_rfl) (by as_aux_lemma => kernel_rfl) (by as_aux_lemma => kernel_rfl) (by as_aux_lemma => kernel_rfl) (by as_aux_lemma => kernel_rfl) (fun _ _ _ h => h) (by rfl) ?_ hS ?_
            rotate_left
            · intro W' hW'
              obtain ⟨s0, s1, s2⟩ := hW'
              all_goals (go_simp; first | done | rfl)
            intro l' hl
            dsimp only [List.set_cons_succ, List.set_cons_zero] at hl
            subst hl
            refine anyX_oneW (i := 27) (by kernel_rfl) rfl (by rfl) fun K' hK' => ?_
            unfold Oper.wp
            go_simp
            refine (countQ Hsm.out m2 (by omega) w53 ow5 [1, 0] g o.level hL).mono ?_
            rintro e w54 ⟨rfl, bb⟩
            have nn := bb.nw ow5
            clear bb
            replace hL := hL.new_ nn
            replace hV := hV.new_ nn
            replace ho := ho.new_ nn
            replace hcV := hcV.new_ nn
            replace t := t.trans (nn.turn [1])
            clear nn
            clear hS v2 o1 o2
            have v2 := hcV.get 2 rfl
            have o1 := ho.get 1 rfl
            have o2 := ho.get 2 rfl
            simp only [Nat.zero_add] at v2 o1 o2
            have hS : (fun W' : World => W'.cell? ⟨gw, 2, none⟩ = some (.slice B5 zs.length c5) ∧ W'.cell? ⟨gx, 1, none⟩ = some (.int .i64 o.level) ∧ W'.cell? ⟨gx, 2, none⟩ = some (.int .i64 o.n)) w54 := ⟨v2, o1, o2⟩
            refine hK' _ _ (fun _ => hS) ?_
            clear hK' K'
            refine anyX_oneW (i := 31) (by kernel_rfl) rfl (by rfl) fun K' hK' => ?_
            unfold Oper.wp
            go_simp
            refine (RL.count w54 ow5 [1, 1] gw m zs o.level hV (by omega)).mono ?_
            rintro e w55 ⟨rfl, bb⟩
            have nn := bb.nw ow5
            clear bb
            replace hL := hL.new_ nn
            replace hV := hV.new_ nn
            replace ho := ho.new_ nn
            replace hcV := hcV.new_ nn
            replace t := t.trans (nn.turn [1])
            clear nn
            clear hS v2 o1 o2
            have v2 := hcV.get 2 rfl
            have o1 := ho.get 1 rfl
            have o2 := ho.get 2 rfl
            simp only [Nat.zero_add] at v2 o1 o2
            have hS : (fun W' : World => W'.cell? ⟨gw, 2, none⟩ = some (.slice B5 zs.length c5) ∧ W'.cell? ⟨gx, 1, none⟩ = some (.int .i64 o.level) ∧ W'.cell? ⟨gx, 2, none⟩ = some (.int .i64 o.n)) w55 := ⟨v2, o1, o2⟩
            refine hK' _ _ (fun _ => hS) ?_
            clear hK' K'
            refine anyX_takeWL 32 (v := ?_) rfl rfl (by as_aux_lemma => kernel_rfl) (by as_aux_lemma => kernel_rfl) (by as_aux_lemma => kernel_rfl) (by as_aux_lemma => kernel_rfl) (by as_aux_lemma => kernel_rfl) (fun _ _ _ h => h) (by rfl) ?_ hS ?_
            rotate_left
            · intro W' hW'
              obtain ⟨s0, s1, s2⟩ := hW'
              all_goals (go_simp; first | done | rfl)
            intro l' hl
            dsimp only [List.set_cons_succ, List.set_cons_zero] at hl
            subst hl
            refine anyX_takeNL 33 (v := ?_) rfl rfl (by as_aux_lemma => kernel_rfl) (by as_aux_lemma => kernel_rfl) (by as_aux_lemma => kernel_rfl) (by as_aux_lemma => kernel_rfl) (by as_aux_lemma => kernel_rfl) (fun _ _ _ h => h) rfl ?_ hS ?_
            rotate_left
            · intro W' hW'
              obtain ⟨s0, s1, s2⟩ := hW'
              all_goals (go_simp; first | done | rfl)
            intro l' hl
            dsimp only [List.set_cons_succ, List.set_cons_zero] at hl
            subst hl
            refine anyX_takeNL 34 (v := ?_) rfl rfl (by as_aux_lemma => kernel_rfl) (by as_aux_lemma => kernel_rfl) (by as_aux_lemma => kernel_rfl) (by as_aux_lemma => kernel_rfl) (by as_aux_lemma => kernel_rfl) (fun _ _ _ h => h) rfl ?_ hS ?_
            rotate_left
            · intro W' hW'
              obtain ⟨s0, s1, s2⟩ := hW'
              all_goals (go_simp; first | done | rfl)
            intro l' hl
            dsimp only [List.set_cons_succ, List.set_cons_zero] at hl
            subst hl
            refine anyX_takeWL 35 (v := ?_) rfl rfl (by as_aux_lemma => kernel_rfl) (by as_aux_lemma => kernel_rfl) (by as_aux_lemma => kernel_rfl) (by as_aux_lemma => kernel_rfl) (by as_aux_lemma => kernel_rfl) (fun _ _ _ h => h) (by rfl) ?_ hS ?_
            rotate_left
            · intro W' hW'
              obtain ⟨s0, s1, s2⟩ := hW'
              all_goals (go_simp; first | done | rfl)
            intro l' hl
            dsimp only [List.set_cons_succ, List.set_cons_zero] at hl
            subst hl
            refine anyX_takeWL 36 (v := ?_) rfl rfl (by as_aux_lemma => kernel_rfl) (by as_aux_lemma => kernel_rfl) (by as_aux_lemma => kernel_rfl) (by as_aux_lemma => kernel_rfl) (by as_aux_lemma => kernel_rfl) (fun _ _ _ h => h) (by rfl) ?_ hS ?_
            rotate_left
            · intro W' hW'
              obtain ⟨s0, s1, s2⟩ := hW'
              all_goals (go_simp; first | done | rfl)
            intro l' hl
            dsimp only [List.set_cons_succ, List.set_cons_zero] at hl
            subst hl
            refine anyX_takeWL 37 (v := ?_) rfl rfl (by as_aux_lemma => kernel_rfl) (by as_aux_lemma => kernel_rfl) (by as_aux_lemma => kernel_rfl) (by as_aux_lemma => kernel_rfl) (by as_aux_lemma => kernel_rfl) (fun _ _ _ h => h) (by rfl) ?_ hS ?_
            rotate_left
            · intro W' hW'
              obtain ⟨s0, s1, s2⟩ := hW'
              all_goals (go_simp; first | done | rfl)
            intro l' hl
            dsimp only [List.set_cons_succ, List.set_cons_zero] at hl
            subst hl
            refine anyX_takeWL 39 (v := ?_) rfl rfl (by as_aux_lemma => kernel_rfl) (by as_aux_lemma => kernel_rfl) (by as_aux_lemma => kernel_rfl) (by as_aux_lemma => kernel_rfl) (by as_aux_lemma => kernel_rfl) (fun _ _ _ h => h) (by rfl) ?_ hS ?_
            rotate_left
            · intro W' hW'
              obtain ⟨s0, s1, s2⟩ := hW'
              all_goals (go_simp; first | done | rfl)
            intro l' hl
            dsimp only [List.set_cons_succ, List.set_cons_zero] at hl
            subst hl
            refine anyX_takeWL 40 (v := ?_) rfl rfl (by as_aux_lemma => kernel_rfl) (by as_aux_lemma => kernel_rfl) (by as_aux_lemma => kernel_rfl) (by as_aux_lemma => kernel_rfl) (by as_aux_lemma => kernel_rfl) (fun _ _ _ h => h) (by rfl) ?_ hS ?_
            rotate_left
            · intro W' hW'
              obtain ⟨s0, s1, s2⟩ := hW'
              all_goals (go_simp; first | done | rfl)
            intro l' hl
            dsimp only [List.set_cons_succ, List.set_cons_zero] at hl
            subst hl
            refine anyX_takeWL 41 (v := ?_) rfl rfl (by as_aux_lemma => kernel_rfl) (by as_aux_lemma => kernel_rfl) (by as_aux_lemma => kernel_rfl) (by as_aux_lemma => kernel_rfl) (by as_aux_lemma => kernel_rfl) (fun _ _ _ h => h) (by rfl) ?_ hS ?_
            rotate_left
            · intro W' hW'
              obtain ⟨s0, s1, s2⟩ := hW'
              all_goals (go_simp; first | done | rfl)
            intro l' hl
            dsimp only [List.set_cons_succ, List.set_cons_zero] at hl
            subst hl
            refine anyX_oneW (i := 38) (by kernel_rfl) rfl (by rfl) fun K' hK' => ?_
            unfold Oper.wp
            go_simp
            refine (countQ Hsm.out m2 (by omega) w55 ow5 [1, 0] g o.n hL).mono ?_
            rintro e w56 ⟨rfl, bb⟩
            have nn := bb.nw ow5
            clear bb
            replace hL := hL.new_ nn
            replace hV := hV.new_ nn
            replace ho := ho.new_ nn
            replace hcV := hcV.new_ nn
            replace t := t.trans (nn.turn [1])
            clear nn
            clear hS v2 o1 o2
            have v2 := hcV.get 2 rfl
            have o1 := ho.get 1 rfl
            have o2 := ho.get 2 rfl
            simp only [Nat.zero_add] at v2 o1 o2
            have hS : (fun W' : World => W'.cell? ⟨gw, 2, none⟩ = some (.slice B5 zs.length c5) ∧ W'.cell? ⟨gx, 1, none⟩ = some (.int .i64 o.level) ∧ W'.cell? ⟨gx, 2, none⟩ = some (.int .i64 o.n)) w56 := ⟨v2, o1, o2⟩
            refine hK' _ _ (fun _ => hS) ?_
            clear hK' K'
            refine anyX_oneW (i := 42) (by kernel_rfl) rfl (by rfl) fun K' hK' => ?_
            unfold Oper.wp
            go_simp
            refine (RL.count w56 ow5 [1, 1] gw m zs o.n hV (by omega)).mono ?_
            rintro e w57 ⟨rfl, bb⟩
            have nn := bb.nw ow5
            clear bb
            replace hL := hL.new_ nn
            replace hV := hV.new_ nn
            replace ho := ho.new_ nn
            replace hcV := hcV.new_ nn
            replace t := t.trans (nn.turn [1])
            clear nn
            clear hS v2 o1 o2
            have v2 := hcV.get 2 rfl
            have o1 := ho.get 1 rfl
            have o2 := ho.get 2 rfl
            simp only [Nat.zero_add] at v2 o1 o2
            have hS : (fun W' : World => W'.cell? ⟨gw, 2, none⟩ = some (.slice B5 zs.length c5) ∧ W'.cell? ⟨gx, 1, none⟩ = some (.int .i64 o.level) ∧ W'.cell? ⟨gx, 2, none⟩ = some (.int .i64 o.n)) w57 := ⟨v2, o1, o2⟩
            refine hK' _ _ (fun _ => hS) ?_
            clear hK' K'
            refine anyX_takeWL 43 (v := ?_) rfl rfl (by as_aux_lemma => kernel_rfl) (by as_aux_lemma => kernel_rfl) (by as_aux_lemma => kernel_rfl) (by as_aux_lemma => kernel_rfl) (by as_aux_lemma => kernel_rfl) (fun _ _ _ h => h) (by rfl) ?_ hS ?_
            rotate_left
            · intro W' hW'
              obtain ⟨s0, s1, s2⟩ := hW'
              all_goals (go_simp; first | done | rfl)
            intro l' hl
            dsimp only [List.set_cons_succ, List.set_cons_zero] at hl
            subst hl
            refine anyX_takeNL 44 (v := ?_) rfl rfl (by as_aux_lemma => kernel_rfl) (by as_aux_lemma => kernel_rfl) (by as_aux_lemma => kernel_rfl) (by as_aux_lemma => kernel_rfl) (by as_aux_lemma => kernel_rfl) (fun _ _ _ h => h) rfl ?_ hS ?_
            rotate_left
            · intro W' hW'
              obtain ⟨s0, s1, s2⟩ := hW'
              all_goals (go_simp; first | done | rfl)
            intro l' hl
            dsimp only [List.set_cons_succ, List.set_cons_zero] at hl
            subst hl
            refine anyX_done (by kernel_rfl) ?_ _
            refine NoPanic.normal ?_
            clear hS v2 o1 o2
            go_wp2_with fail
            go_roundg (ys.length - (k + 1))
            case measure => have := Hgk.out; omega
            case rel => exact ⟨k + 1, ow5, qs, zs, rfl, by omega, by go_num, hzl, Hsm.out, hL, hV, t⟩
      · obtain rfl : k = ys.length := by omega
        clear hlt Hgk
        have hall := Hsm.out.all m (Nat.le_refl _)
        rw [Nat.sub_self] at hall
        have hqs : ∀ x ∈ qs, x.length ≤ 1099511627776 := Hsm.out.small (by omega)
        have hql : qs.length ≤ 32 := by rw [Hsm.out.1]; exact m2
        have hle := allTo_le zs m m
        have hle2 : m * zs.length ≤ 32 * 1000000 := Nat.mul_le_mul (by omega) (by omega)
        have hNl : (allTo zs m m).length = (EInt.lpre qs 0).length := by rw [hall, List.length_map]
        have e1 : (allTo zs m m).map (·.1) = (EInt.lpre qs 0).map fun y => (y.1 : Int) := by rw [hall, List.map_map]; rfl
        have e2 : (allTo zs m m).map (·.2) = (EInt.lpre qs 0).map (·.2) := by rw [hall, List.map_map]; rfl
        go_wp2_with fail
        refine (RL.all wr OW [1, 1] gw m zs hV (by omega) m2).mono ?_
        rintro e w91 ⟨va, vb, rfl, ra, rb, bb⟩
        rw [hNl, e1] at ra
        rw [hNl, e2] at rb
        rw [hNl] at hle
        have hL1 := hL.new_ (bb.nw OW)
        have t1 := t.trans ((bb.nw OW).turn [1])
        clear hL hV t bb hall e1 e2 hNl
        have hN2 : (EInt.lpre qs 0).length ≤ 1099511627776 := by omega
        clear hle hle2
        go_wp2_with fail
        refine (told w91 OW [1, 0] g qs hL1 hqs hql va vb ra rb hN2).mono ?_
        rintro e w92 ⟨rfl, bb⟩
        have ra := ra.new_ bb
        have rb := rb.new_ bb
        have hL2 := hL1.new_ (bb.nw OW)
        have t2 := t1.trans ((bb.nw OW).turn [1])
        clear hL1 t1 bb
        go_wp2_with fail
        refine (told w92 OW [1, 0] g qs hL2 hqs hql va vb ra rb hN2).mono ?_
        rintro e w93 ⟨rfl, bb⟩
        have t3 := t2.trans ((bb.nw OW).turn [1])
        have fin := (t3.new_ ow0 [1]).below
        clear hL2 t2 bb ra rb
        go_wp2_with fail
        refine (runs w93).mono ?_
        rintro e w94 ⟨rfl, b5⟩
        have fin := fin.trans (b5.mono fin.size)
        go_wp2
        go_ret
        exact ⟨rfl, fin⟩

end SH
end Go.Proofs.Ytppikbdeopagkaa
