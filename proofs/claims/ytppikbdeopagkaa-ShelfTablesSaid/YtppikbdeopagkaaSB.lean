/-
  LAW 1: ShelfTables: every call on a Table of ints and on one of texts: the walk.
-/
import Derived.Test.YtppikbdeopagkaaTbK
import Derived.Test.YtppikbdeopagkaaSR
import Derived.Test.YtppikbdeopagkaaEOpP
import Derived.Test.YtppikbdeopagkaaBox
import Derived.Test.YtppikbdeopagkaaCalc
import Derived.Deep.CutRange
import Derived.Deep.CutBlock
import Derived.Deep.DeepCutAuto
set_option linter.unusedVariables false
set_option linter.unusedSimpArgs false
namespace Go.Proofs.Ytppikbdeopagkaa
open Go Go.RowKit
namespace SH
open TB

/-- What the loop keeps. -/
def tbRel (w : World) (gt gu gw N : Nat) (gn : Nat) (i : Value) (wr : World) : Prop :=
  ∃ (k : Nat) (OW : Ow) (rows ys : List (Int × Int)), gn = N - k ∧ k ≤ N ∧ i = .int .i64 (k : Int) ∧ rows.length ≤ k ∧ TB.Same rows ys ∧ TNI.TbP wr OW [1, 0] gt 0 rows ∧ TXP.TbP wr OW [1, 1] gu 0 (rows.map pr) ∧ RW.Rw wr OW [1, 2] gw ys ∧ Turn [1] w ow0 wr OW
/-- What stands within a round. -/
def tbMid (w : World) (gt gu gw gx : Nat) (o : Op1) (N : Nat) (wr : World) : Prop :=
  ∃ (OW : Ow) (rows ys : List (Int × Int)), rows.length ≤ N ∧ TB.Same rows ys ∧ TNI.TbP wr OW [1, 0] gt 0 rows ∧ TXP.TbP wr OW [1, 1] gu 0 (rows.map pr) ∧ RW.Rw wr OW [1, 2] gw ys ∧ Cells wr OW [1, 3] gx 0 [.int .i64 o.kind, .int .i64 o.level, .int .i64 o.n] ∧ Turn [1] w ow0 wr OW
/-- The blocks that are laid first. -/
def threeB (w : World) (W : World) : Prop := ∃ OW : Ow, TNI.TbP W OW [1, 0] w.heap.size 0 [] ∧ TXP.TbP W OW [1, 1] (w.heap.size + 1) 0 ([].map pr) ∧ RW.Rw W OW [1, 2] (w.heap.size + 1 + 1) [] ∧ Turn [1] w ow0 W OW
theorem three_b (w : World) (a b c : TypeId) : threeB w (((w.alloc (.cells #[.slice none 0 0] a)).alloc (.cells #[.slice none 0 0] b)).alloc (.cells #[.slice none 0 0, .slice none 0 0] c)) := by
  obtain ⟨o0, c0, n0, z0⟩ := add_cells w ow0 [1, 0, 0] [.slice none 0 0] a
  generalize w.alloc (.cells #[.slice none 0 0] a) = w0 at *
  obtain ⟨o1, c1, n1, z1⟩ := add_cells w0 o0 [1, 1, 0] [.slice none 0 0] b
  generalize w0.alloc (.cells #[.slice none 0 0] b) = w1 at *
  obtain ⟨o2, c2, n2, z2⟩ := add_cells w1 o1 [1, 2, 0] [.slice none 0 0, .slice none 0 0] c
  generalize w1.alloc (.cells #[.slice none 0 0, .slice none 0 0] c) = w2 at *
  rw [z0] at c1
  have s2 : w1.heap.size = w.heap.size + 2 := by omega
  rw [s2] at c2
  exact ⟨o2, ⟨_, (c0.new_ n1).new_ n2, Row.nil _ _ _ _ _⟩, ⟨_, c1.new_ n2, Row.nil _ _ _ _ _⟩, ⟨_, _, c2, Row.nil _ _ _ _ _, Row.nil _ _ _ _ _⟩, ((n0.turn [1]).trans (n1.turn [1])).trans (n2.turn [1])⟩

set_option maxRecDepth 100000 in
set_option maxHeartbeats 16000000 in
theorem tablesL (w : World) (v : Value) (xs : List Op1) (h : EOp.In w v xs) (hrg : ∀ x ∈ xs, EOp.Rng x) : Calls Try.prog 12 #[v] w fun e w' => e = .returned (.bool true) ∧ Below w.heap.size w w' := by
  go_enter Try.func12, Try.ntmps12
  go_wp2_with fail
  refine (EOp.few w v xs 300 h (by omega)).mono ?_
  rintro e w0 ⟨v1, rfl, hin, hw0⟩
  rw [hw0]
  clear hw0 w0
  have hlen : (xs.take 300).length ≤ 300 := by rw [List.length_take]; omega
  have hrg' : ∀ x ∈ xs.take 300, EOp.Rng x := fun x hx => hrg x (List.mem_of_mem_take hx)
  generalize xs.take 300 = ys at *
  clear h hrg
  obtain ⟨A, cap, rfl, -, -, hcov⟩ := hin
  have Hc := Lib.hid hcov
  have Hrg := Lib.hid hrg'
  clear hcov hrg'
  go_wp2_with fail
  refine gen_world (threeB w) (three_b w _ _ _) ?_
  rintro w2 ⟨ow2, hT, hU, hW, t⟩
  generalize hg2 : w.heap.size + 1 + 1 = gw at *
  generalize hg1 : w.heap.size + 1 = gu at *
  generalize hg0 : w.heap.size = gt at *
  clear hg2 hg1
  subst hg0
  go_loopg [6] ys.length (fun gn i wr => tbRel w w.heap.size gu gw ys.length gn i wr)
  case atStart => exact ⟨0, ow2, [], [], rfl, Nat.zero_le _, rfl, Nat.le_refl _, TB.Same.nil, hT, hU, hW, t⟩
  case round =>
    clear hT hU hW t
    obtain ⟨k, OW, rows, zs, hgk, hk, rfl, hzl, hsm, hT, hU, hW, t⟩ := hrel
    have Hgk := Lib.hid hgk
    have Hsm := Lib.hid hsm
    clear hgk hsm
    by_cases hlt : k < ys.length
    · obtain ⟨o, ho⟩ : ∃ o, ys[k]? = some o := ⟨_, List.getElem?_eq_getElem hlt⟩
      obtain ⟨ok, ol, on_⟩ := Hrg.out o (List.mem_of_getElem? ho)
      obtain ⟨b, off, rfl, c0, c1, c2⟩ := (Hc.out.new_ (t.new_ ow0 [1]).below).at k o ho
      have i0 : (k : Int) < (ys.length : Int) := by omega
      clear ho ok
      have Hol := Lib.hid ol
      have Hon := Lib.hid on_
      clear ol on_
      go_upto_region 9 with fail
      obtain ⟨owx, bx, nn, -⟩ := add_cells wr OW [1, 3] [.int .i64 o.kind, .int .i64 o.level, .int .i64 o.n] 59
      refine gen_world (fun W => ∃ OW, TNI.TbP W OW [1, 0] w.heap.size 0 rows ∧ TXP.TbP W OW [1, 1] gu 0 (rows.map pr) ∧ RW.Rw W OW [1, 2] gw zs ∧ Cells W OW [1, 3] wr.heap.size 0 [.int .i64 o.kind, .int .i64 o.level, .int .i64 o.n] ∧ Turn [1] w ow0 W OW) ⟨owx, hT.new_ nn, hU.new_ nn, hW.new_ nn, bx, t.trans (nn.turn [1])⟩ ?_
      clear hT hU hW t bx nn owx c0 c1 c2
      rintro w3 ⟨ow3, hT, hU, hW, ho, t⟩
      generalize wr.heap.size = gx at *
      have o0 := ho.get 0 rfl
      have o1 := ho.get 1 rfl
      have o2 := ho.get 2 rfl
      simp only [Nat.zero_add] at o0 o1 o2
      go_wp2_with fail
      refine (Tx.text w3 o.level Hol.out).mono ?_
      rintro e w20 ⟨rfl, bb⟩
      have nn := bb.nw ow3
      replace hT := hT.new_ nn
      replace hU := hU.new_ nn
      replace hW := hW.new_ nn
      replace ho := ho.new_ nn
      replace t := t.trans (nn.turn [1])
      clear nn
      clear bb
      clear o0 o1 o2
      have o0 := ho.get 0 rfl
      have o1 := ho.get 1 rfl
      have o2 := ho.get 2 rfl
      simp only [Nat.zero_add] at o0 o1 o2
      go_upto_block 2 with fail
      go_cut [] from 37 to 38 (fun wx => tbMid w w.heap.size gu gw gx o (k + 1) wx)
      case first =>
        by_cases k0 : o.kind = 0
        · have b0 : (o.kind == 0) = true := beq_iff_eq.2 k0
          clear k0
          obtain ⟨c, rows', hzl', hp1, hp2, hp3⟩ := setQ2 Hsm.out o.level o.n Hol.out Hon.out (by omega)
          have Hp1 := Lib.hid hp1
          have Hp2 := Lib.hid hp2
          have Hp3 := Lib.hid hp3
          clear hp1 hp2 hp3
          go_wp2_with fail
          refine (Hp1.out w20 ow3 [1, 2] gw hW).mono ?_
          rintro e w31 ⟨ow31, zs', rfl, hsm', hn', tt⟩
          have Hsm' := Lib.hid hsm'
          clear hsm'
          replace hT := hT.keep tt (by simp) (by simp)
          replace hU := hU.keep tt (by simp) (by simp)
          replace ho := ho.keep tt (by simp)
          replace t := t.trans (tt.up (by simp))
          clear hW tt
          have hW := hn'
          clear hn'
          clear o0 o1 o2
          have o0 := ho.get 0 rfl
          have o1 := ho.get 1 rfl
          have o2 := ho.get 2 rfl
          simp only [Nat.zero_add] at o0 o1 o2
          go_wp2_with fail
          refine (Hp2.out w31 ow31 [1, 0] w.heap.size 0 hT).mono ?_
          rintro e w32 ⟨ow32, rfl, hn', tt⟩
          replace hU := hU.keep tt (by simp) (by simp)
          replace hW := hW.keep tt (fun s => by simp)
          replace ho := ho.keep tt (by simp)
          replace t := t.trans (tt.up (by simp))
          clear hT tt
          have hT := hn'
          clear hn'
          clear o0 o1 o2
          have o0 := ho.get 0 rfl
          have o1 := ho.get 1 rfl
          have o2 := ho.get 2 rfl
          simp only [Nat.zero_add] at o0 o1 o2
          go_wp2_with fail
          refine (Tx.pair w32 o.n Hon.out).mono ?_
          rintro e w33 ⟨rfl, bb⟩
          have nn := bb.nw ow32
          replace hT := hT.new_ nn
          replace hU := hU.new_ nn
          replace hW := hW.new_ nn
          replace ho := ho.new_ nn
          replace t := t.trans (nn.turn [1])
          clear nn
          clear bb
          go_wp2_with fail
          refine (Hp3.out w33 ow32 [1, 1] gu 0 hU).mono ?_
          rintro e w34 ⟨ow34, rfl, hn', tt⟩
          replace hT := hT.keep tt (by simp) (by simp)
          replace hW := hW.keep tt (fun s => by simp)
          replace ho := ho.keep tt (by simp)
          replace t := t.trans (tt.up (by simp))
          clear hU tt
          have hU := hn'
          clear hn'
          clear o0 o1 o2
          go_wp2_with fail
          go_meet
          exact ⟨ow34, rows', zs', by omega, Hsm'.out, hT, hU, hW, ho, t⟩
        · have b0 : (o.kind == 0) = false := beq_eq_false_iff_ne.2 k0
          clear k0
          by_cases k1 : o.kind = 1
          · have b1 : (o.kind == 1) = true := beq_iff_eq.2 k1
            clear k1
            obtain ⟨c, rows', hzl', hp1, hp2, hp3⟩ := delQ2 Hsm.out o.level Hol.out (by omega)
            have Hp1 := Lib.hid hp1
            have Hp2 := Lib.hid hp2
            have Hp3 := Lib.hid hp3
            clear hp1 hp2 hp3
            go_wp2_with fail
            refine (Hp1.out w20 ow3 [1, 2] gw hW).mono ?_
            rintro e w51 ⟨ow51, zs', rfl, hsm', hn', tt⟩
            have Hsm' := Lib.hid hsm'
            clear hsm'
            replace hT := hT.keep tt (by simp) (by simp)
            replace hU := hU.keep tt (by simp) (by simp)
            replace ho := ho.keep tt (by simp)
            replace t := t.trans (tt.up (by simp))
            clear hW tt
            have hW := hn'
            clear hn'
            clear o0 o1 o2
            go_wp2_with fail
            refine (Hp2.out w51 ow51 [1, 0] w.heap.size 0 hT).mono ?_
            rintro e w52 ⟨ow52, rfl, hn', tt⟩
            replace hU := hU.keep tt (by simp) (by simp)
            replace hW := hW.keep tt (fun s => by simp)
            replace ho := ho.keep tt (by simp)
            replace t := t.trans (tt.up (by simp))
            clear hT tt
            have hT := hn'
            clear hn'
            go_wp2_with fail
            refine (Hp3.out w52 ow52 [1, 1] gu 0 hU).mono ?_
            rintro e w53 ⟨ow53, rfl, hn', tt⟩
            replace hT := hT.keep tt (by simp) (by simp)
            replace hW := hW.keep tt (fun s => by simp)
            replace ho := ho.keep tt (by simp)
            replace t := t.trans (tt.up (by simp))
            clear hU tt
            have hU := hn'
            clear hn'
            go_wp2_with fail
            go_meet
            exact ⟨ow53, rows', zs', by omega, Hsm'.out, hT, hU, hW, ho, t⟩
          · have b1 : (o.kind == 1) = false := beq_eq_false_iff_ne.2 k1
            clear k1
            go_wp2_with fail
            go_meet
            exact ⟨ow3, rows, zs, by omega, Hsm.out, hT, hU, hW, ho, t⟩
      case rest =>
        clear hT hU hW ho t Hsm hzl o0 o1 o2
        obtain ⟨ow5, rows, zs, hzl, hsm, hT, hU, hW, ho, t⟩ := hcut
        obtain ⟨w5, rfl⟩ : ∃ w5 : World, w5 = wc := ⟨_, rfl⟩
        have Hsm := Lib.hid hsm
        have hlz := hsm.len
        obtain ⟨nb, hb1, hb2, hb3⟩ := belowQ2 hsm o.n Hon.out (by omega)
        have Hb1 := Lib.hid hb1
        have Hb2 := Lib.hid hb2
        have Hb3 := Lib.hid hb3
        have hget := getQ hsm o.level Hol.out (by omega)
        clear hsm hb1 hb2 hb3
        rcases hget with ⟨hp1, hp2, hp3⟩ | ⟨x, hxr, hp1, hp2, hp3⟩
        · have Hp1 := Lib.hid hp1
          have Hp2 := Lib.hid hp2
          have Hp3 := Lib.hid hp3
          clear hp1 hp2 hp3
          go_wp2_with fail
          refine (Hp1.out w5 ow5 [1, 0] w.heap.size 0 hT).mono ?_
          rintro e w71 ⟨rfl, bb⟩
          have nn := bb.nw ow5
          replace hT := hT.new_ nn
          replace hU := hU.new_ nn
          replace hW := hW.new_ nn
          replace ho := ho.new_ nn
          replace t := t.trans (nn.turn [1])
          clear nn
          clear bb
          have o0 := ho.get 0 rfl
          have o1 := ho.get 1 rfl
          have o2 := ho.get 2 rfl
          simp only [Nat.zero_add] at o0 o1 o2
          go_wp2_with fail
          clear o0 o1 o2
          refine (Hp2.out w71 ow5 [1, 2] gw hW).mono ?_
          rintro e w72 ⟨rfl, bb⟩
          have nn := bb.nw ow5
          replace hT := hT.new_ nn
          replace hU := hU.new_ nn
          replace hW := hW.new_ nn
          replace ho := ho.new_ nn
          replace t := t.trans (nn.turn [1])
          clear nn
          clear bb
          go_wp2_with fail
          refine (Hp3.out w72 ow5 [1, 1] gu 0 hU).mono ?_
          rintro e w73 ⟨rfl, bb⟩
          have nn := bb.nw ow5
          replace hT := hT.new_ nn
          replace hU := hU.new_ nn
          replace hW := hW.new_ nn
          replace ho := ho.new_ nn
          replace t := t.trans (nn.turn [1])
          clear nn
          clear bb
          go_wp2_with fail
          obtain ⟨ow74, hz, nn, -⟩ := add_cells w73 ow5 [1, 4] [.int .i64 0, .string ⟨#[]⟩] 62
          generalize w73.alloc (.cells #[.int .i64 0, .string ⟨#[]⟩] 62) = w74 at *
          generalize w73.heap.size = gz at *
          replace hT := hT.new_ nn
          replace hU := hU.new_ nn
          replace hW := hW.new_ nn
          replace ho := ho.new_ nn
          replace t := t.trans (nn.turn [1])
          clear nn
          obtain ⟨vk, vv, hcW, hrk, hrv⟩ := id hW
          obtain ⟨AK, cK, rfl, -⟩ := hrk.slice
          rw [hlz] at hcW
          clear hrk hrv
          refine plain_regionN (fun W' : World => W'.cell? ⟨gz, 0, none⟩ = some (.int .i64 0) ∧ W'.cell? ⟨gz, 1, none⟩ = some (.string ⟨#[]⟩) ∧ W'.cell? ⟨gw, 0, none⟩ = some (.slice AK rows.length cK) ∧ W'.cell? ⟨gx, 2, none⟩ = some (.int .i64 o.n)) [] (by kernel_rfl) ?_
          have nn : New w74 ow74 w74.drew ow74 := (New.refl _ _).drew
          replace hT := hT.new_ nn
          replace hU := hU.new_ nn
          replace hW := hW.new_ nn
          replace ho := ho.new_ nn
          replace hz := hz.new_ nn
          replace hcW := hcW.new_ nn
          replace t := t.trans (nn.turn [1])
          clear nn
          generalize w74.drew = w75 at *
          have z0 := hz.get 0 rfl
          have z1 := hz.get 1 rfl
          have v0 := hcW.get 0 rfl
          have o2 := ho.get 2 rfl
          simp only [Nat.zero_add] at z0 z1 v0 o2
          have hS : (fun W' : World => W'.cell? ⟨gz, 0, none⟩ = some (.int .i64 0) ∧ W'.cell? ⟨gz, 1, none⟩ = some (.string ⟨#[]⟩) ∧ W'.cell? ⟨gw, 0, none⟩ = some (.slice AK rows.length cK) ∧ W'.cell? ⟨gx, 2, none⟩ = some (.int .i64 o.n)) w75 := ⟨z0, z1, v0, o2⟩
          refine anyX_takeNL 0 (v := ?_) rfl rfl (by as_aux_lemma => kernel_rfl) (by as_aux_lemma => kernel_rfl) (by as_aux_lemma => kernel_rfl) (by as_aux_lemma => kernel_rfl) (by as_aux_lemma => kernel_rfl) (fun _ _ _ h => h) rfl ?_ hS ?_
          rotate_left
          · intro W' hW'
            obtain ⟨s0, s1, s2, s3⟩ := hW'
            all_goals (go_simp; first | done | rfl)
          intro l' hl
          dsimp only [List.set_cons_succ, List.set_cons_zero] at hl
          subst hl
          refine anyX_takeNL 1 (v := ?_) rfl rfl (by as_aux_lemma => kernel_rfl) (by as_aux_lemma => kernel_rfl) (by as_aux_lemma => kernel_rfl) (by as_aux_lemma => kernel_rfl) (by as_aux_lemma => kernel_rfl) (fun _ _ _ h => h) rfl ?_ hS ?_
          rotate_left
          · intro W' hW'
            obtain ⟨s0, s1, s2, s3⟩ := hW'
            all_goals (go_simp; first | done | rfl)
          intro l' hl
          dsimp only [List.set_cons_succ, List.set_cons_zero] at hl
          subst hl
          refine anyX_takeNL 2 (v := ?_) rfl rfl (by as_aux_lemma => kernel_rfl) (by as_aux_lemma => kernel_rfl) (by as_aux_lemma => kernel_rfl) (by as_aux_lemma => kernel_rfl) (by as_aux_lemma => kernel_rfl) (fun _ _ _ h => h) rfl ?_ hS ?_
          rotate_left
          · intro W' hW'
            obtain ⟨s0, s1, s2, s3⟩ := hW'
            all_goals (go_simp; first | done | rfl)
          intro l' hl
          dsimp only [List.set_cons_succ, List.set_cons_zero] at hl
          subst hl
          refine anyX_takeNL 3 (v := ?_) rfl rfl (by as_aux_lemma => kernel_rfl) (by as_aux_lemma => kernel_rfl) (by as_aux_lemma => kernel_rfl) (by as_aux_lemma => kernel_rfl) (by as_aux_lemma => kernel_rfl) (fun _ _ _ h => h) rfl ?_ hS ?_
          rotate_left
          · intro W' hW'
            obtain ⟨s0, s1, s2, s3⟩ := hW'
            all_goals (go_simp; first | done | rfl)
          intro l' hl
          dsimp only [List.set_cons_succ, List.set_cons_zero] at hl
          subst hl
          refine anyX_takeWL 4 (v := ?_) rfl rfl (by as_aux_lemma => kernel_rfl) (by as_aux_lemma => kernel_rfl) (by as_aux_lemma => kernel_rfl) (by as_aux_lemma => kernel_rfl) (by as_aux_lemma => kernel_rfl) (fun _ _ _ h => h) (by rfl) ?_ hS ?_
          rotate_left
          · intro W' hW'
            obtain ⟨s0, s1, s2, s3⟩ := hW'
            all_goals (go_simp; first | done | rfl)
          intro l' hl
          dsimp only [List.set_cons_succ, List.set_cons_zero] at hl
          subst hl
          refine anyX_takeWL 5 (v := ?_) rfl rfl (by as_aux_lemma => kernel_rfl) (by as_aux_lemma => kernel_rfl) (by as_aux_lemma => kernel_rfl) (by as_aux_lemma => kernel_rfl) (by as_aux_lemma => kernel_rfl) (fun _ _ _ h => h) (by rfl) ?_ hS ?_
          rotate_left
          · intro W' hW'
            obtain ⟨s0, s1, s2, s3⟩ := hW'
            all_goals (go_simp; first | done | rfl)
          intro l' hl
          dsimp only [List.set_cons_succ, List.set_cons_zero] at hl
          subst hl
          refine anyX_takeWL 6 (v := ?_) rfl rfl (by as_aux_lemma => kernel_rfl) (by as_aux_lemma => kernel_rfl) (by as_aux_lemma => kernel_rfl) (by as_aux_lemma => kernel_rfl) (by as_aux_lemma => kernel_rfl) (fun _ _ _ h => h) (by rfl) ?_ hS ?_
          rotate_left
          · intro W' hW'
            obtain ⟨s0, s1, s2, s3⟩ := hW'
            all_goals (go_simp; first | done | rfl)
          intro l' hl
          dsimp only [List.set_cons_succ, List.set_cons_zero] at hl
          subst hl
          refine anyX_takeNL 7 (v := ?_) rfl rfl (by as_aux_lemma => kernel_rfl) (by as_aux_lemma => kernel_rfl) (by as_aux_lemma => kernel_rfl) (by as_aux_lemma => kernel_rfl) (by as_aux_lemma => kernel_rfl) (fun _ _ _ h => h) rfl ?_ hS ?_
          rotate_left
          · intro W' hW'
            obtain ⟨s0, s1, s2, s3⟩ := hW'
            all_goals (go_simp; first | done | rfl)
          intro l' hl
          dsimp only [List.set_cons_succ, List.set_cons_zero] at hl
          subst hl
          refine anyX_takeNL 8 (v := ?_) rfl rfl (by as_aux_lemma => kernel_rfl) (by as_aux_lemma => kernel_rfl) (by as_aux_lemma => kernel_rfl) (by as_aux_lemma => kernel_rfl) (by as_aux_lemma => kernel_rfl) (fun _ _ _ h => h) rfl ?_ hS ?_
          rotate_left
          · intro W' hW'
            obtain ⟨s0, s1, s2, s3⟩ := hW'
            all_goals (go_simp; first | done | rfl)
          intro l' hl
          dsimp only [List.set_cons_succ, List.set_cons_zero] at hl
          subst hl
          refine anyX_takeWL 9 (v := ?_) rfl rfl (by as_aux_lemma => kernel_rfl) (by as_aux_lemma => kernel_rfl) (by as_aux_lemma => kernel_rfl) (by as_aux_lemma => kernel_rfl) (by as_aux_lemma => kernel_rfl) (fun _ _ _ h => h) (by rfl) ?_ hS ?_
          rotate_left
          · intro W' hW'
            obtain ⟨s0, s1, s2, s3⟩ := hW'
            all_goals (go_simp; first | done | rfl)
          intro l' hl
          dsimp only [List.set_cons_succ, List.set_cons_zero] at hl
          subst hl
          refine anyX_takeWL 10 (v := ?_) rfl rfl (by as_aux_lemma => kernel_rfl) (by as_aux_lemma => kernel_rfl) (by as_aux_lemma => kernel_rfl) (by as_aux_lemma => kernel_rfl) (by as_aux_lemma => kernel_rfl) (fun _ _ _ h => h) (by rfl) ?_ hS ?_
          rotate_left
          · intro W' hW'
            obtain ⟨s0, s1, s2, s3⟩ := hW'
            all_goals (go_simp; first | done | rfl)
          intro l' hl
          dsimp only [List.set_cons_succ, List.set_cons_zero] at hl
          subst hl
          refine anyX_takeWL 11 (v := ?_) rfl rfl (by as_aux_lemma => kernel_rfl) (by as_aux_lemma => kernel_rfl) (by as_aux_lemma => kernel_rfl) (by as_aux_lemma => kernel_rfl) (by as_aux_lemma => kernel_rfl) (fun _ _ _ h => h) (by rfl) ?_ hS ?_
          rotate_left
          · intro W' hW'
            obtain ⟨s0, s1, s2, s3⟩ := hW'
            all_goals (go_simp; first | done | rfl)
          intro l' hl
          dsimp only [List.set_cons_succ, List.set_cons_zero] at hl
          subst hl
          refine anyX_takeNL 12 (v := ?_) rfl rfl (by as_aux_lemma => kernel_rfl) (by as_aux_lemma => kernel_rfl) (by as_aux_lemma => kernel_rfl) (by as_aux_lemma => kernel_rfl) (by as_aux_lemma => kernel_rfl) (fun _ _ _ h => h) rfl ?_ hS ?_
          rotate_left
          · intro W' hW'
            obtain ⟨s0, s1, s2, s3⟩ := hW'
            all_goals (go_simp; first | done | rfl)
          intro l' hl
          dsimp only [List.set_cons_succ, List.set_cons_zero] at hl
          subst hl
          refine anyX_takeNL 13 (v := ?_) rfl rfl (by as_aux_lemma => kernel_rfl) (by as_aux_lemma => kernel_rfl) (by as_aux_lemma => kernel_rfl) (by as_aux_lemma => kernel_rfl) (by as_aux_lemma => kernel_rfl) (fun _ _ _ h => h) rfl ?_ hS ?_
          rotate_left
          · intro W' hW'
            obtain ⟨s0, s1, s2, s3⟩ := hW'
            all_goals (go_simp; first | done | rfl)
          intro l' hl
          dsimp only [List.set_cons_succ, List.set_cons_zero] at hl
          subst hl
          refine anyX_takeWL 14 (v := ?_) rfl rfl (by as_aux_lemma => kernel_rfl) (by as_aux_lemma => kernel_rfl) (by as_aux_lemma => kernel_rfl) (by as_aux_lemma => kernel_rfl) (by as_aux_lemma => kernel_rfl) (fun _ _ _ h => h) (by rfl) ?_ hS ?_
          rotate_left
          · intro W' hW'
            obtain ⟨s0, s1, s2, s3⟩ := hW'
            all_goals (go_simp; first | done | rfl)
          intro l' hl
          dsimp only [List.set_cons_succ, List.set_cons_zero] at hl
          subst hl
          refine anyX_takeWL 15 (v := ?_) rfl rfl (by as_aux_lemma => kernel_rfl) (by as_aux_lemma => kernel_rfl) (by as_aux_lemma => kernel_rfl) (by as_aux_lemma => kernel_rfl) (by as_aux_lemma => kernel_rfl) (fun _ _ _ h => h) (by rfl) ?_ hS ?_
          rotate_left
          · intro W' hW'
            obtain ⟨s0, s1, s2, s3⟩ := hW'
            all_goals (go_simp; first | done | rfl)
          intro l' hl
          dsimp only [List.set_cons_succ, List.set_cons_zero] at hl
          subst hl
          refine anyX_takeUL 16 rfl rfl (by as_aux_lemma => kernel_rfl) (by as_aux_lemma => kernel_rfl) (by as_aux_lemma => kernel_rfl) (by as_aux_lemma => kernel_rfl) (by as_aux_lemma => kernel_rfl) (fun _ _ _ h => h) (by rfl) hS ?_
          intro l' hl
          dsimp only [List.set_cons_succ, List.set_cons_zero] at hl
          subst hl
          refine anyX_takeUL 17 rfl rfl (by as_aux_lemma => kernel_rfl) (by as_aux_lemma => kernel_rfl) (by as_aux_lemma => kernel_rfl) (by as_aux_lemma => kernel_rfl) (by as_aux_lemma => kernel_rfl) (fun _ _ _ h => h) (by rfl) hS ?_
          intro l' hl
          dsimp only [List.set_cons_succ, List.set_cons_zero] at hl
          subst hl
          refine anyX_takeUL 18 rfl rfl (by as_aux_lemma => kernel_rfl) (by as_aux_lemma => kernel_rfl) (by as_aux_lemma => kernel_rfl) (by as_aux_lemma => kernel_rfl) (by as_aux_lemma => kernel_rfl) (fun _ _ _ h => h) (by rfl) hS ?_
          intro l' hl
          dsimp only [List.set_cons_succ, List.set_cons_zero] at hl
          subst hl
          refine anyX_takeUL 19 rfl rfl (by as_aux_lemma => kernel_rfl) (by as_aux_lemma => kernel_rfl) (by as_aux_lemma => kernel_rfl) (by as_aux_lemma => kernel_rfl) (by as_aux_lemma => kernel_rfl) (fun _ _ _ h => h) (by rfl) hS ?_
          intro l' hl
          dsimp only [List.set_cons_succ, List.set_cons_zero] at hl
          subst hl
          refine anyX_takeWL 20 (v := ?_) rfl rfl (by as_aux_lemma => kernel_rfl) (by as_aux_lemma => kernel_rfl) (by as_aux_lemma => kernel_rfl) (by as_aux_lemma => kernel_rfl) (by as_aux_lemma => kernel_rfl) (fun _ _ _ h => h) (by rfl) ?_ hS ?_
          rotate_left
          · intro W' hW'
            obtain ⟨s0, s1, s2, s3⟩ := hW'
            all_goals (go_simp; first | done | rfl)
          intro l' hl
          dsimp only [List.set_cons_succ, List.set_cons_zero] at hl
          subst hl
          refine anyX_takeNL 21 (v := ?_) rfl rfl (by as_aux_lemma => kernel_rfl) (by as_aux_lemma => kernel_rfl) (by as_aux_lemma => kernel_rfl) (by as_aux_lemma => kernel_rfl) (by as_aux_lemma => kernel_rfl) (fun _ _ _ h => h) rfl ?_ hS ?_
          rotate_left
          · intro W' hW'
            obtain ⟨s0, s1, s2, s3⟩ := hW'
            all_goals (go_simp; first | done | rfl)
          intro l' hl
          dsimp only [List.set_cons_succ, List.set_cons_zero] at hl
          subst hl
          refine anyX_takeNL 22 (v := ?_) rfl rfl (by as_aux_lemma => kernel_rfl) (by as_aux_lemma => kernel_rfl) (by as_aux_lemma => kernel_rfl) (by as_aux_lemma => kernel_rfl) (by as_aux_lemma => kernel_rfl) (fun _ _ _ h => h) rfl ?_ hS ?_
          rotate_left
          · intro W' hW'
            obtain ⟨s0, s1, s2, s3⟩ := hW'
            all_goals (go_simp; first | done | rfl)
          intro l' hl
          dsimp only [List.set_cons_succ, List.set_cons_zero] at hl
          subst hl
          refine anyX_takeWL 23 (v := ?_) rfl rfl (by as_aux_lemma => kernel_rfl) (by as_aux_lemma => kernel_rfl) (by as_aux_lemma => kernel_rfl) (by as_aux_lemma => kernel_rfl) (by as_aux_lemma => kernel_rfl) (fun _ _ _ h => h) (by rfl) ?_ hS ?_
          rotate_left
          · intro W' hW'
            obtain ⟨s0, s1, s2, s3⟩ := hW'
            all_goals (go_simp; first | done | rfl)
          intro l' hl
          dsimp only [List.set_cons_succ, List.set_cons_zero] at hl
          subst hl
          refine anyX_takeWL 24 (v := ?_) rfl rfl (by as_aux_lemma => kernel_rfl) (by as_aux_lemma => kernel_rfl) (by as_aux_lemma => kernel_rfl) (by as_aux_lemma => kernel_rfl) (by as_aux_lemma => kernel_rfl) (fun _ _ _ h => h) (by rfl) ?_ hS ?_
          rotate_left
          · intro W' hW'
            obtain ⟨s0, s1, s2, s3⟩ := hW'
            all_goals (go_simp; first | done | rfl)
          intro l' hl
          dsimp only [List.set_cons_succ, List.set_cons_zero] at hl
          subst hl
          refine anyX_takeWL 25 (v := ?_) rfl rfl (by as_aux_lemma => kernel_rfl) (by as_aux_lemma => kernel_rfl) (by as_aux_lemma => kernel_rfl) (by as_aux_lemma => kernel_rfl) (by as_aux_lemma => kernel_rfl) (fun _ _ _ h => h) (by rfl) ?_ hS ?_
          rotate_left
          · intro W' hW'
            obtain ⟨s0, s1, s2, s3⟩ := hW'
            all_goals (go_simp; first | done | rfl)
          intro l' hl
          dsimp only [List.set_cons_succ, List.set_cons_zero] at hl
          subst hl
          refine anyX_takeWL 26 (v := ?_) rfl rfl (by as_aux_lemma => kernel_rfl) (by as_aux_lemma => kernel_rfl) (by as_aux_lemma => kernel_rfl) (by as_aux_lemma => kernel_rfl) (by as_aux_lemma => kernel_rfl) (fun _ _ _ h => h) (by rfl) ?_ hS ?_
          rotate_left
          · intro W' hW'
            obtain ⟨s0, s1, s2, s3⟩ := hW'
            all_goals (go_simp; first | done | rfl)
          intro l' hl
          dsimp only [List.set_cons_succ, List.set_cons_zero] at hl
          subst hl
          refine anyX_takeWL 27 (v := ?_) rfl rfl (by as_aux_lemma => kernel_rfl) (by as_aux_lemma => kernel_rfl) (by as_aux_lemma => kernel_rfl) (by as_aux_lemma => kernel_rfl) (by as_aux_lemma => kernel_rfl) (fun _ _ _ h => h) (by rfl) ?_ hS ?_
          rotate_left
          · intro W' hW'
            obtain ⟨s0, s1, s2, s3⟩ := hW'
            all_goals (go_simp; first | done | rfl)
          intro l' hl
          dsimp only [List.set_cons_succ, List.set_cons_zero] at hl
          subst hl
          refine anyX_takeWL 28 (v := ?_) rfl rfl (by as_aux_lemma => kernel_rfl) (by as_aux_lemma => kernel_rfl) (by as_aux_lemma => kernel_rfl) (by as_aux_lemma => kernel_rfl) (by as_aux_lemma => kernel_rfl) (fun _ _ _ h => h) (by rfl) ?_ hS ?_
          rotate_left
          · intro W' hW'
            obtain ⟨s0, s1, s2, s3⟩ := hW'
            all_goals (go_simp; first | done | rfl)
          intro l' hl
          dsimp only [List.set_cons_succ, List.set_cons_zero] at hl
          subst hl
          refine anyX_takeWL 29 (v := ?_) rfl rfl (by as_aux_lemma => kernel_rfl) (by as_aux_lemma => kernel_rfl) (by as_aux_lemma => kernel_rfl) (by as_aux_lemma => kernel_rfl) (by as_aux_lemma => kernel_rfl) (fun _ _ _ h => h) (by rfl) ?_ hS ?_
          rotate_left
          · intro W' hW'
            obtain ⟨s0, s1, s2, s3⟩ := hW'
            all_goals (go_simp; first | done | rfl)
          intro l' hl
          dsimp only [List.set_cons_succ, List.set_cons_zero] at hl
          subst hl
          refine anyX_takeNL 30 (v := ?_) rfl rfl (by as_aux_lemma => kernel_rfl) (by as_aux_lemma => kernel_rfl) (by as_aux_lemma => kernel_rfl) (by as_aux_lemma => kernel_rfl) (by as_aux_lemma => kernel_rfl) (fun _ _ _ h => h) rfl ?_ hS ?_
          rotate_left
          · intro W' hW'
            obtain ⟨s0, s1, s2, s3⟩ := hW'
            all_goals (go_simp; first | done | rfl)
          intro l' hl
          dsimp only [List.set_cons_succ, List.set_cons_zero] at hl
          subst hl
          refine anyX_takeNL 31 (v := ?_) rfl rfl (by as_aux_lemma => kernel_rfl) (by as_aux_lemma => kernel_rfl) (by as_aux_lemma => kernel_rfl) (by as_aux_lemma => kernel_rfl) (by as_aux_lemma => kernel_rfl) (fun _ _ _ h => h) rfl ?_ hS ?_
          rotate_left
          · intro W' hW'
            obtain ⟨s0, s1, s2, s3⟩ := hW'
            all_goals (go_simp; first | done | rfl)
          intro l' hl
          dsimp only [List.set_cons_succ, List.set_cons_zero] at hl
          subst hl
          refine anyX_takeWL 33 (v := ?_) rfl rfl (by as_aux_lemma => kernel_rfl) (by as_aux_lemma => kernel_rfl) (by as_aux_lemma => kernel_rfl) (by as_aux_lemma => kernel_rfl) (by as_aux_lemma => kernel_rfl) (fun _ _ _ h => h) (by rfl) ?_ hS ?_
          rotate_left
          · intro W' hW'
            obtain ⟨s0, s1, s2, s3⟩ := hW'
            all_goals (go_simp; first | done | rfl)
          intro l' hl
          dsimp only [List.set_cons_succ, List.set_cons_zero] at hl
          subst hl
          refine anyX_takeWL 34 (v := ?_) rfl rfl (by as_aux_lemma => kernel_rfl) (by as_aux_lemma => kernel_rfl) (by as_aux_lemma => kernel_rfl) (by as_aux_lemma => kernel_rfl) (by as_aux_lemma => kernel_rfl) (fun _ _ _ h => h) (by rfl) ?_ hS ?_
          rotate_left
          · intro W' hW'
            obtain ⟨s0, s1, s2, s3⟩ := hW'
            all_goals (go_simp; first | done | rfl)
          intro l' hl
          dsimp only [List.set_cons_succ, List.set_cons_zero] at hl
          subst hl
          refine anyX_takeWL 35 (v := ?_) rfl rfl (by as_aux_lemma => kernel_rfl) (by as_aux_lemma => kernel_rfl) (by as_aux_lemma => kernel_rfl) (by as_aux_lemma => kernel_rfl) (by as_aux_lemma => kernel_rfl) (fun _ _ _ h => h) (by rfl) ?_ hS ?_
          rotate_left
          · intro W' hW'
            obtain ⟨s0, s1, s2, s3⟩ := hW'
            all_goals (go_simp; first | done | rfl)
          intro l' hl
          dsimp only [List.set_cons_succ, List.set_cons_zero] at hl
          subst hl
          refine anyX_takeWL 36 (v := ?_) rfl rfl (by as_aux_lemma => kernel_rfl) (by as_aux_lemma => kernel_rfl) (by as_aux_lemma => kernel_rfl) (by as_aux_lemma => kernel_rfl) (by as_aux_lemma => kernel_rfl) (fun _ _ _ h => h) (by rfl) ?_ hS ?_
          rotate_left
          · intro W' hW'
            obtain ⟨s0, s1, s2, s3⟩ := hW'
            all_goals (go_simp; first | done | rfl)
          intro l' hl
          dsimp only [List.set_cons_succ, List.set_cons_zero] at hl
          subst hl
          refine anyX_takeWL 37 (v := ?_) rfl rfl (by as_aux_lemma => kernel_rfl) (by as_aux_lemma => kernel_rfl) (by as_aux_lemma => kernel_rfl) (by as_aux_lemma => kernel_rfl) (by as_aux_lemma => kernel_rfl) (fun _ _ _ h => h) (by rfl) ?_ hS ?_
          rotate_left
          · intro W' hW'
            obtain ⟨s0, s1, s2, s3⟩ := hW'
            all_goals (go_simp; first | done | rfl)
          intro l' hl
          dsimp only [List.set_cons_succ, List.set_cons_zero] at hl
          subst hl
          refine anyX_oneW (i := 32) (by kernel_rfl) rfl (by rfl) fun K' hK' => ?_
          unfold Oper.wp
          go_simp
          clear hS z0 z1 v0 o2
          refine (TNI.t_len w75 ow74 [1, 0] w.heap.size 0 rows hT).mono ?_
          rintro e w76 ⟨rfl, kk, hw'⟩
          have nn : New w75 ow74 w76 ow74 := by rw [hw']; exact (New.refl _ _).drewN kk
          clear hw'
          replace hT := hT.new_ nn
          replace hU := hU.new_ nn
          replace hW := hW.new_ nn
          replace ho := ho.new_ nn
          replace hz := hz.new_ nn
          replace hcW := hcW.new_ nn
          replace t := t.trans (nn.turn [1])
          clear nn
          have z0 := hz.get 0 rfl
          have z1 := hz.get 1 rfl
          have v0 := hcW.get 0 rfl
          have o2 := ho.get 2 rfl
          simp only [Nat.zero_add] at z0 z1 v0 o2
          have hS : (fun W' : World => W'.cell? ⟨gz, 0, none⟩ = some (.int .i64 0) ∧ W'.cell? ⟨gz, 1, none⟩ = some (.string ⟨#[]⟩) ∧ W'.cell? ⟨gw, 0, none⟩ = some (.slice AK rows.length cK) ∧ W'.cell? ⟨gx, 2, none⟩ = some (.int .i64 o.n)) w76 := ⟨z0, z1, v0, o2⟩
          refine hK' _ _ (fun _ => hS) ?_
          clear hK' K'
          refine anyX_takeWL 38 (v := ?_) rfl rfl (by as_aux_lemma => kernel_rfl) (by as_aux_lemma => kernel_rfl) (by as_aux_lemma => kernel_rfl) (by as_aux_lemma => kernel_rfl) (by as_aux_lemma => kernel_rfl) (fun _ _ _ h => h) (by rfl) ?_ hS ?_
          rotate_left
          · intro W' hW'
            obtain ⟨s0, s1, s2, s3⟩ := hW'
            all_goals (go_simp; first | done | rfl)
          intro l' hl
          dsimp only [List.set_cons_succ, List.set_cons_zero] at hl
          subst hl
          refine anyX_takeNL 39 (v := ?_) rfl rfl (by as_aux_lemma => kernel_rfl) (by as_aux_lemma => kernel_rfl) (by as_aux_lemma => kernel_rfl) (by as_aux_lemma => kernel_rfl) (by as_aux_lemma => kernel_rfl) (fun _ _ _ h => h) rfl ?_ hS ?_
          rotate_left
          · intro W' hW'
            obtain ⟨s0, s1, s2, s3⟩ := hW'
            all_goals (go_simp; first | done | rfl)
          intro l' hl
          dsimp only [List.set_cons_succ, List.set_cons_zero] at hl
          subst hl
          refine anyX_takeNL 40 (v := ?_) rfl rfl (by as_aux_lemma => kernel_rfl) (by as_aux_lemma => kernel_rfl) (by as_aux_lemma => kernel_rfl) (by as_aux_lemma => kernel_rfl) (by as_aux_lemma => kernel_rfl) (fun _ _ _ h => h) rfl ?_ hS ?_
          rotate_left
          · intro W' hW'
            obtain ⟨s0, s1, s2, s3⟩ := hW'
            all_goals (go_simp; first | done | rfl)
          intro l' hl
          dsimp only [List.set_cons_succ, List.set_cons_zero] at hl
          subst hl
          refine anyX_takeWL 42 (v := ?_) rfl rfl (by as_aux_lemma => kernel_rfl) (by as_aux_lemma => kernel_rfl) (by as_aux_lemma => kernel_rfl) (by as_aux_lemma => kernel_rfl) (by as_aux_lemma => kernel_rfl) (fun _ _ _ h => h) (by rfl) ?_ hS ?_
          rotate_left
          · intro W' hW'
            obtain ⟨s0, s1, s2, s3⟩ := hW'
            all_goals (go_simp; first | done | rfl)
          intro l' hl
          dsimp only [List.set_cons_succ, List.set_cons_zero] at hl
          subst hl
          refine anyX_takeWL 43 (v := ?_) rfl rfl (by as_aux_lemma => kernel_rfl) (by as_aux_lemma => kernel_rfl) (by as_aux_lemma => kernel_rfl) (by as_aux_lemma => kernel_rfl) (by as_aux_lemma => kernel_rfl) (fun _ _ _ h => h) (by rfl) ?_ hS ?_
          rotate_left
          · intro W' hW'
            obtain ⟨s0, s1, s2, s3⟩ := hW'
            all_goals (go_simp; first | done | rfl)
          intro l' hl
          dsimp only [List.set_cons_succ, List.set_cons_zero] at hl
          subst hl
          refine anyX_takeWL 44 (v := ?_) rfl rfl (by as_aux_lemma => kernel_rfl) (by as_aux_lemma => kernel_rfl) (by as_aux_lemma => kernel_rfl) (by as_aux_lemma => kernel_rfl) (by as_aux_lemma => kernel_rfl) (fun _ _ _ h => h) (by rfl) ?_ hS ?_
          rotate_left
          · intro W' hW'
            obtain ⟨s0, s1, s2, s3⟩ := hW'
            all_goals (go_simp; first | done | rfl)
          intro l' hl
          dsimp only [List.set_cons_succ, List.set_cons_zero] at hl
          subst hl
          refine anyX_takeWL 45 (v := ?_) rfl rfl (by as_aux_lemma => kernel_rfl) (by as_aux_lemma => kernel_rfl) (by as_aux_lemma => kernel_rfl) (by as_aux_lemma => kernel_rfl) (by as_aux_lemma => kernel_rfl) (fun _ _ _ h => h) (by rfl) ?_ hS ?_
          rotate_left
          · intro W' hW'
            obtain ⟨s0, s1, s2, s3⟩ := hW'
            all_goals (go_simp; first | done | rfl)
          intro l' hl
          dsimp only [List.set_cons_succ, List.set_cons_zero] at hl
          subst hl
          refine anyX_takeWL 46 (v := ?_) rfl rfl (by as_aux_lemma => kernel_rfl) (by as_aux_lemma => kernel_rfl) (by as_aux_lemma => kernel_rfl) (by as_aux_lemma => kernel_rfl) (by as_aux_lemma => kernel_rfl) (fun _ _ _ h => h) (by rfl) ?_ hS ?_
          rotate_left
          · intro W' hW'
            obtain ⟨s0, s1, s2, s3⟩ := hW'
            all_goals (go_simp; first | done | rfl)
          intro l' hl
          dsimp only [List.set_cons_succ, List.set_cons_zero] at hl
          subst hl
          refine anyX_oneW (i := 41) (by kernel_rfl) rfl (by rfl) fun K' hK' => ?_
          unfold Oper.wp
          go_simp
          clear hS z0 z1 v0 o2
          have hlu := TXP.t_len w76 ow74 [1, 1] gu 0 (rows.map pr) hU
          rw [List.length_map] at hlu
          refine (hlu).mono ?_
          rintro e w77 ⟨rfl, kk, hw'⟩
          have nn : New w76 ow74 w77 ow74 := by rw [hw']; exact (New.refl _ _).drewN kk
          clear hw'
          replace hT := hT.new_ nn
          replace hU := hU.new_ nn
          replace hW := hW.new_ nn
          replace ho := ho.new_ nn
          replace hz := hz.new_ nn
          replace hcW := hcW.new_ nn
          replace t := t.trans (nn.turn [1])
          clear nn
          clear hlu
          have z0 := hz.get 0 rfl
          have z1 := hz.get 1 rfl
          have v0 := hcW.get 0 rfl
          have o2 := ho.get 2 rfl
          simp only [Nat.zero_add] at z0 z1 v0 o2
          have hS : (fun W' : World => W'.cell? ⟨gz, 0, none⟩ = some (.int .i64 0) ∧ W'.cell? ⟨gz, 1, none⟩ = some (.string ⟨#[]⟩) ∧ W'.cell? ⟨gw, 0, none⟩ = some (.slice AK rows.length cK) ∧ W'.cell? ⟨gx, 2, none⟩ = some (.int .i64 o.n)) w77 := ⟨z0, z1, v0, o2⟩
          refine hK' _ _ (fun _ => hS) ?_
          clear hK' K'
          refine anyX_takeWL 47 (v := ?_) rfl rfl (by as_aux_lemma => kernel_rfl) (by as_aux_lemma => kernel_rfl) (by as_aux_lemma => kernel_rfl) (by as_aux_lemma => kernel_rfl) (by as_aux_lemma => kernel_rfl) (fun _ _ _ h => h) (by rfl) ?_ hS ?_
          rotate_left
          · intro W' hW'
            obtain ⟨s0, s1, s2, s3⟩ := hW'
            all_goals (go_simp; first | done | rfl)
          intro l' hl
          dsimp only [List.set_cons_succ, List.set_cons_zero] at hl
          subst hl
          refine anyX_takeNL 48 (v := ?_) rfl rfl (by as_aux_lemma => kernel_rfl) (by as_aux_lemma => kernel_rfl) (by as_aux_lemma => kernel_rfl) (by as_aux_lemma => kernel_rfl) (by as_aux_lemma => kernel_rfl) (fun _ _ _ h => h) rfl ?_ hS ?_
          rotate_left
          · intro W' hW'
            obtain ⟨s0, s1, s2, s3⟩ := hW'
            all_goals (go_simp; first | done | rfl)
          intro l' hl
          dsimp only [List.set_cons_succ, List.set_cons_zero] at hl
          subst hl
          refine anyX_takeNL 49 (v := ?_) rfl rfl (by as_aux_lemma => kernel_rfl) (by as_aux_lemma => kernel_rfl) (by as_aux_lemma => kernel_rfl) (by as_aux_lemma => kernel_rfl) (by as_aux_lemma => kernel_rfl) (fun _ _ _ h => h) rfl ?_ hS ?_
          rotate_left
          · intro W' hW'
            obtain ⟨s0, s1, s2, s3⟩ := hW'
            all_goals (go_simp; first | done | rfl)
          intro l' hl
          dsimp only [List.set_cons_succ, List.set_cons_zero] at hl
          subst hl
          refine anyX_takeWL 50 (v := ?_) rfl rfl (by as_aux_lemma => kernel_rfl) (by as_aux_lemma => kernel_rfl) (by as_aux_lemma => kernel_rfl) (by as_aux_lemma => kernel_rfl) (by as_aux_lemma => kernel_rfl) (fun _ _ _ h => h) (by rfl) ?_ hS ?_
          rotate_left
          · intro W' hW'
            obtain ⟨s0, s1, s2, s3⟩ := hW'
            all_goals (go_simp; first | done | rfl)
          intro l' hl
          dsimp only [List.set_cons_succ, List.set_cons_zero] at hl
          subst hl
          refine anyX_takeWL 51 (v := ?_) rfl rfl (by as_aux_lemma => kernel_rfl) (by as_aux_lemma => kernel_rfl) (by as_aux_lemma => kernel_rfl) (by as_aux_lemma => kernel_rfl) (by as_aux_lemma => kernel_rfl) (fun _ _ _ h => h) (by rfl) ?_ hS ?_
          rotate_left
          · intro W' hW'
            obtain ⟨s0, s1, s2, s3⟩ := hW'
            all_goals (go_simp; first | done | rfl)
          intro l' hl
          dsimp only [List.set_cons_succ, List.set_cons_zero] at hl
          subst hl
          refine anyX_takeWL 53 (v := ?_) rfl rfl (by as_aux_lemma => kernel_rfl) (by as_aux_lemma => kernel_rfl) (by as_aux_lemma => kernel_rfl) (by as_aux_lemma => kernel_rfl) (by as_aux_lemma => kernel_rfl) (fun _ _ _ h => h) (by rfl) ?_ hS ?_
          rotate_left
          · intro W' hW'
            obtain ⟨s0, s1, s2, s3⟩ := hW'
            all_goals (go_simp; first | done | rfl)
          intro l' hl
          dsimp only [List.set_cons_succ, List.set_cons_zero] at hl
          subst hl
          refine anyX_takeWL 54 (v := ?_) rfl rfl (by as_aux_lemma => kernel_rfl) (by as_aux_lemma => kernel_rfl) (by as_aux_lemma => kernel_rfl) (by as_aux_lemma => kernel_rfl) (by as_aux_lemma => kernel_rfl) (fun _ _ _ h => h) (by rfl) ?_ hS ?_
          rotate_left
          · intro W' hW'
            obtain ⟨s0, s1, s2, s3⟩ := hW'
            all_goals (go_simp; first | done | rfl)
          intro l' hl
          dsimp only [List.set_cons_succ, List.set_cons_zero] at hl
          subst hl
          refine anyX_takeWL 55 (v := ?_) rfl rfl (by as_aux_lemma => kernel_rfl) (by as_aux_lemma => kernel_rfl) (by as_aux_lemma => kernel_rfl) (by as_aux_lemma => kernel_rfl) (by as_aux_lemma => kernel_rfl) (fun _ _ _ h => h) (by rfl) ?_ hS ?_
          rotate_left
          · intro W' hW'
            obtain ⟨s0, s1, s2, s3⟩ := hW'
            all_goals (go_simp; first | done | rfl)
          intro l' hl
          dsimp only [List.set_cons_succ, List.set_cons_zero] at hl
          subst hl
          refine anyX_oneW (i := 52) (by kernel_rfl) rfl (by rfl) fun K' hK' => ?_
          unfold Oper.wp
          go_simp
          clear hS z0 z1 v0 o2
          refine (Hb1.out w77 ow74 [1, 0] w.heap.size 0 hT).mono ?_
          rintro e w78 ⟨rfl, bb⟩
          have nn := bb.nw ow74
          replace hT := hT.new_ nn
          replace hU := hU.new_ nn
          replace hW := hW.new_ nn
          replace ho := ho.new_ nn
          replace hz := hz.new_ nn
          replace hcW := hcW.new_ nn
          replace t := t.trans (nn.turn [1])
          clear nn
          clear bb
          have z0 := hz.get 0 rfl
          have z1 := hz.get 1 rfl
          have v0 := hcW.get 0 rfl
          have o2 := ho.get 2 rfl
          simp only [Nat.zero_add] at z0 z1 v0 o2
          have hS : (fun W' : World => W'.cell? ⟨gz, 0, none⟩ = some (.int .i64 0) ∧ W'.cell? ⟨gz, 1, none⟩ = some (.string ⟨#[]⟩) ∧ W'.cell? ⟨gw, 0, none⟩ = some (.slice AK rows.length cK) ∧ W'.cell? ⟨gx, 2, none⟩ = some (.int .i64 o.n)) w78 := ⟨z0, z1, v0, o2⟩
          refine hK' _ _ (fun _ => hS) ?_
          clear hK' K'
          refine anyX_oneW (i := 56) (by kernel_rfl) rfl (by rfl) fun K' hK' => ?_
          unfold Oper.wp
          go_simp
          clear hS z0 z1 v0 o2
          refine (Hb2.out w78 ow74 [1, 2] gw hW).mono ?_
          rintro e w79 ⟨rfl, bb⟩
          have nn := bb.nw ow74
          replace hT := hT.new_ nn
          replace hU := hU.new_ nn
          replace hW := hW.new_ nn
          replace ho := ho.new_ nn
          replace hz := hz.new_ nn
          replace hcW := hcW.new_ nn
          replace t := t.trans (nn.turn [1])
          clear nn
          clear bb
          have z0 := hz.get 0 rfl
          have z1 := hz.get 1 rfl
          have v0 := hcW.get 0 rfl
          have o2 := ho.get 2 rfl
          simp only [Nat.zero_add] at z0 z1 v0 o2
          have hS : (fun W' : World => W'.cell? ⟨gz, 0, none⟩ = some (.int .i64 0) ∧ W'.cell? ⟨gz, 1, none⟩ = some (.string ⟨#[]⟩) ∧ W'.cell? ⟨gw, 0, none⟩ = some (.slice AK rows.length cK) ∧ W'.cell? ⟨gx, 2, none⟩ = some (.int .i64 o.n)) w79 := ⟨z0, z1, v0, o2⟩
          refine hK' _ _ (fun _ => hS) ?_
          clear hK' K'
          refine anyX_takeWL 57 (v := ?_) rfl rfl (by as_aux_lemma => kernel_rfl) (by as_aux_lemma => kernel_rfl) (by as_aux_lemma => kernel_rfl) (by as_aux_lemma => kernel_rfl) (by as_aux_lemma => kernel_rfl) (fun _ _ _ h => h) (by rfl) ?_ hS ?_
          rotate_left
          · intro W' hW'
            obtain ⟨s0, s1, s2, s3⟩ := hW'
            all_goals (go_simp; first | done | rfl)
          intro l' hl
          dsimp only [List.set_cons_succ, List.set_cons_zero] at hl
          subst hl
          refine anyX_takeNL 58 (v := ?_) rfl rfl (by as_aux_lemma => kernel_rfl) (by as_aux_lemma => kernel_rfl) (by as_aux_lemma => kernel_rfl) (by as_aux_lemma => kernel_rfl) (by as_aux_lemma => kernel_rfl) (fun _ _ _ h => h) rfl ?_ hS ?_
          rotate_left
          · intro W' hW'
            obtain ⟨s0, s1, s2, s3⟩ := hW'
            all_goals (go_simp; first | done | rfl)
          intro l' hl
          dsimp only [List.set_cons_succ, List.set_cons_zero] at hl
          subst hl
          refine anyX_takeNL 59 (v := ?_) rfl rfl (by as_aux_lemma => kernel_rfl) (by as_aux_lemma => kernel_rfl) (by as_aux_lemma => kernel_rfl) (by as_aux_lemma => kernel_rfl) (by as_aux_lemma => kernel_rfl) (fun _ _ _ h => h) rfl ?_ hS ?_
          rotate_left
          · intro W' hW'
            obtain ⟨s0, s1, s2, s3⟩ := hW'
            all_goals (go_simp; first | done | rfl)
          intro l' hl
          dsimp only [List.set_cons_succ, List.set_cons_zero] at hl
          subst hl
          refine anyX_takeWL 60 (v := ?_) rfl rfl (by as_aux_lemma => kernel_rfl) (by as_aux_lemma => kernel_rfl) (by as_aux_lemma => kernel_rfl) (by as_aux_lemma => kernel_rfl) (by as_aux_lemma => kernel_rfl) (fun _ _ _ h => h) (by rfl) ?_ hS ?_
          rotate_left
          · intro W' hW'
            obtain ⟨s0, s1, s2, s3⟩ := hW'
            all_goals (go_simp; first | done | rfl)
          intro l' hl
          dsimp only [List.set_cons_succ, List.set_cons_zero] at hl
          subst hl
          refine anyX_takeWL 61 (v := ?_) rfl rfl (by as_aux_lemma => kernel_rfl) (by as_aux_lemma => kernel_rfl) (by as_aux_lemma => kernel_rfl) (by as_aux_lemma => kernel_rfl) (by as_aux_lemma => kernel_rfl) (fun _ _ _ h => h) (by rfl) ?_ hS ?_
          rotate_left
          · intro W' hW'
            obtain ⟨s0, s1, s2, s3⟩ := hW'
            all_goals (go_simp; first | done | rfl)
          intro l' hl
          dsimp only [List.set_cons_succ, List.set_cons_zero] at hl
          subst hl
          refine anyX_takeWL 64 (v := ?_) rfl rfl (by as_aux_lemma => kernel_rfl) (by as_aux_lemma => kernel_rfl) (by as_aux_lemma => kernel_rfl) (by as_aux_lemma => kernel_rfl) (by as_aux_lemma => kernel_rfl) (fun _ _ _ h => h) (by rfl) ?_ hS ?_
          rotate_left
          · intro W' hW'
            obtain ⟨s0, s1, s2, s3⟩ := hW'
            all_goals (go_simp; first | done | rfl)
          intro l' hl
          dsimp only [List.set_cons_succ, List.set_cons_zero] at hl
          subst hl
          refine anyX_takeWL 65 (v := ?_) rfl rfl (by as_aux_lemma => kernel_rfl) (by as_aux_lemma => kernel_rfl) (by as_aux_lemma => kernel_rfl) (by as_aux_lemma => kernel_rfl) (by as_aux_lemma => kernel_rfl) (fun _ _ _ h => h) (by rfl) ?_ hS ?_
          rotate_left
          · intro W' hW'
            obtain ⟨s0, s1, s2, s3⟩ := hW'
            all_goals (go_simp; first | done | rfl)
          intro l' hl
          dsimp only [List.set_cons_succ, List.set_cons_zero] at hl
          subst hl
          refine anyX_takeWL 66 (v := ?_) rfl rfl (by as_aux_lemma => kernel_rfl) (by as_aux_lemma => kernel_rfl) (by as_aux_lemma => kernel_rfl) (by as_aux_lemma => kernel_rfl) (by as_aux_lemma => kernel_rfl) (fun _ _ _ h => h) (by rfl) ?_ hS ?_
          rotate_left
          · intro W' hW'
            obtain ⟨s0, s1, s2, s3⟩ := hW'
            all_goals (go_simp; first | done | rfl)
          intro l' hl
          dsimp only [List.set_cons_succ, List.set_cons_zero] at hl
          subst hl
          refine anyX_oneW (i := 62) (by kernel_rfl) rfl (by rfl) fun K' hK' => ?_
          unfold Oper.wp
          go_simp
          clear hS z0 z1 v0 o2
          refine (Tx.text w79 o.n Hon.out).mono ?_
          rintro e w80 ⟨rfl, bb⟩
          have nn := bb.nw ow74
          replace hT := hT.new_ nn
          replace hU := hU.new_ nn
          replace hW := hW.new_ nn
          replace ho := ho.new_ nn
          replace hz := hz.new_ nn
          replace hcW := hcW.new_ nn
          replace t := t.trans (nn.turn [1])
          clear nn
          clear bb
          have z0 := hz.get 0 rfl
          have z1 := hz.get 1 rfl
          have v0 := hcW.get 0 rfl
          have o2 := ho.get 2 rfl
          simp only [Nat.zero_add] at z0 z1 v0 o2
          have hS : (fun W' : World => W'.cell? ⟨gz, 0, none⟩ = some (.int .i64 0) ∧ W'.cell? ⟨gz, 1, none⟩ = some (.string ⟨#[]⟩) ∧ W'.cell? ⟨gw, 0, none⟩ = some (.slice AK rows.length cK) ∧ W'.cell? ⟨gx, 2, none⟩ = some (.int .i64 o.n)) w80 := ⟨z0, z1, v0, o2⟩
          refine hK' _ _ (fun _ => hS) ?_
          clear hK' K'
          refine anyX_oneW (i := 63) (by kernel_rfl) rfl (by rfl) fun K' hK' => ?_
          unfold Oper.wp
          go_simp
          clear hS z0 z1 v0 o2
          refine (Hb3.out w80 ow74 [1, 1] gu 0 hU).mono ?_
          rintro e w81 ⟨rfl, bb⟩
          have nn := bb.nw ow74
          replace hT := hT.new_ nn
          replace hU := hU.new_ nn
          replace hW := hW.new_ nn
          replace ho := ho.new_ nn
          replace hz := hz.new_ nn
          replace hcW := hcW.new_ nn
          replace t := t.trans (nn.turn [1])
          clear nn
          clear bb
          have z0 := hz.get 0 rfl
          have z1 := hz.get 1 rfl
          have v0 := hcW.get 0 rfl
          have o2 := ho.get 2 rfl
          simp only [Nat.zero_add] at z0 z1 v0 o2
          have hS : (fun W' : World => W'.cell? ⟨gz, 0, none⟩ = some (.int .i64 0) ∧ W'.cell? ⟨gz, 1, none⟩ = some (.string ⟨#[]⟩) ∧ W'.cell? ⟨gw, 0, none⟩ = some (.slice AK rows.length cK) ∧ W'.cell? ⟨gx, 2, none⟩ = some (.int .i64 o.n)) w81 := ⟨z0, z1, v0, o2⟩
          refine hK' _ _ (fun _ => hS) ?_
          clear hK' K'
          refine anyX_oneW (i := 67) (by kernel_rfl) rfl (by rfl) fun K' hK' => ?_
          unfold Oper.wp
          go_simp
          clear hS z0 z1 v0 o2
          refine (Hb2.out w81 ow74 [1, 2] gw hW).mono ?_
          rintro e w82 ⟨rfl, bb⟩
          have nn := bb.nw ow74
          replace hT := hT.new_ nn
          replace hU := hU.new_ nn
          replace hW := hW.new_ nn
          replace ho := ho.new_ nn
          replace hz := hz.new_ nn
          replace hcW := hcW.new_ nn
          replace t := t.trans (nn.turn [1])
          clear nn
          clear bb
          have z0 := hz.get 0 rfl
          have z1 := hz.get 1 rfl
          have v0 := hcW.get 0 rfl
          have o2 := ho.get 2 rfl
          simp only [Nat.zero_add] at z0 z1 v0 o2
          have hS : (fun W' : World => W'.cell? ⟨gz, 0, none⟩ = some (.int .i64 0) ∧ W'.cell? ⟨gz, 1, none⟩ = some (.string ⟨#[]⟩) ∧ W'.cell? ⟨gw, 0, none⟩ = some (.slice AK rows.length cK) ∧ W'.cell? ⟨gx, 2, none⟩ = some (.int .i64 o.n)) w82 := ⟨z0, z1, v0, o2⟩
          refine hK' _ _ (fun _ => hS) ?_
          clear hK' K'
          refine anyX_takeWL 68 (v := ?_) rfl rfl (by as_aux_lemma => kernel_rfl) (by as_aux_lemma => kernel_rfl) (by as_aux_lemma => kernel_rfl) (by as_aux_lemma => kernel_rfl) (by as_aux_lemma => kernel_rfl) (fun _ _ _ h => h) (by rfl) ?_ hS ?_
          rotate_left
          · intro W' hW'
            obtain ⟨s0, s1, s2, s3⟩ := hW'
            all_goals (go_simp; first | done | rfl)
          intro l' hl
          dsimp only [List.set_cons_succ, List.set_cons_zero] at hl
          subst hl
          refine anyX_takeNL 69 (v := ?_) rfl rfl (by as_aux_lemma => kernel_rfl) (by as_aux_lemma => kernel_rfl) (by as_aux_lemma => kernel_rfl) (by as_aux_lemma => kernel_rfl) (by as_aux_lemma => kernel_rfl) (fun _ _ _ h => h) rfl ?_ hS ?_
          rotate_left
          · intro W' hW'
            obtain ⟨s0, s1, s2, s3⟩ := hW'
            all_goals (go_simp; first | done | rfl)
          intro l' hl
          dsimp only [List.set_cons_succ, List.set_cons_zero] at hl
          subst hl
          refine anyX_done (by kernel_rfl) ?_ _
          refine NoPanic.normal ?_
          clear hS z0 z1 v0 o2
          go_wp2_with fail
          go_roundg (ys.length - (k + 1))
          case measure => have := Hgk.out; omega
          case rel => exact ⟨k + 1, ow74, rows, zs, rfl, by omega, by go_num, hzl, Hsm.out, hT, hU, hW, t⟩
        · have Hp1 := Lib.hid hp1
          have Hp2 := Lib.hid hp2
          have Hp3 := Lib.hid hp3
          clear hp1 hp2 hp3
          have Hxr := Lib.hid hxr
          clear hxr
          go_wp2_with fail
          refine (Hp1.out w5 ow5 [1, 0] w.heap.size 0 hT).mono ?_
          rintro e w91 ⟨rfl, bb⟩
          have nn := bb.nw ow5
          replace hT := hT.new_ nn
          replace hU := hU.new_ nn
          replace hW := hW.new_ nn
          replace ho := ho.new_ nn
          replace t := t.trans (nn.turn [1])
          clear nn
          clear bb
          have o0 := ho.get 0 rfl
          have o1 := ho.get 1 rfl
          have o2 := ho.get 2 rfl
          simp only [Nat.zero_add] at o0 o1 o2
          go_wp2_with fail
          clear o0 o1 o2
          refine (Hp2.out w91 ow5 [1, 2] gw hW).mono ?_
          rintro e w92 ⟨rfl, bb⟩
          have nn := bb.nw ow5
          replace hT := hT.new_ nn
          replace hU := hU.new_ nn
          replace hW := hW.new_ nn
          replace ho := ho.new_ nn
          replace t := t.trans (nn.turn [1])
          clear nn
          clear bb
          go_wp2_with fail
          refine (Hp3.out w92 ow5 [1, 1] gu 0 hU).mono ?_
          rintro e w93 ⟨rfl, bb⟩
          have nn := bb.nw ow5
          replace hT := hT.new_ nn
          replace hU := hU.new_ nn
          replace hW := hW.new_ nn
          replace ho := ho.new_ nn
          replace t := t.trans (nn.turn [1])
          clear nn
          clear bb
          go_wp2_with fail
          obtain ⟨ow94, hz, nn, -⟩ := add_cells w93 ow5 [1, 4] [.int .i64 x, .string (Tx.tx x)] 62
          generalize w93.alloc (.cells #[.int .i64 x, .string (Tx.tx x)] 62) = w94 at *
          generalize w93.heap.size = gz at *
          replace hT := hT.new_ nn
          replace hU := hU.new_ nn
          replace hW := hW.new_ nn
          replace ho := ho.new_ nn
          replace t := t.trans (nn.turn [1])
          clear nn
          obtain ⟨vk, vv, hcW, hrk, hrv⟩ := id hW
          obtain ⟨AK, cK, rfl, -⟩ := hrk.slice
          rw [hlz] at hcW
          clear hrk hrv
          refine plain_regionN (fun W' : World => W'.cell? ⟨gz, 0, none⟩ = some (.int .i64 x) ∧ W'.cell? ⟨gz, 1, none⟩ = some (.string (Tx.tx x)) ∧ W'.cell? ⟨gw, 0, none⟩ = some (.slice AK rows.length cK) ∧ W'.cell? ⟨gx, 2, none⟩ = some (.int .i64 o.n)) [] (by kernel_rfl) ?_
          have nn : New w94 ow94 w94.drew ow94 := (New.refl _ _).drew
          replace hT := hT.new_ nn
          replace hU := hU.new_ nn
          replace hW := hW.new_ nn
          replace ho := ho.new_ nn
          replace hz := hz.new_ nn
          replace hcW := hcW.new_ nn
          replace t := t.trans (nn.turn [1])
          clear nn
          generalize w94.drew = w95 at *
          have z0 := hz.get 0 rfl
          have z1 := hz.get 1 rfl
          have v0 := hcW.get 0 rfl
          have o2 := ho.get 2 rfl
          simp only [Nat.zero_add] at z0 z1 v0 o2
          have hS : (fun W' : World => W'.cell? ⟨gz, 0, none⟩ = some (.int .i64 x) ∧ W'.cell? ⟨gz, 1, none⟩ = some (.string (Tx.tx x)) ∧ W'.cell? ⟨gw, 0, none⟩ = some (.slice AK rows.length cK) ∧ W'.cell? ⟨gx, 2, none⟩ = some (.int .i64 o.n)) w95 := ⟨z0, z1, v0, o2⟩
          refine anyX_takeNL 0 (v := ?_) rfl rfl (by as_aux_lemma => kernel_rfl) (by as_aux_lemma => kernel_rfl) (by as_aux_lemma => kernel_rfl) (by as_aux_lemma => kernel_rfl) (by as_aux_lemma => kernel_rfl) (fun _ _ _ h => h) rfl ?_ hS ?_
          rotate_left
          · intro W' hW'
            obtain ⟨s0, s1, s2, s3⟩ := hW'
            all_goals (go_simp; first | done | rfl)
          intro l' hl
          dsimp only [List.set_cons_succ, List.set_cons_zero] at hl
          subst hl
          refine anyX_takeNL 1 (v := ?_) rfl rfl (by as_aux_lemma => kernel_rfl) (by as_aux_lemma => kernel_rfl) (by as_aux_lemma => kernel_rfl) (by as_aux_lemma => kernel_rfl) (by as_aux_lemma => kernel_rfl) (fun _ _ _ h => h) rfl ?_ hS ?_
          rotate_left
          · intro W' hW'
            obtain ⟨s0, s1, s2, s3⟩ := hW'
            all_goals (go_simp; first | done | rfl)
          intro l' hl
          dsimp only [List.set_cons_succ, List.set_cons_zero] at hl
          subst hl
          refine anyX_takeNL 2 (v := ?_) rfl rfl (by as_aux_lemma => kernel_rfl) (by as_aux_lemma => kernel_rfl) (by as_aux_lemma => kernel_rfl) (by as_aux_lemma => kernel_rfl) (by as_aux_lemma => kernel_rfl) (fun _ _ _ h => h) rfl ?_ hS ?_
          rotate_left
          · intro W' hW'
            obtain ⟨s0, s1, s2, s3⟩ := hW'
            all_goals (go_simp; first | done | rfl)
          intro l' hl
          dsimp only [List.set_cons_succ, List.set_cons_zero] at hl
          subst hl
          refine anyX_takeNL 3 (v := ?_) rfl rfl (by as_aux_lemma => kernel_rfl) (by as_aux_lemma => kernel_rfl) (by as_aux_lemma => kernel_rfl) (by as_aux_lemma => kernel_rfl) (by as_aux_lemma => kernel_rfl) (fun _ _ _ h => h) rfl ?_ hS ?_
          rotate_left
          · intro W' hW'
            obtain ⟨s0, s1, s2, s3⟩ := hW'
            all_goals (go_simp; first | done | rfl)
          intro l' hl
          dsimp only [List.set_cons_succ, List.set_cons_zero] at hl
          subst hl
          refine anyX_takeWL 4 (v := ?_) rfl rfl (by as_aux_lemma => kernel_rfl) (by as_aux_lemma => kernel_rfl) (by as_aux_lemma => kernel_rfl) (by as_aux_lemma => kernel_rfl) (by as_aux_lemma => kernel_rfl) (fun _ _ _ h => h) (by rfl) ?_ hS ?_
          rotate_left
          · intro W' hW'
            obtain ⟨s0, s1, s2, s3⟩ := hW'
            all_goals (go_simp; first | done | rfl)
          intro l' hl
          dsimp only [List.set_cons_succ, List.set_cons_zero] at hl
          subst hl
          refine anyX_takeWL 5 (v := ?_) rfl rfl (by as_aux_lemma => kernel_rfl) (by as_aux_lemma => kernel_rfl) (by as_aux_lemma => kernel_rfl) (by as_aux_lemma => kernel_rfl) (by as_aux_lemma => kernel_rfl) (fun _ _ _ h => h) (by rfl) ?_ hS ?_
          rotate_left
          · intro W' hW'
            obtain ⟨s0, s1, s2, s3⟩ := hW'
            all_goals (go_simp; first | done | rfl)
          intro l' hl
          dsimp only [List.set_cons_succ, List.set_cons_zero] at hl
          subst hl
          refine anyX_takeWL 6 (v := ?_) rfl rfl (by as_aux_lemma => kernel_rfl) (by as_aux_lemma => kernel_rfl) (by as_aux_lemma => kernel_rfl) (by as_aux_lemma => kernel_rfl) (by as_aux_lemma => kernel_rfl) (fun _ _ _ h => h) (by rfl) ?_ hS ?_
          rotate_left
          · intro W' hW'
            obtain ⟨s0, s1, s2, s3⟩ := hW'
            all_goals (go_simp; first | done | rfl)
          intro l' hl
          dsimp only [List.set_cons_succ, List.set_cons_zero] at hl
          subst hl
          refine anyX_takeNL 7 (v := ?_) rfl rfl (by as_aux_lemma => kernel_rfl) (by as_aux_lemma => kernel_rfl) (by as_aux_lemma => kernel_rfl) (by as_aux_lemma => kernel_rfl) (by as_aux_lemma => kernel_rfl) (fun _ _ _ h => h) rfl ?_ hS ?_
          rotate_left
          · intro W' hW'
            obtain ⟨s0, s1, s2, s3⟩ := hW'
            all_goals (go_simp; first | done | rfl)
          intro l' hl
          dsimp only [List.set_cons_succ, List.set_cons_zero] at hl
          subst hl
          refine anyX_takeNL 8 (v := ?_) rfl rfl (by as_aux_lemma => kernel_rfl) (by as_aux_lemma => kernel_rfl) (by as_aux_lemma => kernel_rfl) (by as_aux_lemma => kernel_rfl) (by as_aux_lemma => kernel_rfl) (fun _ _ _ h => h) rfl ?_ hS ?_
          rotate_left
          · intro W' hW'
            obtain ⟨s0, s1, s2, s3⟩ := hW'
            all_goals (go_simp; first | done | rfl)
          intro l' hl
          dsimp only [List.set_cons_succ, List.set_cons_zero] at hl
          subst hl
          refine anyX_takeWL 9 (v := ?_) rfl rfl (by as_aux_lemma => kernel_rfl) (by as_aux_lemma => kernel_rfl) (by as_aux_lemma => kernel_rfl) (by as_aux_lemma => kernel_rfl) (by as_aux_lemma => kernel_rfl) (fun _ _ _ h => h) (by rfl) ?_ hS ?_
          rotate_left
          · intro W' hW'
            obtain ⟨s0, s1, s2, s3⟩ := hW'
            all_goals (go_simp; first | done | rfl)
          intro l' hl
          dsimp only [List.set_cons_succ, List.set_cons_zero] at hl
          subst hl
          refine anyX_takeWL 10 (v := ?_) rfl rfl (by as_aux_lemma => kernel_rfl) (by as_aux_lemma => kernel_rfl) (by as_aux_lemma => kernel_rfl) (by as_aux_lemma => kernel_rfl) (by as_aux_lemma => kernel_rfl) (fun _ _ _ h => h) (by rfl) ?_ hS ?_
          rotate_left
          · intro W' hW'
            obtain ⟨s0, s1, s2, s3⟩ := hW'
            all_goals (go_simp; first | done | rfl)
          intro l' hl
          dsimp only [List.set_cons_succ, List.set_cons_zero] at hl
          subst hl
          refine anyX_takeWL 11 (v := ?_) rfl rfl (by as_aux_lemma => kernel_rfl) (by as_aux_lemma => kernel_rfl) (by as_aux_lemma => kernel_rfl) (by as_aux_lemma => kernel_rfl) (by as_aux_lemma => kernel_rfl) (fun _ _ _ h => h) (by rfl) ?_ hS ?_
          rotate_left
          · intro W' hW'
            obtain ⟨s0, s1, s2, s3⟩ := hW'
            all_goals (go_simp; first | done | rfl)
          intro l' hl
          dsimp only [List.set_cons_succ, List.set_cons_zero] at hl
          subst hl
          refine anyX_takeNL 12 (v := ?_) rfl rfl (by as_aux_lemma => kernel_rfl) (by as_aux_lemma => kernel_rfl) (by as_aux_lemma => kernel_rfl) (by as_aux_lemma => kernel_rfl) (by as_aux_lemma => kernel_rfl) (fun _ _ _ h => h) rfl ?_ hS ?_
          rotate_left
          · intro W' hW'
            obtain ⟨s0, s1, s2, s3⟩ := hW'
            all_goals (go_simp; first | done | rfl)
          intro l' hl
          dsimp only [List.set_cons_succ, List.set_cons_zero] at hl
          subst hl
          refine anyX_takeNL 13 (v := ?_) rfl rfl (by as_aux_lemma => kernel_rfl) (by as_aux_lemma => kernel_rfl) (by as_aux_lemma => kernel_rfl) (by as_aux_lemma => kernel_rfl) (by as_aux_lemma => kernel_rfl) (fun _ _ _ h => h) rfl ?_ hS ?_
          rotate_left
          · intro W' hW'
            obtain ⟨s0, s1, s2, s3⟩ := hW'
            all_goals (go_simp; first | done | rfl)
          intro l' hl
          dsimp only [List.set_cons_succ, List.set_cons_zero] at hl
          subst hl
          refine anyX_takeWL 14 (v := ?_) rfl rfl (by as_aux_lemma => kernel_rfl) (by as_aux_lemma => kernel_rfl) (by as_aux_lemma => kernel_rfl) (by as_aux_lemma => kernel_rfl) (by as_aux_lemma => kernel_rfl) (fun _ _ _ h => h) (by rfl) ?_ hS ?_
          rotate_left
          · intro W' hW'
            obtain ⟨s0, s1, s2, s3⟩ := hW'
            all_goals (go_simp; first | done | rfl)
          intro l' hl
          dsimp only [List.set_cons_succ, List.set_cons_zero] at hl
          subst hl
          refine anyX_takeWL 15 (v := ?_) rfl rfl (by as_aux_lemma => kernel_rfl) (by as_aux_lemma => kernel_rfl) (by as_aux_lemma => kernel_rfl) (by as_aux_lemma => kernel_rfl) (by as_aux_lemma => kernel_rfl) (fun _ _ _ h => h) (by rfl) ?_ hS ?_
          rotate_left
          · intro W' hW'
            obtain ⟨s0, s1, s2, s3⟩ := hW'
            all_goals (go_simp; first | done | rfl)
          intro l' hl
          dsimp only [List.set_cons_succ, List.set_cons_zero] at hl
          subst hl
          refine anyX_takeWL 16 (v := ?_) rfl rfl (by as_aux_lemma => kernel_rfl) (by as_aux_lemma => kernel_rfl) (by as_aux_lemma => kernel_rfl) (by as_aux_lemma => kernel_rfl) (by as_aux_lemma => kernel_rfl) (fun _ _ _ h => h) (by rfl) ?_ hS ?_
          rotate_left
          · intro W' hW'
            obtain ⟨s0, s1, s2, s3⟩ := hW'
            all_goals (go_simp; first | done | rfl)
          intro l' hl
          dsimp only [List.set_cons_succ, List.set_cons_zero] at hl
          subst hl
          refine anyX_takeWL 17 (v := ?_) rfl rfl (by as_aux_lemma => kernel_rfl) (by as_aux_lemma => kernel_rfl) (by as_aux_lemma => kernel_rfl) (by as_aux_lemma => kernel_rfl) (by as_aux_lemma => kernel_rfl) (fun _ _ _ h => h) (by rfl) ?_ hS ?_
          rotate_left
          · intro W' hW'
            obtain ⟨s0, s1, s2, s3⟩ := hW'
            all_goals (go_simp; first | done | rfl)
          intro l' hl
          dsimp only [List.set_cons_succ, List.set_cons_zero] at hl
          subst hl
          refine anyX_oneW (i := 18) (by kernel_rfl) rfl (by rfl) fun K' hK' => ?_
          unfold Oper.wp
          go_simp
          clear hS z0 z1 v0 o2
          refine (Tx.pair w95 x Hxr.out).mono ?_
          rintro e w96 ⟨rfl, bb⟩
          have nn := bb.nw ow94
          replace hT := hT.new_ nn
          replace hU := hU.new_ nn
          replace hW := hW.new_ nn
          replace ho := ho.new_ nn
          replace hz := hz.new_ nn
          replace hcW := hcW.new_ nn
          replace t := t.trans (nn.turn [1])
          clear nn
          clear bb
          have z0 := hz.get 0 rfl
          have z1 := hz.get 1 rfl
          have v0 := hcW.get 0 rfl
          have o2 := ho.get 2 rfl
          simp only [Nat.zero_add] at z0 z1 v0 o2
          have hS : (fun W' : World => W'.cell? ⟨gz, 0, none⟩ = some (.int .i64 x) ∧ W'.cell? ⟨gz, 1, none⟩ = some (.string (Tx.tx x)) ∧ W'.cell? ⟨gw, 0, none⟩ = some (.slice AK rows.length cK) ∧ W'.cell? ⟨gx, 2, none⟩ = some (.int .i64 o.n)) w96 := ⟨z0, z1, v0, o2⟩
          refine hK' _ _ (fun _ => hS) ?_
          clear hK' K'
          refine anyX_takeWL 19 (v := ?_) rfl rfl (by as_aux_lemma => kernel_rfl) (by as_aux_lemma => kernel_rfl) (by as_aux_lemma => kernel_rfl) (by as_aux_lemma => kernel_rfl) (by as_aux_lemma => kernel_rfl) (fun _ _ _ h => h) (by rfl) ?_ hS ?_
          rotate_left
          · intro W' hW'
            obtain ⟨s0, s1, s2, s3⟩ := hW'
            all_goals (go_simp; first | done | rfl)
          intro l' hl
          dsimp only [List.set_cons_succ, List.set_cons_zero] at hl
          subst hl
          refine anyX_takeWL 20 (v := ?_) rfl rfl (by as_aux_lemma => kernel_rfl) (by as_aux_lemma => kernel_rfl) (by as_aux_lemma => kernel_rfl) (by as_aux_lemma => kernel_rfl) (by as_aux_lemma => kernel_rfl) (fun _ _ _ h => h) (by rfl) ?_ hS ?_
          rotate_left
          · intro W' hW'
            obtain ⟨s0, s1, s2, s3⟩ := hW'
            all_goals (go_simp; first | done | rfl)
          intro l' hl
          dsimp only [List.set_cons_succ, List.set_cons_zero] at hl
          subst hl
          refine anyX_takeNL 21 (v := ?_) rfl rfl (by as_aux_lemma => kernel_rfl) (by as_aux_lemma => kernel_rfl) (by as_aux_lemma => kernel_rfl) (by as_aux_lemma => kernel_rfl) (by as_aux_lemma => kernel_rfl) (fun _ _ _ h => h) rfl ?_ hS ?_
          rotate_left
          · intro W' hW'
            obtain ⟨s0, s1, s2, s3⟩ := hW'
            all_goals (go_simp; first | done | rfl)
          intro l' hl
          dsimp only [List.set_cons_succ, List.set_cons_zero] at hl
          subst hl
          refine anyX_takeNL 22 (v := ?_) rfl rfl (by as_aux_lemma => kernel_rfl) (by as_aux_lemma => kernel_rfl) (by as_aux_lemma => kernel_rfl) (by as_aux_lemma => kernel_rfl) (by as_aux_lemma => kernel_rfl) (fun _ _ _ h => h) rfl ?_ hS ?_
          rotate_left
          · intro W' hW'
            obtain ⟨s0, s1, s2, s3⟩ := hW'
            all_goals (go_simp; first | done | rfl)
          intro l' hl
          dsimp only [List.set_cons_succ, List.set_cons_zero] at hl
          subst hl
          refine anyX_takeWL 23 (v := ?_) rfl rfl (by as_aux_lemma => kernel_rfl) (by as_aux_lemma => kernel_rfl) (by as_aux_lemma => kernel_rfl) (by as_aux_lemma => kernel_rfl) (by as_aux_lemma => kernel_rfl) (fun _ _ _ h => h) (by rfl) ?_ hS ?_
          rotate_left
          · intro W' hW'
            obtain ⟨s0, s1, s2, s3⟩ := hW'
            all_goals (go_simp; first | done | rfl)
          intro l' hl
          dsimp only [List.set_cons_succ, List.set_cons_zero] at hl
          subst hl
          refine anyX_takeWL 24 (v := ?_) rfl rfl (by as_aux_lemma => kernel_rfl) (by as_aux_lemma => kernel_rfl) (by as_aux_lemma => kernel_rfl) (by as_aux_lemma => kernel_rfl) (by as_aux_lemma => kernel_rfl) (fun _ _ _ h => h) (by rfl) ?_ hS ?_
          rotate_left
          · intro W' hW'
            obtain ⟨s0, s1, s2, s3⟩ := hW'
            all_goals (go_simp; first | done | rfl)
          intro l' hl
          dsimp only [List.set_cons_succ, List.set_cons_zero] at hl
          subst hl
          refine anyX_takeWL 25 (v := ?_) rfl rfl (by as_aux_lemma => kernel_rfl) (by as_aux_lemma => kernel_rfl) (by as_aux_lemma => kernel_rfl) (by as_aux_lemma => kernel_rfl) (by as_aux_lemma => kernel_rfl) (fun _ _ _ h => h) (by rfl) ?_ hS ?_
          rotate_left
          · intro W' hW'
            obtain ⟨s0, s1, s2, s3⟩ := hW'
            all_goals (go_simp; first | done | rfl)
          intro l' hl
          dsimp only [List.set_cons_succ, List.set_cons_zero] at hl
          subst hl
          refine anyX_takeUL 26 rfl rfl (by as_aux_lemma => kernel_rfl) (by as_aux_lemma => kernel_rfl) (by as_aux_lemma => kernel_rfl) (by as_aux_lemma => kernel_rfl) (by as_aux_lemma => kernel_rfl) (fun _ _ _ h => h) (by rfl) hS ?_
          intro l' hl
          dsimp only [List.set_cons_succ, List.set_cons_zero] at hl
          subst hl
          refine anyX_takeUL 27 rfl rfl (by as_aux_lemma => kernel_rfl) (by as_aux_lemma => kernel_rfl) (by as_aux_lemma => kernel_rfl) (by as_aux_lemma => kernel_rfl) (by as_aux_lemma => kernel_rfl) (fun _ _ _ h => h) (by rfl) hS ?_
          intro l' hl
          dsimp only [List.set_cons_succ, List.set_cons_zero] at hl
          subst hl
          refine anyX_takeUL 28 rfl rfl (by as_aux_lemma => kernel_rfl) (by as_aux_lemma => kernel_rfl) (by as_aux_lemma => kernel_rfl) (by as_aux_lemma => kernel_rfl) (by as_aux_lemma => kernel_rfl) (fun _ _ _ h => h) (by rfl) hS ?_
          intro l' hl
          dsimp only [List.set_cons_succ, List.set_cons_zero] at hl
          subst hl
          refine anyX_takeWL 29 (v := ?_) rfl rfl (by as_aux_lemma => kernel_rfl) (by as_aux_lemma => kernel_rfl) (by as_aux_lemma => kernel_rfl) (by as_aux_lemma => kernel_rfl) (by as_aux_lemma => kernel_rfl) (fun _ _ _ h => h) (by rfl) ?_ hS ?_
          rotate_left
          · intro W' hW'
            obtain ⟨s0, s1, s2, s3⟩ := hW'
            all_goals (go_simp; first | done | rfl)
          intro l' hl
          dsimp only [List.set_cons_succ, List.set_cons_zero] at hl
          subst hl
          refine anyX_takeNL 30 (v := ?_) rfl rfl (by as_aux_lemma => kernel_rfl) (by as_aux_lemma => kernel_rfl) (by as_aux_lemma => kernel_rfl) (by as_aux_lemma => kernel_rfl) (by as_aux_lemma => kernel_rfl) (fun _ _ _ h => h) rfl ?_ hS ?_
          rotate_left
          · intro W' hW'
            obtain ⟨s0, s1, s2, s3⟩ := hW'
            all_goals (go_simp; first | done | rfl)
          intro l' hl
          dsimp only [List.set_cons_succ, List.set_cons_zero] at hl
          subst hl
          refine anyX_takeNL 31 (v := ?_) rfl rfl (by as_aux_lemma => kernel_rfl) (by as_aux_lemma => kernel_rfl) (by as_aux_lemma => kernel_rfl) (by as_aux_lemma => kernel_rfl) (by as_aux_lemma => kernel_rfl) (fun _ _ _ h => h) rfl ?_ hS ?_
          rotate_left
          · intro W' hW'
            obtain ⟨s0, s1, s2, s3⟩ := hW'
            all_goals (go_simp; first | done | rfl)
          intro l' hl
          dsimp only [List.set_cons_succ, List.set_cons_zero] at hl
          subst hl
          refine anyX_takeWL 33 (v := ?_) rfl rfl (by as_aux_lemma => kernel_rfl) (by as_aux_lemma => kernel_rfl) (by as_aux_lemma => kernel_rfl) (by as_aux_lemma => kernel_rfl) (by as_aux_lemma => kernel_rfl) (fun _ _ _ h => h) (by rfl) ?_ hS ?_
          rotate_left
          · intro W' hW'
            obtain ⟨s0, s1, s2, s3⟩ := hW'
            all_goals (go_simp; first | done | rfl)
          intro l' hl
          dsimp only [List.set_cons_succ, List.set_cons_zero] at hl
          subst hl
          refine anyX_takeWL 34 (v := ?_) rfl rfl (by as_aux_lemma => kernel_rfl) (by as_aux_lemma => kernel_rfl) (by as_aux_lemma => kernel_rfl) (by as_aux_lemma => kernel_rfl) (by as_aux_lemma => kernel_rfl) (fun _ _ _ h => h) (by rfl) ?_ hS ?_
          rotate_left
          · intro W' hW'
            obtain ⟨s0, s1, s2, s3⟩ := hW'
            all_goals (go_simp; first | done | rfl)
          intro l' hl
          dsimp only [List.set_cons_succ, List.set_cons_zero] at hl
          subst hl
          refine anyX_takeWL 35 (v := ?_) rfl rfl (by as_aux_lemma => kernel_rfl) (by as_aux_lemma => kernel_rfl) (by as_aux_lemma => kernel_rfl) (by as_aux_lemma => kernel_rfl) (by as_aux_lemma => kernel_rfl) (fun _ _ _ h => h) (by rfl) ?_ hS ?_
          rotate_left
          · intro W' hW'
            obtain ⟨s0, s1, s2, s3⟩ := hW'
            all_goals (go_simp; first | done | rfl)
          intro l' hl
          dsimp only [List.set_cons_succ, List.set_cons_zero] at hl
          subst hl
          refine anyX_takeWL 36 (v := ?_) rfl rfl (by as_aux_lemma => kernel_rfl) (by as_aux_lemma => kernel_rfl) (by as_aux_lemma => kernel_rfl) (by as_aux_lemma => kernel_rfl) (by as_aux_lemma => kernel_rfl) (fun _ _ _ h => h) (by rfl) ?_ hS ?_
          rotate_left
          · intro W' hW'
            obtain ⟨s0, s1, s2, s3⟩ := hW'
            all_goals (go_simp; first | done | rfl)
          intro l' hl
          dsimp only [List.set_cons_succ, List.set_cons_zero] at hl
          subst hl
          refine anyX_takeWL 37 (v := ?_) rfl rfl (by as_aux_lemma => kernel_rfl) (by as_aux_lemma => kernel_rfl) (by as_aux_lemma => kernel_rfl) (by as_aux_lemma => kernel_rfl) (by as_aux_lemma => kernel_rfl) (fun _ _ _ h => h) (by rfl) ?_ hS ?_
          rotate_left
          · intro W' hW'
            obtain ⟨s0, s1, s2, s3⟩ := hW'
            all_goals (go_simp; first | done | rfl)
          intro l' hl
          dsimp only [List.set_cons_succ, List.set_cons_zero] at hl
          subst hl
          refine anyX_oneW (i := 32) (by kernel_rfl) rfl (by rfl) fun K' hK' => ?_
          unfold Oper.wp
          go_simp
          clear hS z0 z1 v0 o2
          refine (TNI.t_len w96 ow94 [1, 0] w.heap.size 0 rows hT).mono ?_
          rintro e w97 ⟨rfl, kk, hw'⟩
          have nn : New w96 ow94 w97 ow94 := by rw [hw']; exact (New.refl _ _).drewN kk
          clear hw'
          replace hT := hT.new_ nn
          replace hU := hU.new_ nn
          replace hW := hW.new_ nn
          replace ho := ho.new_ nn
          replace hz := hz.new_ nn
          replace hcW := hcW.new_ nn
          replace t := t.trans (nn.turn [1])
          clear nn
          have z0 := hz.get 0 rfl
          have z1 := hz.get 1 rfl
          have v0 := hcW.get 0 rfl
          have o2 := ho.get 2 rfl
          simp only [Nat.zero_add] at z0 z1 v0 o2
          have hS : (fun W' : World => W'.cell? ⟨gz, 0, none⟩ = some (.int .i64 x) ∧ W'.cell? ⟨gz, 1, none⟩ = some (.string (Tx.tx x)) ∧ W'.cell? ⟨gw, 0, none⟩ = some (.slice AK rows.length cK) ∧ W'.cell? ⟨gx, 2, none⟩ = some (.int .i64 o.n)) w97 := ⟨z0, z1, v0, o2⟩
          refine hK' _ _ (fun _ => hS) ?_
          clear hK' K'
          refine anyX_takeWL 38 (v := ?_) rfl rfl (by as_aux_lemma => kernel_rfl) (by as_aux_lemma => kernel_rfl) (by as_aux_lemma => kernel_rfl) (by as_aux_lemma => kernel_rfl) (by as_aux_lemma => kernel_rfl) (fun _ _ _ h => h) (by rfl) ?_ hS ?_
          rotate_left
          · intro W' hW'
            obtain ⟨s0, s1, s2, s3⟩ := hW'
            all_goals (go_simp; first | done | rfl)
          intro l' hl
          dsimp only [List.set_cons_succ, List.set_cons_zero] at hl
          subst hl
          refine anyX_takeNL 39 (v := ?_) rfl rfl (by as_aux_lemma => kernel_rfl) (by as_aux_lemma => kernel_rfl) (by as_aux_lemma => kernel_rfl) (by as_aux_lemma => kernel_rfl) (by as_aux_lemma => kernel_rfl) (fun _ _ _ h => h) rfl ?_ hS ?_
          rotate_left
          · intro W' hW'
            obtain ⟨s0, s1, s2, s3⟩ := hW'
            all_goals (go_simp; first | done | rfl)
          intro l' hl
          dsimp only [List.set_cons_succ, List.set_cons_zero] at hl
          subst hl
          refine anyX_takeNL 40 (v := ?_) rfl rfl (by as_aux_lemma => kernel_rfl) (by as_aux_lemma => kernel_rfl) (by as_aux_lemma => kernel_rfl) (by as_aux_lemma => kernel_rfl) (by as_aux_lemma => kernel_rfl) (fun _ _ _ h => h) rfl ?_ hS ?_
          rotate_left
          · intro W' hW'
            obtain ⟨s0, s1, s2, s3⟩ := hW'
            all_goals (go_simp; first | done | rfl)
          intro l' hl
          dsimp only [List.set_cons_succ, List.set_cons_zero] at hl
          subst hl
          refine anyX_takeWL 42 (v := ?_) rfl rfl (by as_aux_lemma => kernel_rfl) (by as_aux_lemma => kernel_rfl) (by as_aux_lemma => kernel_rfl) (by as_aux_lemma => kernel_rfl) (by as_aux_lemma => kernel_rfl) (fun _ _ _ h => h) (by rfl) ?_ hS ?_
          rotate_left
          · intro W' hW'
            obtain ⟨s0, s1, s2, s3⟩ := hW'
            all_goals (go_simp; first | done | rfl)
          intro l' hl
          dsimp only [List.set_cons_succ, List.set_cons_zero] at hl
          subst hl
          refine anyX_takeWL 43 (v := ?_) rfl rfl (by as_aux_lemma => kernel_rfl) (by as_aux_lemma => kernel_rfl) (by as_aux_lemma => kernel_rfl) (by as_aux_lemma => kernel_rfl) (by as_aux_lemma => kernel_rfl) (fun _ _ _ h => h) (by rfl) ?_ hS ?_
          rotate_left
          · intro W' hW'
            obtain ⟨s0, s1, s2, s3⟩ := hW'
            all_goals (go_simp; first | done | rfl)
          intro l' hl
          dsimp only [List.set_cons_succ, List.set_cons_zero] at hl
          subst hl
          refine anyX_takeWL 44 (v := ?_) rfl rfl (by as_aux_lemma => kernel_rfl) (by as_aux_lemma => kernel_rfl) (by as_aux_lemma => kernel_rfl) (by as_aux_lemma => kernel_rfl) (by as_aux_lemma => kernel_rfl) (fun _ _ _ h => h) (by rfl) ?_ hS ?_
          rotate_left
          · intro W' hW'
            obtain ⟨s0, s1, s2, s3⟩ := hW'
            all_goals (go_simp; first | done | rfl)
          intro l' hl
          dsimp only [List.set_cons_succ, List.set_cons_zero] at hl
          subst hl
          refine anyX_takeWL 45 (v := ?_) rfl rfl (by as_aux_lemma => kernel_rfl) (by as_aux_lemma => kernel_rfl) (by as_aux_lemma => kernel_rfl) (by as_aux_lemma => kernel_rfl) (by as_aux_lemma => kernel_rfl) (fun _ _ _ h => h) (by rfl) ?_ hS ?_
          rotate_left
          · intro W' hW'
            obtain ⟨s0, s1, s2, s3⟩ := hW'
            all_goals (go_simp; first | done | rfl)
          intro l' hl
          dsimp only [List.set_cons_succ, List.set_cons_zero] at hl
          subst hl
          refine anyX_takeWL 46 (v := ?_) rfl rfl (by as_aux_lemma => kernel_rfl) (by as_aux_lemma => kernel_rfl) (by as_aux_lemma => kernel_rfl) (by as_aux_lemma => kernel_rfl) (by as_aux_lemma => kernel_rfl) (fun _ _ _ h => h) (by rfl) ?_ hS ?_
          rotate_left
          · intro W' hW'
            obtain ⟨s0, s1, s2, s3⟩ := hW'
            all_goals (go_simp; first | done | rfl)
          intro l' hl
          dsimp only [List.set_cons_succ, List.set_cons_zero] at hl
          subst hl
          refine anyX_oneW (i := 41) (by kernel_rfl) rfl (by rfl) fun K' hK' => ?_
          unfold Oper.wp
          go_simp
          clear hS z0 z1 v0 o2
          have hlu := TXP.t_len w97 ow94 [1, 1] gu 0 (rows.map pr) hU
          rw [List.length_map] at hlu
          refine (hlu).mono ?_
          rintro e w98 ⟨rfl, kk, hw'⟩
          have nn : New w97 ow94 w98 ow94 := by rw [hw']; exact (New.refl _ _).drewN kk
          clear hw'
          replace hT := hT.new_ nn
          replace hU := hU.new_ nn
          replace hW := hW.new_ nn
          replace ho := ho.new_ nn
          replace hz := hz.new_ nn
          replace hcW := hcW.new_ nn
          replace t := t.trans (nn.turn [1])
          clear nn
          clear hlu
          have z0 := hz.get 0 rfl
          have z1 := hz.get 1 rfl
          have v0 := hcW.get 0 rfl
          have o2 := ho.get 2 rfl
          simp only [Nat.zero_add] at z0 z1 v0 o2
          have hS : (fun W' : World => W'.cell? ⟨gz, 0, none⟩ = some (.int .i64 x) ∧ W'.cell? ⟨gz, 1, none⟩ = some (.string (Tx.tx x)) ∧ W'.cell? ⟨gw, 0, none⟩ = some (.slice AK rows.length cK) ∧ W'.cell? ⟨gx, 2, none⟩ = some (.int .i64 o.n)) w98 := ⟨z0, z1, v0, o2⟩
          refine hK' _ _ (fun _ => hS) ?_
          clear hK' K'
          refine anyX_takeWL 47 (v := ?_) rfl rfl (by as_aux_lemma => kernel_rfl) (by as_aux_lemma => kernel_rfl) (by as_aux_lemma => kernel_rfl) (by as_aux_lemma => kernel_rfl) (by as_aux_lemma => kernel_rfl) (fun _ _ _ h => h) (by rfl) ?_ hS ?_
          rotate_left
          · intro W' hW'
            obtain ⟨s0, s1, s2, s3⟩ := hW'
            all_goals (go_simp; first | done | rfl)
          intro l' hl
          dsimp only [List.set_cons_succ, List.set_cons_zero] at hl
          subst hl
          refine anyX_takeNL 48 (v := ?_) rfl rfl (by as_aux_lemma => kernel_rfl) (by as_aux_lemma => kernel_rfl) (by as_aux_lemma => kernel_rfl) (by as_aux_lemma => kernel_rfl) (by as_aux_lemma => kernel_rfl) (fun _ _ _ h => h) rfl ?_ hS ?_
          rotate_left
          · intro W' hW'
            obtain ⟨s0, s1, s2, s3⟩ := hW'
            all_goals (go_simp; first | done | rfl)
          intro l' hl
          dsimp only [List.set_cons_succ, List.set_cons_zero] at hl
          subst hl
          refine anyX_takeNL 49 (v := ?_) rfl rfl (by as_aux_lemma => kernel_rfl) (by as_aux_lemma => kernel_rfl) (by as_aux_lemma => kernel_rfl) (by as_aux_lemma => kernel_rfl) (by as_aux_lemma => kernel_rfl) (fun _ _ _ h => h) rfl ?_ hS ?_
          rotate_left
          · intro W' hW'
            obtain ⟨s0, s1, s2, s3⟩ := hW'
            all_goals (go_simp; first | done | rfl)
          intro l' hl
          dsimp only [List.set_cons_succ, List.set_cons_zero] at hl
          subst hl
          refine anyX_takeWL 50 (v := ?_) rfl rfl (by as_aux_lemma => kernel_rfl) (by as_aux_lemma => kernel_rfl) (by as_aux_lemma => kernel_rfl) (by as_aux_lemma => kernel_rfl) (by as_aux_lemma => kernel_rfl) (fun _ _ _ h => h) (by rfl) ?_ hS ?_
          rotate_left
          · intro W' hW'
            obtain ⟨s0, s1, s2, s3⟩ := hW'
            all_goals (go_simp; first | done | rfl)
          intro l' hl
          dsimp only [List.set_cons_succ, List.set_cons_zero] at hl
          subst hl
          refine anyX_takeWL 51 (v := ?_) rfl rfl (by as_aux_lemma => kernel_rfl) (by as_aux_lemma => kernel_rfl) (by as_aux_lemma => kernel_rfl) (by as_aux_lemma => kernel_rfl) (by as_aux_lemma => kernel_rfl) (fun _ _ _ h => h) (by rfl) ?_ hS ?_
          rotate_left
          · intro W' hW'
            obtain ⟨s0, s1, s2, s3⟩ := hW'
            all_goals (go_simp; first | done | rfl)
          intro l' hl
          dsimp only [List.set_cons_succ, List.set_cons_zero] at hl
          subst hl
          refine anyX_takeWL 53 (v := ?_) rfl rfl (by as_aux_lemma => kernel_rfl) (by as_aux_lemma => kernel_rfl) (by as_aux_lemma => kernel_rfl) (by as_aux_lemma => kernel_rfl) (by as_aux_lemma => kernel_rfl) (fun _ _ _ h => h) (by rfl) ?_ hS ?_
          rotate_left
          · intro W' hW'
            obtain ⟨s0, s1, s2, s3⟩ := hW'
            all_goals (go_simp; first | done | rfl)
          intro l' hl
          dsimp only [List.set_cons_succ, List.set_cons_zero] at hl
          subst hl
          refine anyX_takeWL 54 (v := ?_) rfl rfl (by as_aux_lemma => kernel_rfl) (by as_aux_lemma => kernel_rfl) (by as_aux_lemma => kernel_rfl) (by as_aux_lemma => kernel_rfl) (by as_aux_lemma => kernel_rfl) (fun _ _ _ h => h) (by rfl) ?_ hS ?_
          rotate_left
          · intro W' hW'
            obtain ⟨s0, s1, s2, s3⟩ := hW'
            all_goals (go_simp; first | done | rfl)
          intro l' hl
          dsimp only [List.set_cons_succ, List.set_cons_zero] at hl
          subst hl
          refine anyX_takeWL 55 (v := ?_) rfl rfl (by as_aux_lemma => kernel_rfl) (by as_aux_lemma => kernel_rfl) (by as_aux_lemma => kernel_rfl) (by as_aux_lemma => kernel_rfl) (by as_aux_lemma => kernel_rfl) (fun _ _ _ h => h) (by rfl) ?_ hS ?_
          rotate_left
          · intro W' hW'
            obtain ⟨s0, s1, s2, s3⟩ := hW'
            all_goals (go_simp; first | done | rfl)
          intro l' hl
          dsimp only [List.set_cons_succ, List.set_cons_zero] at hl
          subst hl
          refine anyX_oneW (i := 52) (by kernel_rfl) rfl (by rfl) fun K' hK' => ?_
          unfold Oper.wp
          go_simp
          clear hS z0 z1 v0 o2
          refine (Hb1.out w98 ow94 [1, 0] w.heap.size 0 hT).mono ?_
          rintro e w99 ⟨rfl, bb⟩
          have nn := bb.nw ow94
          replace hT := hT.new_ nn
          replace hU := hU.new_ nn
          replace hW := hW.new_ nn
          replace ho := ho.new_ nn
          replace hz := hz.new_ nn
          replace hcW := hcW.new_ nn
          replace t := t.trans (nn.turn [1])
          clear nn
          clear bb
          have z0 := hz.get 0 rfl
          have z1 := hz.get 1 rfl
          have v0 := hcW.get 0 rfl
          have o2 := ho.get 2 rfl
          simp only [Nat.zero_add] at z0 z1 v0 o2
          have hS : (fun W' : World => W'.cell? ⟨gz, 0, none⟩ = some (.int .i64 x) ∧ W'.cell? ⟨gz, 1, none⟩ = some (.string (Tx.tx x)) ∧ W'.cell? ⟨gw, 0, none⟩ = some (.slice AK rows.length cK) ∧ W'.cell? ⟨gx, 2, none⟩ = some (.int .i64 o.n)) w99 := ⟨z0, z1, v0, o2⟩
          refine hK' _ _ (fun _ => hS) ?_
          clear hK' K'
          refine anyX_oneW (i := 56) (by kernel_rfl) rfl (by rfl) fun K' hK' => ?_
          unfold Oper.wp
          go_simp
          clear hS z0 z1 v0 o2
          refine (Hb2.out w99 ow94 [1, 2] gw hW).mono ?_
          rintro e w100 ⟨rfl, bb⟩
          have nn := bb.nw ow94
          replace hT := hT.new_ nn
          replace hU := hU.new_ nn
          replace hW := hW.new_ nn
          replace ho := ho.new_ nn
          replace hz := hz.new_ nn
          replace hcW := hcW.new_ nn
          replace t := t.trans (nn.turn [1])
          clear nn
          clear bb
          have z0 := hz.get 0 rfl
          have z1 := hz.get 1 rfl
          have v0 := hcW.get 0 rfl
          have o2 := ho.get 2 rfl
          simp only [Nat.zero_add] at z0 z1 v0 o2
          have hS : (fun W' : World => W'.cell? ⟨gz, 0, none⟩ = some (.int .i64 x) ∧ W'.cell? ⟨gz, 1, none⟩ = some (.string (Tx.tx x)) ∧ W'.cell? ⟨gw, 0, none⟩ = some (.slice AK rows.length cK) ∧ W'.cell? ⟨gx, 2, none⟩ = some (.int .i64 o.n)) w100 := ⟨z0, z1, v0, o2⟩
          refine hK' _ _ (fun _ => hS) ?_
          clear hK' K'
          refine anyX_takeWL 57 (v := ?_) rfl rfl (by as_aux_lemma => kernel_rfl) (by as_aux_lemma => kernel_rfl) (by as_aux_lemma => kernel_rfl) (by as_aux_lemma => kernel_rfl) (by as_aux_lemma => kernel_rfl) (fun _ _ _ h => h) (by rfl) ?_ hS ?_
          rotate_left
          · intro W' hW'
            obtain ⟨s0, s1, s2, s3⟩ := hW'
            all_goals (go_simp; first | done | rfl)
          intro l' hl
          dsimp only [List.set_cons_succ, List.set_cons_zero] at hl
          subst hl
          refine anyX_takeNL 58 (v := ?_) rfl rfl (by as_aux_lemma => kernel_rfl) (by as_aux_lemma => kernel_rfl) (by as_aux_lemma => kernel_rfl) (by as_aux_lemma => kernel_rfl) (by as_aux_lemma => kernel_rfl) (fun _ _ _ h => h) rfl ?_ hS ?_
          rotate_left
          · intro W' hW'
            obtain ⟨s0, s1, s2, s3⟩ := hW'
            all_goals (go_simp; first | done | rfl)
          intro l' hl
          dsimp only [List.set_cons_succ, List.set_cons_zero] at hl
          subst hl
          refine anyX_takeNL 59 (v := ?_) rfl rfl (by as_aux_lemma => kernel_rfl) (by as_aux_lemma => kernel_rfl) (by as_aux_lemma => kernel_rfl) (by as_aux_lemma => kernel_rfl) (by as_aux_lemma => kernel_rfl) (fun _ _ _ h => h) rfl ?_ hS ?_
          rotate_left
          · intro W' hW'
            obtain ⟨s0, s1, s2, s3⟩ := hW'
            all_goals (go_simp; first | done | rfl)
          intro l' hl
          dsimp only [List.set_cons_succ, List.set_cons_zero] at hl
          subst hl
          refine anyX_takeWL 60 (v := ?_) rfl rfl (by as_aux_lemma => kernel_rfl) (by as_aux_lemma => kernel_rfl) (by as_aux_lemma => kernel_rfl) (by as_aux_lemma => kernel_rfl) (by as_aux_lemma => kernel_rfl) (fun _ _ _ h => h) (by rfl) ?_ hS ?_
          rotate_left
          · intro W' hW'
            obtain ⟨s0, s1, s2, s3⟩ := hW'
            all_goals (go_simp; first | done | rfl)
          intro l' hl
          dsimp only [List.set_cons_succ, List.set_cons_zero] at hl
          subst hl
          refine anyX_takeWL 61 (v := ?_) rfl rfl (by as_aux_lemma => kernel_rfl) (by as_aux_lemma => kernel_rfl) (by as_aux_lemma => kernel_rfl) (by as_aux_lemma => kernel_rfl) (by as_aux_lemma => kernel_rfl) (fun _ _ _ h => h) (by rfl) ?_ hS ?_
          rotate_left
          · intro W' hW'
            obtain ⟨s0, s1, s2, s3⟩ := hW'
            all_goals (go_simp; first | done | rfl)
          intro l' hl
          dsimp only [List.set_cons_succ, List.set_cons_zero] at hl
          subst hl
          refine anyX_takeWL 64 (v := ?_) rfl rfl (by as_aux_lemma => kernel_rfl) (by as_aux_lemma => kernel_rfl) (by as_aux_lemma => kernel_rfl) (by as_aux_lemma => kernel_rfl) (by as_aux_lemma => kernel_rfl) (fun _ _ _ h => h) (by rfl) ?_ hS ?_
          rotate_left
          · intro W' hW'
            obtain ⟨s0, s1, s2, s3⟩ := hW'
            all_goals (go_simp; first | done | rfl)
          intro l' hl
          dsimp only [List.set_cons_succ, List.set_cons_zero] at hl
          subst hl
          refine anyX_takeWL 65 (v := ?_) rfl rfl (by as_aux_lemma => kernel_rfl) (by as_aux_lemma => kernel_rfl) (by as_aux_lemma => kernel_rfl) (by as_aux_lemma => kernel_rfl) (by as_aux_lemma => kernel_rfl) (fun _ _ _ h => h) (by rfl) ?_ hS ?_
          rotate_left
          · intro W' hW'
            obtain ⟨s0, s1, s2, s3⟩ := hW'
            all_goals (go_simp; first | done | rfl)
          intro l' hl
          dsimp only [List.set_cons_succ, List.set_cons_zero] at hl
          subst hl
          refine anyX_takeWL 66 (v := ?_) rfl rfl (by as_aux_lemma => kernel_rfl) (by as_aux_lemma => kernel_rfl) (by as_aux_lemma => kernel_rfl) (by as_aux_lemma => kernel_rfl) (by as_aux_lemma => kernel_rfl) (fun _ _ _ h => h) (by rfl) ?_ hS ?_
          rotate_left
          · intro W' hW'
            obtain ⟨s0, s1, s2, s3⟩ := hW'
            all_goals (go_simp; first | done | rfl)
          intro l' hl
          dsimp only [List.set_cons_succ, List.set_cons_zero] at hl
          subst hl
          refine anyX_oneW (i := 62) (by kernel_rfl) rfl (by rfl) fun K' hK' => ?_
          unfold Oper.wp
          go_simp
          clear hS z0 z1 v0 o2
          refine (Tx.text w100 o.n Hon.out).mono ?_
          rintro e w101 ⟨rfl, bb⟩
          have nn := bb.nw ow94
          replace hT := hT.new_ nn
          replace hU := hU.new_ nn
          replace hW := hW.new_ nn
          replace ho := ho.new_ nn
          replace hz := hz.new_ nn
          replace hcW := hcW.new_ nn
          replace t := t.trans (nn.turn [1])
          clear nn
          clear bb
          have z0 := hz.get 0 rfl
          have z1 := hz.get 1 rfl
          have v0 := hcW.get 0 rfl
          have o2 := ho.get 2 rfl
          simp only [Nat.zero_add] at z0 z1 v0 o2
          have hS : (fun W' : World => W'.cell? ⟨gz, 0, none⟩ = some (.int .i64 x) ∧ W'.cell? ⟨gz, 1, none⟩ = some (.string (Tx.tx x)) ∧ W'.cell? ⟨gw, 0, none⟩ = some (.slice AK rows.length cK) ∧ W'.cell? ⟨gx, 2, none⟩ = some (.int .i64 o.n)) w101 := ⟨z0, z1, v0, o2⟩
          refine hK' _ _ (fun _ => hS) ?_
          clear hK' K'
          refine anyX_oneW (i := 63) (by kernel_rfl) rfl (by rfl) fun K' hK' => ?_
          unfold Oper.wp
          go_simp
          clear hS z0 z1 v0 o2
          refine (Hb3.out w101 ow94 [1, 1] gu 0 hU).mono ?_
          rintro e w102 ⟨rfl, bb⟩
          have nn := bb.nw ow94
          replace hT := hT.new_ nn
          replace hU := hU.new_ nn
          replace hW := hW.new_ nn
          replace ho := ho.new_ nn
          replace hz := hz.new_ nn
          replace hcW := hcW.new_ nn
          replace t := t.trans (nn.turn [1])
          clear nn
          clear bb
          have z0 := hz.get 0 rfl
          have z1 := hz.get 1 rfl
          have v0 := hcW.get 0 rfl
          have o2 := ho.get 2 rfl
          simp only [Nat.zero_add] at z0 z1 v0 o2
          have hS : (fun W' : World => W'.cell? ⟨gz, 0, none⟩ = some (.int .i64 x) ∧ W'.cell? ⟨gz, 1, none⟩ = some (.string (Tx.tx x)) ∧ W'.cell? ⟨gw, 0, none⟩ = some (.slice AK rows.length cK) ∧ W'.cell? ⟨gx, 2, none⟩ = some (.int .i64 o.n)) w102 := ⟨z0, z1, v0, o2⟩
          refine hK' _ _ (fun _ => hS) ?_
          clear hK' K'
          refine anyX_oneW (i := 67) (by kernel_rfl) rfl (by rfl) fun K' hK' => ?_
          unfold Oper.wp
          go_simp
          clear hS z0 z1 v0 o2
          refine (Hb2.out w102 ow94 [1, 2] gw hW).mono ?_
          rintro e w103 ⟨rfl, bb⟩
          have nn := bb.nw ow94
          replace hT := hT.new_ nn
          replace hU := hU.new_ nn
          replace hW := hW.new_ nn
          replace ho := ho.new_ nn
          replace hz := hz.new_ nn
          replace hcW := hcW.new_ nn
          replace t := t.trans (nn.turn [1])
          clear nn
          clear bb
          have z0 := hz.get 0 rfl
          have z1 := hz.get 1 rfl
          have v0 := hcW.get 0 rfl
          have o2 := ho.get 2 rfl
          simp only [Nat.zero_add] at z0 z1 v0 o2
          have hS : (fun W' : World => W'.cell? ⟨gz, 0, none⟩ = some (.int .i64 x) ∧ W'.cell? ⟨gz, 1, none⟩ = some (.string (Tx.tx x)) ∧ W'.cell? ⟨gw, 0, none⟩ = some (.slice AK rows.length cK) ∧ W'.cell? ⟨gx, 2, none⟩ = some (.int .i64 o.n)) w103 := ⟨z0, z1, v0, o2⟩
          refine hK' _ _ (fun _ => hS) ?_
          clear hK' K'
          refine anyX_takeWL 68 (v := ?_) rfl rfl (by as_aux_lemma => kernel_rfl) (by as_aux_lemma => kernel_rfl) (by as_aux_lemma => kernel_rfl) (by as_aux_lemma => kernel_rfl) (by as_aux_lemma => kernel_rfl) (fun _ _ _ h => h) (by rfl) ?_ hS ?_
          rotate_left
          · intro W' hW'
            obtain ⟨s0, s1, s2, s3⟩ := hW'
            all_goals (go_simp; first | done | rfl)
          intro l' hl
          dsimp only [List.set_cons_succ, List.set_cons_zero] at hl
          subst hl
          refine anyX_takeNL 69 (v := ?_) rfl rfl (by as_aux_lemma => kernel_rfl) (by as_aux_lemma => kernel_rfl) (by as_aux_lemma => kernel_rfl) (by as_aux_lemma => kernel_rfl) (by as_aux_lemma => kernel_rfl) (fun _ _ _ h => h) rfl ?_ hS ?_
          rotate_left
          · intro W' hW'
            obtain ⟨s0, s1, s2, s3⟩ := hW'
            all_goals (go_simp; first | done | rfl)
          intro l' hl
          dsimp only [List.set_cons_succ, List.set_cons_zero] at hl
          subst hl
          refine anyX_done (by kernel_rfl) ?_ _
          refine NoPanic.normal ?_
          clear hS z0 z1 v0 o2
          go_wp2_with fail
          go_roundg (ys.length - (k + 1))
          case measure => have := Hgk.out; omega
          case rel => exact ⟨k + 1, ow94, rows, zs, rfl, by omega, by go_num, hzl, Hsm.out, hT, hU, hW, t⟩
    · obtain rfl : k = ys.length := by omega
      clear hlt Hgk
      go_wp2_with fail
      refine (TB.keysT wr OW [1, 0] [1, 1] [1, 2] w.heap.size gu gw rows zs Hsm.out (by omega) hT hU hW).mono ?_
      rintro e w91 ⟨rfl, bb⟩
      have fin := ((t.trans ((bb.nw OW).turn [1])).new_ ow0 [1]).below
      clear hT hU hW t bb
      go_wp2_with fail
      refine (runs w91).mono ?_
      rintro e w92 ⟨rfl, b5⟩
      have fin := fin.trans (b5.mono fin.size)
      go_wp2
      go_ret
      exact ⟨rfl, fin⟩

end SH
end Go.Proofs.Ytppikbdeopagkaa
