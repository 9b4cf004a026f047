/-
  CODE: the reader's next word.
-/
import Derived.Test.YtnehiooioodkfaaDoorK4
import Derived.Test.YtnehiooioodkfaaDoorMore
import Derived.Test.YtnehiooioodkfaaDoorCalc
import Derived.Deep.CutBlock
import Derived.Deep.CutRange
import Derived.Deep.DeepCutAuto
import Derived.LoopTactic
import Derived.Deep.LoopGhost
set_option linter.unusedVariables false
set_option linter.unusedSimpArgs false
namespace Go.Proofs.YtnehiooioodkfaaDoor
open Go Go.RowKit
namespace CD
/-- The reader's block. -/
def RB (w : World) (ow : Ow) (p : List Nat) (g : Nat) (s : ByteArray) (k : Nat) (vs : Value) (opn : Nat) : Prop := Cells w ow (p ++ [0]) g 0 [.string s, .int .i64 (k : Int), vs, .int .i64 (opn : Int)]
theorem isB_at {s : ByteArray} {k : Nat} (h : k < s.size) : isB s k = blankC (s[k].toNat : Int) := by unfold isB; rw [dif_pos h]
theorem isW_at {s : ByteArray} {k : Nat} (h : k < s.size) : isW s k = !blankC (s[k].toNat : Int) := by unfold isW; rw [dif_pos h]
theorem isB_end {s : ByteArray} {k : Nat} (h : ¬ k < s.size) : isB s k = false := by unfold isB; rw [dif_neg h]
theorem isW_end {s : ByteArray} {k : Nat} (h : ¬ k < s.size) : isW s k = false := by unfold isW; rw [dif_neg h]
theorem skip_eq (s : ByteArray) (p k : Nat) (h1 : p ≤ k) (h2 : k ≤ s.size) (ha : ∀ i, p ≤ i → i < k → isB s i = true) (he : isB s k = false) : skip s p = k := runF_eq _ _ _ _ h1 (by omega) ha he
theorem past_eq (s : ByteArray) (p k : Nat) (h1 : p ≤ k) (h2 : k ≤ s.size) (ha : ∀ i, p ≤ i → i < k → isW s i = true) (he : isW s k = false) : past s p = k := runF_eq _ _ _ _ h1 (by omega) ha he
/-- What the first loop keeps, and the second. -/
def wd1 (w : World) (ow : Ow) (p : List Nat) (g : Nat) (s : ByteArray) (p0 : Nat) (vs : Value) (opn : Nat) (gn : Nat) (wr : World) : Prop :=
  ∃ (k : Nat) (OW : Ow), gn = s.size - k ∧ p0 ≤ k ∧ k ≤ s.size ∧ (∀ i, p0 ≤ i → i < k → isB s i = true) ∧ RB wr OW p g s k vs opn ∧ Turn (p ++ [0]) w ow wr OW
def wd2 (w : World) (ow : Ow) (p : List Nat) (g : Nat) (s : ByteArray) (p0 : Nat) (vs : Value) (opn : Nat) (gn : Nat) (wr : World) : Prop :=
  ∃ (k : Nat) (OW : Ow), gn = s.size - k ∧ p0 ≤ k ∧ k ≤ s.size ∧ (∀ i, p0 ≤ i → i < k → isW s i = true) ∧ RB wr OW p g s k vs opn ∧ Turn (p ++ [0]) w ow wr OW
theorem all_next {f : Nat → Bool} {p0 k : Nat} (h : ∀ i, p0 ≤ i → i < k → f i = true) (hk : f k = true) : ∀ i, p0 ≤ i → i < k + 1 → f i = true := fun i h1 h2 => by
  by_cases e : i = k
  · subst e; exact hk
  · exact h i h1 (by omega)
/-- What word leaves. -/
def WordP (w : World) (ow : Ow) (p : List Nat) (g : Nat) (s : ByteArray) (p0 : Nat) (vs : Value) (opn : Nat) (e : Ending) (w' : World) : Prop :=
  ∃ OW, e = .returned (.tuple #[.string (s.extract (skip s p0) (past s (skip s p0))), .int .i64 (skip s p0 : Int)]) ∧ RB w' OW p g s (past s (skip s p0)) vs opn ∧ Turn (p ++ [0]) w ow w' OW
set_option maxRecDepth 100000 in
set_option maxHeartbeats 4000000 in
theorem word (w : World) (ow : Ow) (p : List Nat) (g : Nat) (s : ByteArray) (p0 : Nat) (vs : Value) (opn : Nat) (hs : s.size ≤ 1000000) (h0 : p0 ≤ s.size) (h : RB w ow p g s p0 vs opn) :
    Calls Tryd.prog 37 #[.pointer (some ⟨g, 0, none⟩)] w (WordP w ow p g s p0 vs opn) := by
  have hbl := blank
  have Hbl := Lib.hid hbl
  clear hbl
  go_enter Tryd.func37, Tryd.ntmps37
  go_wp2
  go_step3
  go_wp2
  apply wp_label
  go_upto_block 0 with fail
  go_cut [] from 5 to 32 (fun wx => ∃ OW, RB wx OW p g s (skip s p0) vs opn ∧ Turn (p ++ [0]) w ow wx OW ∧ p0 ≤ skip s p0 ∧ skip s p0 ≤ s.size)
  case first =>
    go_wp2
    go_loopg [] (s.size - p0) (fun gn wr => wd1 w ow p g s p0 vs opn gn wr)
    case atStart => exact ⟨p0, ow, rfl, Nat.le_refl _, h0, fun i _ _ => by omega, h, Turn.refl _ _ _⟩
    case round =>
      obtain ⟨k, OW, hgk, hk1, hk2, hall, hR, tt⟩ := hrel
      have Hgk := Lib.hid hgk
      have Hall := Lib.hid hall
      clear hgk hall
      have c0 := Cells.get hR 0 rfl
      have c1 := Cells.get hR 1 rfl
      have f1 := Cells.free hR 1
      simp only [Nat.zero_add] at c0 c1
      by_cases hlt : k < s.size
      · have i0 : (k : Int) < (s.size : Int) := by omega
        go_wp2_with fail
        go_region
        go_wp2_with fail
        replace hR : RB wr.drew OW p g s k vs opn := Cells.drew hR
        replace tt := tt.drew
        generalize wr.drew = wr at *
        clear c0 c1 f1
        have c0 := Cells.get hR 0 rfl
        have c1 := Cells.get hR 1 rfl
        have f1 := Cells.free hR 1
        simp only [Nat.zero_add] at c0 c1
        have hR2 : RB wr.drew OW p g s k vs opn := Cells.drew hR
        have tt2 := tt.drew
        clear hR tt
        refine plain_regionN (fun W' : World => W'.cell? ⟨g, 0, none⟩ = some (.string s) ∧ W'.cell? ⟨g, 1, none⟩ = some (.int .i64 (k : Int))) [] (by kernel_rfl) ?_
        have hS : (fun W' : World => W'.cell? ⟨g, 0, none⟩ = some (.string s) ∧ W'.cell? ⟨g, 1, none⟩ = some (.int .i64 (k : Int))) wr.drew := ⟨c0, c1⟩
        generalize wr.drew = wq at *
        cases hb : blankC (s[k].toNat : Int) with
        | true =>
          as_aux_lemma =>
          refine anyX_takeNL 0 (v := ?_) rfl rfl (by as_aux_lemma => kernel_rfl) (by as_aux_lemma => kernel_rfl) (by as_aux_lemma => kernel_rfl) (by as_aux_lemma => kernel_rfl) (by as_aux_lemma => kernel_rfl) (fun _ _ _ h => h) rfl ?_ hS ?_
          rotate_left
          · intro W' hW'
            obtain ⟨s0, s1⟩ := hW'
            all_goals (go_simp; first | done | rfl)
          intro l' hl
          dsimp only [List.set_cons_succ, List.set_cons_zero] at hl
          subst hl
          refine anyX_takeNL 1 (v := ?_) rfl rfl (by as_aux_lemma => kernel_rfl) (by as_aux_lemma => kernel_rfl) (by as_aux_lemma => kernel_rfl) (by as_aux_lemma => kernel_rfl) (by as_aux_lemma => kernel_rfl) (fun _ _ _ h => h) rfl ?_ hS ?_
          rotate_left
          · intro W' hW'
            obtain ⟨s0, s1⟩ := hW'
            all_goals (go_simp; first | done | rfl)
          intro l' hl
          dsimp only [List.set_cons_succ, List.set_cons_zero] at hl
          subst hl
          refine anyX_takeNL 2 (v := ?_) rfl rfl (by as_aux_lemma => kernel_rfl) (by as_aux_lemma => kernel_rfl) (by as_aux_lemma => kernel_rfl) (by as_aux_lemma => kernel_rfl) (by as_aux_lemma => kernel_rfl) (fun _ _ _ h => h) rfl ?_ hS ?_
          rotate_left
          · intro W' hW'
            obtain ⟨s0, s1⟩ := hW'
            all_goals (go_simp; first | done | rfl)
          intro l' hl
          dsimp only [List.set_cons_succ, List.set_cons_zero] at hl
          subst hl
          refine anyX_takeNL 3 (v := ?_) rfl rfl (by as_aux_lemma => kernel_rfl) (by as_aux_lemma => kernel_rfl) (by as_aux_lemma => kernel_rfl) (by as_aux_lemma => kernel_rfl) (by as_aux_lemma => kernel_rfl) (fun _ _ _ h => h) rfl ?_ hS ?_
          rotate_left
          · intro W' hW'
            obtain ⟨s0, s1⟩ := hW'
            all_goals (go_simp; first | done | rfl)
          intro l' hl
          dsimp only [List.set_cons_succ, List.set_cons_zero] at hl
          subst hl
          refine anyX_takeNL 4 (v := ?_) rfl rfl (by as_aux_lemma => kernel_rfl) (by as_aux_lemma => kernel_rfl) (by as_aux_lemma => kernel_rfl) (by as_aux_lemma => kernel_rfl) (by as_aux_lemma => kernel_rfl) (fun _ _ _ h => h) rfl ?_ hS ?_
          rotate_left
          · intro W' hW'
            obtain ⟨s0, s1⟩ := hW'
            all_goals (go_simp; first | done | rfl)
          intro l' hl
          dsimp only [List.set_cons_succ, List.set_cons_zero] at hl
          subst hl
          refine anyX_takeNL 5 (v := ?_) rfl rfl (by as_aux_lemma => kernel_rfl) (by as_aux_lemma => kernel_rfl) (by as_aux_lemma => kernel_rfl) (by as_aux_lemma => kernel_rfl) (by as_aux_lemma => kernel_rfl) (fun _ _ _ h => h) rfl ?_ hS ?_
          rotate_left
          · intro W' hW'
            obtain ⟨s0, s1⟩ := hW'
            all_goals (go_simp; first | done | rfl)
          intro l' hl
          dsimp only [List.set_cons_succ, List.set_cons_zero] at hl
          subst hl
          refine anyX_takeNL 6 (v := ?_) rfl rfl (by as_aux_lemma => kernel_rfl) (by as_aux_lemma => kernel_rfl) (by as_aux_lemma => kernel_rfl) (by as_aux_lemma => kernel_rfl) (by as_aux_lemma => kernel_rfl) (fun _ _ _ h => h) rfl ?_ hS ?_
          rotate_left
          · intro W' hW'
            obtain ⟨s0, s1⟩ := hW'
            all_goals (go_simp; first | done | rfl)
          intro l' hl
          dsimp only [List.set_cons_succ, List.set_cons_zero] at hl
          subst hl
          refine anyX_takeNL 7 (v := ?_) rfl rfl (by as_aux_lemma => kernel_rfl) (by as_aux_lemma => kernel_rfl) (by as_aux_lemma => kernel_rfl) (by as_aux_lemma => kernel_rfl) (by as_aux_lemma => kernel_rfl) (fun _ _ _ h => h) rfl ?_ hS ?_
          rotate_left
          · intro W' hW'
            obtain ⟨s0, s1⟩ := hW'
            all_goals (go_simp; first | done | rfl)
          intro l' hl
          dsimp only [List.set_cons_succ, List.set_cons_zero] at hl
          subst hl
          refine anyX_takeNL 8 (v := ?_) rfl rfl (by as_aux_lemma => kernel_rfl) (by as_aux_lemma => kernel_rfl) (by as_aux_lemma => kernel_rfl) (by as_aux_lemma => kernel_rfl) (by as_aux_lemma => kernel_rfl) (fun _ _ _ h => h) rfl ?_ hS ?_
          rotate_left
          · intro W' hW'
            obtain ⟨s0, s1⟩ := hW'
            all_goals (go_simp; first | done | rfl)
          intro l' hl
          dsimp only [List.set_cons_succ, List.set_cons_zero] at hl
          subst hl
          refine anyX_one (i := 9) (by kernel_rfl) rfl rfl fun K' hK' => ?_
          unfold Oper.wp
          go_simp
          refine (Hbl.out _ _).mono ?_
          rintro e w3 ⟨rfl, rfl⟩
          rw [hb]
          refine hK' _ _ (fun _ => hS) ?_
          clear hK' K'
          refine anyX_one (i := 10) (by kernel_rfl) rfl rfl fun K' hK' => ?_
          unfold Oper.wp
          go_simp
          refine hK' _ _ (fun _ => hS) (anyX_done (by kernel_rfl) ?_ _)
          refine NoPanic.normal ?_
          clear hK' K'
          have tk := hR2.turn 1 (.int .i64 ((k : Int) + 1)) (by simp)
          have hR1 := hR2.set 1 (.int .i64 ((k : Int) + 1)) (by simp)
          simp only [Nat.zero_add, List.set_cons_zero, List.set_cons_succ] at tk hR1
          have hst := all_next Hall.out (by rw [isB_at hlt, hb])
          have Hst := Lib.hid hst
          have HR := Lib.hid hR1
          have HT := Lib.hid (tt2.trans tk)
          have f1 := Cells.free hR2 1
          have c1 := Cells.get hR2 1 rfl
          simp only [Nat.zero_add] at c1
          have lg := Cells.lt hR2
          have hwr : IntKind.i64.wrap ((k : Int) + 1) = (k : Int) + 1 := by rw [IntKind.wrap_i64]; omega
          clear hst hR1 tk hR2 tt2 hS
          go_wp2
          go_roundg (s.size - (k + 1))
          case measure => have := Hgk.out; omega
          case rel => exact ⟨k + 1, OW, rfl, by omega, by omega, Hst.out, HR.out, HT.out⟩
        | false =>
          as_aux_lemma =>
          refine anyX_takeNL 0 (v := ?_) rfl rfl (by as_aux_lemma => kernel_rfl) (by as_aux_lemma => kernel_rfl) (by as_aux_lemma => kernel_rfl) (by as_aux_lemma => kernel_rfl) (by as_aux_lemma => kernel_rfl) (fun _ _ _ h => h) rfl ?_ hS ?_
          rotate_left
          · intro W' hW'
            obtain ⟨s0, s1⟩ := hW'
            all_goals (go_simp; first | done | rfl)
          intro l' hl
          dsimp only [List.set_cons_succ, List.set_cons_zero] at hl
          subst hl
          refine anyX_takeNL 1 (v := ?_) rfl rfl (by as_aux_lemma => kernel_rfl) (by as_aux_lemma => kernel_rfl) (by as_aux_lemma => kernel_rfl) (by as_aux_lemma => kernel_rfl) (by as_aux_lemma => kernel_rfl) (fun _ _ _ h => h) rfl ?_ hS ?_
          rotate_left
          · intro W' hW'
            obtain ⟨s0, s1⟩ := hW'
            all_goals (go_simp; first | done | rfl)
          intro l' hl
          dsimp only [List.set_cons_succ, List.set_cons_zero] at hl
          subst hl
          refine anyX_takeNL 2 (v := ?_) rfl rfl (by as_aux_lemma => kernel_rfl) (by as_aux_lemma => kernel_rfl) (by as_aux_lemma => kernel_rfl) (by as_aux_lemma => kernel_rfl) (by as_aux_lemma => kernel_rfl) (fun _ _ _ h => h) rfl ?_ hS ?_
          rotate_left
          · intro W' hW'
            obtain ⟨s0, s1⟩ := hW'
            all_goals (go_simp; first | done | rfl)
          intro l' hl
          dsimp only [List.set_cons_succ, List.set_cons_zero] at hl
          subst hl
          refine anyX_takeNL 3 (v := ?_) rfl rfl (by as_aux_lemma => kernel_rfl) (by as_aux_lemma => kernel_rfl) (by as_aux_lemma => kernel_rfl) (by as_aux_lemma => kernel_rfl) (by as_aux_lemma => kernel_rfl) (fun _ _ _ h => h) rfl ?_ hS ?_
          rotate_left
          · intro W' hW'
            obtain ⟨s0, s1⟩ := hW'
            all_goals (go_simp; first | done | rfl)
          intro l' hl
          dsimp only [List.set_cons_succ, List.set_cons_zero] at hl
          subst hl
          refine anyX_takeNL 4 (v := ?_) rfl rfl (by as_aux_lemma => kernel_rfl) (by as_aux_lemma => kernel_rfl) (by as_aux_lemma => kernel_rfl) (by as_aux_lemma => kernel_rfl) (by as_aux_lemma => kernel_rfl) (fun _ _ _ h => h) rfl ?_ hS ?_
          rotate_left
          · intro W' hW'
            obtain ⟨s0, s1⟩ := hW'
            all_goals (go_simp; first | done | rfl)
          intro l' hl
          dsimp only [List.set_cons_succ, List.set_cons_zero] at hl
          subst hl
          refine anyX_takeNL 5 (v := ?_) rfl rfl (by as_aux_lemma => kernel_rfl) (by as_aux_lemma => kernel_rfl) (by as_aux_lemma => kernel_rfl) (by as_aux_lemma => kernel_rfl) (by as_aux_lemma => kernel_rfl) (fun _ _ _ h => h) rfl ?_ hS ?_
          rotate_left
          · intro W' hW'
            obtain ⟨s0, s1⟩ := hW'
            all_goals (go_simp; first | done | rfl)
          intro l' hl
          dsimp only [List.set_cons_succ, List.set_cons_zero] at hl
          subst hl
          refine anyX_takeNL 6 (v := ?_) rfl rfl (by as_aux_lemma => kernel_rfl) (by as_aux_lemma => kernel_rfl) (by as_aux_lemma => kernel_rfl) (by as_aux_lemma => kernel_rfl) (by as_aux_lemma => kernel_rfl) (fun _ _ _ h => h) rfl ?_ hS ?_
          rotate_left
          · intro W' hW'
            obtain ⟨s0, s1⟩ := hW'
            all_goals (go_simp; first | done | rfl)
          intro l' hl
          dsimp only [List.set_cons_succ, List.set_cons_zero] at hl
          subst hl
          refine anyX_takeNL 7 (v := ?_) rfl rfl (by as_aux_lemma => kernel_rfl) (by as_aux_lemma => kernel_rfl) (by as_aux_lemma => kernel_rfl) (by as_aux_lemma => kernel_rfl) (by as_aux_lemma => kernel_rfl) (fun _ _ _ h => h) rfl ?_ hS ?_
          rotate_left
          · intro W' hW'
            obtain ⟨s0, s1⟩ := hW'
            all_goals (go_simp; first | done | rfl)
          intro l' hl
          dsimp only [List.set_cons_succ, List.set_cons_zero] at hl
          subst hl
          refine anyX_takeNL 8 (v := ?_) rfl rfl (by as_aux_lemma => kernel_rfl) (by as_aux_lemma => kernel_rfl) (by as_aux_lemma => kernel_rfl) (by as_aux_lemma => kernel_rfl) (by as_aux_lemma => kernel_rfl) (fun _ _ _ h => h) rfl ?_ hS ?_
          rotate_left
          · intro W' hW'
            obtain ⟨s0, s1⟩ := hW'
            all_goals (go_simp; first | done | rfl)
          intro l' hl
          dsimp only [List.set_cons_succ, List.set_cons_zero] at hl
          subst hl
          refine anyX_one (i := 9) (by kernel_rfl) rfl rfl fun K' hK' => ?_
          unfold Oper.wp
          go_simp
          refine (Hbl.out _ _).mono ?_
          rintro e w3 ⟨rfl, rfl⟩
          rw [hb]
          refine hK' _ _ (fun _ => hS) ?_
          clear hK' K'
          refine anyX_one (i := 10) (by kernel_rfl) rfl rfl fun K' hK' => ?_
          unfold Oper.wp
          go_simp
          refine hK' _ _ (fun _ => hS) (anyX_done (by kernel_rfl) ?_ _)
          refine NoPanic.normal ?_
          clear hK' K'
          have e1 : skip s p0 = k := skip_eq s p0 k hk1 hk2 Hall.out (by rw [isB_at hlt, hb])
          have HR := Lib.hid hR2
          have HT := Lib.hid tt2
          clear hR2 tt2 hS
          go_wp2
          go_meet
          exact ⟨OW, by rw [e1]; exact HR.out, HT.out, by omega, by omega⟩
      · obtain rfl : k = s.size := by omega
        have e1 : skip s p0 = s.size := skip_eq s p0 s.size hk1 hk2 Hall.out (isB_end hlt)
        have HR := Lib.hid hR
        have HT := Lib.hid tt
        clear hR tt
        go_wp2_with fail
        go_region
        go_wp2
        go_meet
        exact ⟨OW, by rw [e1]; exact Cells.drew HR.out, HT.out.drew, by omega, by omega⟩
  case rest =>
    obtain ⟨OW0, hR0, tt0, hp1, hp2⟩ := hcut
    have c1 := Cells.get hR0 1 rfl
    simp only [Nat.zero_add] at c1
    go_wp2
    go_loopg [] (s.size - skip s p0) (fun gn wr => wd2 w ow p g s (skip s p0) vs opn gn wr)
    case atStart => exact ⟨skip s p0, OW0, rfl, Nat.le_refl _, hp2, fun i _ _ => by omega, hR0, tt0⟩
    case round =>
      clear c1 hR0 tt0
      obtain ⟨k, OW, hgk, hk1, hk2, hall, hR, tt⟩ := hrel
      have Hgk := Lib.hid hgk
      have Hall := Lib.hid hall
      clear hgk hall
      have c0 := Cells.get hR 0 rfl
      have c1 := Cells.get hR 1 rfl
      have f1 := Cells.free hR 1
      simp only [Nat.zero_add] at c0 c1
      by_cases hlt : k < s.size
      · have i0 : (k : Int) < (s.size : Int) := by omega
        go_wp2_with fail
        have hR2 : RB wr.drew OW p g s k vs opn := Cells.drew hR
        have tt2 := tt.drew
        clear hR tt
        refine plain_regionN (fun W' : World => W'.cell? ⟨g, 0, none⟩ = some (.string s) ∧ W'.cell? ⟨g, 1, none⟩ = some (.int .i64 (k : Int))) [] (by kernel_rfl) ?_
        have hS : (fun W' : World => W'.cell? ⟨g, 0, none⟩ = some (.string s) ∧ W'.cell? ⟨g, 1, none⟩ = some (.int .i64 (k : Int))) wr.drew := ⟨c0, c1⟩
        generalize wr.drew = wq at *
        cases hb : blankC (s[k].toNat : Int) with
        | false =>
          as_aux_lemma =>
          refine anyX_takeNL 0 (v := ?_) rfl rfl (by as_aux_lemma => kernel_rfl) (by as_aux_lemma => kernel_rfl) (by as_aux_lemma => kernel_rfl) (by as_aux_lemma => kernel_rfl) (by as_aux_lemma => kernel_rfl) (fun _ _ _ h => h) rfl ?_ hS ?_
          rotate_left
          · intro W' hW'
            obtain ⟨s0, s1⟩ := hW'
            all_goals (go_simp; first | done | rfl)
          intro l' hl
          dsimp only [List.set_cons_succ, List.set_cons_zero] at hl
          subst hl
          refine anyX_takeNL 1 (v := ?_) rfl rfl (by as_aux_lemma => kernel_rfl) (by as_aux_lemma => kernel_rfl) (by as_aux_lemma => kernel_rfl) (by as_aux_lemma => kernel_rfl) (by as_aux_lemma => kernel_rfl) (fun _ _ _ h => h) rfl ?_ hS ?_
          rotate_left
          · intro W' hW'
            obtain ⟨s0, s1⟩ := hW'
            all_goals (go_simp; first | done | rfl)
          intro l' hl
          dsimp only [List.set_cons_succ, List.set_cons_zero] at hl
          subst hl
          refine anyX_takeNL 2 (v := ?_) rfl rfl (by as_aux_lemma => kernel_rfl) (by as_aux_lemma => kernel_rfl) (by as_aux_lemma => kernel_rfl) (by as_aux_lemma => kernel_rfl) (by as_aux_lemma => kernel_rfl) (fun _ _ _ h => h) rfl ?_ hS ?_
          rotate_left
          · intro W' hW'
            obtain ⟨s0, s1⟩ := hW'
            all_goals (go_simp; first | done | rfl)
          intro l' hl
          dsimp only [List.set_cons_succ, List.set_cons_zero] at hl
          subst hl
          refine anyX_takeNL 3 (v := ?_) rfl rfl (by as_aux_lemma => kernel_rfl) (by as_aux_lemma => kernel_rfl) (by as_aux_lemma => kernel_rfl) (by as_aux_lemma => kernel_rfl) (by as_aux_lemma => kernel_rfl) (fun _ _ _ h => h) rfl ?_ hS ?_
          rotate_left
          · intro W' hW'
            obtain ⟨s0, s1⟩ := hW'
            all_goals (go_simp; first | done | rfl)
          intro l' hl
          dsimp only [List.set_cons_succ, List.set_cons_zero] at hl
          subst hl
          refine anyX_takeNL 4 (v := ?_) rfl rfl (by as_aux_lemma => kernel_rfl) (by as_aux_lemma => kernel_rfl) (by as_aux_lemma => kernel_rfl) (by as_aux_lemma => kernel_rfl) (by as_aux_lemma => kernel_rfl) (fun _ _ _ h => h) rfl ?_ hS ?_
          rotate_left
          · intro W' hW'
            obtain ⟨s0, s1⟩ := hW'
            all_goals (go_simp; first | done | rfl)
          intro l' hl
          dsimp only [List.set_cons_succ, List.set_cons_zero] at hl
          subst hl
          refine anyX_takeNL 5 (v := ?_) rfl rfl (by as_aux_lemma => kernel_rfl) (by as_aux_lemma => kernel_rfl) (by as_aux_lemma => kernel_rfl) (by as_aux_lemma => kernel_rfl) (by as_aux_lemma => kernel_rfl) (fun _ _ _ h => h) rfl ?_ hS ?_
          rotate_left
          · intro W' hW'
            obtain ⟨s0, s1⟩ := hW'
            all_goals (go_simp; first | done | rfl)
          intro l' hl
          dsimp only [List.set_cons_succ, List.set_cons_zero] at hl
          subst hl
          refine anyX_takeNL 6 (v := ?_) rfl rfl (by as_aux_lemma => kernel_rfl) (by as_aux_lemma => kernel_rfl) (by as_aux_lemma => kernel_rfl) (by as_aux_lemma => kernel_rfl) (by as_aux_lemma => kernel_rfl) (fun _ _ _ h => h) rfl ?_ hS ?_
          rotate_left
          · intro W' hW'
            obtain ⟨s0, s1⟩ := hW'
            all_goals (go_simp; first | done | rfl)
          intro l' hl
          dsimp only [List.set_cons_succ, List.set_cons_zero] at hl
          subst hl
          refine anyX_takeNL 7 (v := ?_) rfl rfl (by as_aux_lemma => kernel_rfl) (by as_aux_lemma => kernel_rfl) (by as_aux_lemma => kernel_rfl) (by as_aux_lemma => kernel_rfl) (by as_aux_lemma => kernel_rfl) (fun _ _ _ h => h) rfl ?_ hS ?_
          rotate_left
          · intro W' hW'
            obtain ⟨s0, s1⟩ := hW'
            all_goals (go_simp; first | done | rfl)
          intro l' hl
          dsimp only [List.set_cons_succ, List.set_cons_zero] at hl
          subst hl
          refine anyX_takeNL 8 (v := ?_) rfl rfl (by as_aux_lemma => kernel_rfl) (by as_aux_lemma => kernel_rfl) (by as_aux_lemma => kernel_rfl) (by as_aux_lemma => kernel_rfl) (by as_aux_lemma => kernel_rfl) (fun _ _ _ h => h) rfl ?_ hS ?_
          rotate_left
          · intro W' hW'
            obtain ⟨s0, s1⟩ := hW'
            all_goals (go_simp; first | done | rfl)
          intro l' hl
          dsimp only [List.set_cons_succ, List.set_cons_zero] at hl
          subst hl
          refine anyX_takeNL 9 (v := ?_) rfl rfl (by as_aux_lemma => kernel_rfl) (by as_aux_lemma => kernel_rfl) (by as_aux_lemma => kernel_rfl) (by as_aux_lemma => kernel_rfl) (by as_aux_lemma => kernel_rfl) (fun _ _ _ h => h) rfl ?_ hS ?_
          rotate_left
          · intro W' hW'
            obtain ⟨s0, s1⟩ := hW'
            all_goals (go_simp; first | done | rfl)
          intro l' hl
          dsimp only [List.set_cons_succ, List.set_cons_zero] at hl
          subst hl
          refine anyX_takeNL 10 (v := ?_) rfl rfl (by as_aux_lemma => kernel_rfl) (by as_aux_lemma => kernel_rfl) (by as_aux_lemma => kernel_rfl) (by as_aux_lemma => kernel_rfl) (by as_aux_lemma => kernel_rfl) (fun _ _ _ h => h) rfl ?_ hS ?_
          rotate_left
          · intro W' hW'
            obtain ⟨s0, s1⟩ := hW'
            all_goals (go_simp; first | done | rfl)
          intro l' hl
          dsimp only [List.set_cons_succ, List.set_cons_zero] at hl
          subst hl
          refine anyX_takeWL 11 (v := ?_) rfl rfl (by as_aux_lemma => kernel_rfl) (by as_aux_lemma => kernel_rfl) (by as_aux_lemma => kernel_rfl) (by as_aux_lemma => kernel_rfl) (by as_aux_lemma => kernel_rfl) (fun _ _ _ h => h) (by rfl) ?_ hS ?_
          rotate_left
          · intro W' hW'
            obtain ⟨s0, s1⟩ := hW'
            all_goals (go_simp; first | done | rfl)
          intro l' hl
          dsimp only [List.set_cons_succ, List.set_cons_zero] at hl
          subst hl
          refine anyX_takeWL 12 (v := ?_) rfl rfl (by as_aux_lemma => kernel_rfl) (by as_aux_lemma => kernel_rfl) (by as_aux_lemma => kernel_rfl) (by as_aux_lemma => kernel_rfl) (by as_aux_lemma => kernel_rfl) (fun _ _ _ h => h) (by rfl) ?_ hS ?_
          rotate_left
          · intro W' hW'
            obtain ⟨s0, s1⟩ := hW'
            all_goals (go_simp; first | done | rfl)
          intro l' hl
          dsimp only [List.set_cons_succ, List.set_cons_zero] at hl
          subst hl
          refine anyX_takeWL 13 (v := ?_) rfl rfl (by as_aux_lemma => kernel_rfl) (by as_aux_lemma => kernel_rfl) (by as_aux_lemma => kernel_rfl) (by as_aux_lemma => kernel_rfl) (by as_aux_lemma => kernel_rfl) (fun _ _ _ h => h) (by rfl) ?_ hS ?_
          rotate_left
          · intro W' hW'
            obtain ⟨s0, s1⟩ := hW'
            all_goals (go_simp; first | done | rfl)
          intro l' hl
          dsimp only [List.set_cons_succ, List.set_cons_zero] at hl
          subst hl
          refine anyX_takeWL 14 (v := ?_) rfl rfl (by as_aux_lemma => kernel_rfl) (by as_aux_lemma => kernel_rfl) (by as_aux_lemma => kernel_rfl) (by as_aux_lemma => kernel_rfl) (by as_aux_lemma => kernel_rfl) (fun _ _ _ h => h) (by rfl) ?_ hS ?_
          rotate_left
          · intro W' hW'
            obtain ⟨s0, s1⟩ := hW'
            all_goals (go_simp; first | done | rfl)
          intro l' hl
          dsimp only [List.set_cons_succ, List.set_cons_zero] at hl
          subst hl
          refine anyX_takeWL 15 (v := ?_) rfl rfl (by as_aux_lemma => kernel_rfl) (by as_aux_lemma => kernel_rfl) (by as_aux_lemma => kernel_rfl) (by as_aux_lemma => kernel_rfl) (by as_aux_lemma => kernel_rfl) (fun _ _ _ h => h) (by rfl) ?_ hS ?_
          rotate_left
          · intro W' hW'
            obtain ⟨s0, s1⟩ := hW'
            all_goals (go_simp; first | done | rfl)
          intro l' hl
          dsimp only [List.set_cons_succ, List.set_cons_zero] at hl
          subst hl
          refine anyX_takeWL 16 (v := ?_) rfl rfl (by as_aux_lemma => kernel_rfl) (by as_aux_lemma => kernel_rfl) (by as_aux_lemma => kernel_rfl) (by as_aux_lemma => kernel_rfl) (by as_aux_lemma => kernel_rfl) (fun _ _ _ h => h) (by rfl) ?_ hS ?_
          rotate_left
          · intro W' hW'
            obtain ⟨s0, s1⟩ := hW'
            all_goals (go_simp; first | done | rfl)
          intro l' hl
          dsimp only [List.set_cons_succ, List.set_cons_zero] at hl
          subst hl
          refine anyX_takeWL 17 (v := ?_) rfl rfl (by as_aux_lemma => kernel_rfl) (by as_aux_lemma => kernel_rfl) (by as_aux_lemma => kernel_rfl) (by as_aux_lemma => kernel_rfl) (by as_aux_lemma => kernel_rfl) (fun _ _ _ h => h) (by rfl) ?_ hS ?_
          rotate_left
          · intro W' hW'
            obtain ⟨s0, s1⟩ := hW'
            all_goals (go_simp; first | done | rfl)
          intro l' hl
          dsimp only [List.set_cons_succ, List.set_cons_zero] at hl
          subst hl
          refine anyX_takeWL 18 (v := ?_) rfl rfl (by as_aux_lemma => kernel_rfl) (by as_aux_lemma => kernel_rfl) (by as_aux_lemma => kernel_rfl) (by as_aux_lemma => kernel_rfl) (by as_aux_lemma => kernel_rfl) (fun _ _ _ h => h) (by rfl) ?_ hS ?_
          rotate_left
          · intro W' hW'
            obtain ⟨s0, s1⟩ := hW'
            all_goals (go_simp; first | done | rfl)
          intro l' hl
          dsimp only [List.set_cons_succ, List.set_cons_zero] at hl
          subst hl
          refine anyX_takeWL 19 (v := ?_) rfl rfl (by as_aux_lemma => kernel_rfl) (by as_aux_lemma => kernel_rfl) (by as_aux_lemma => kernel_rfl) (by as_aux_lemma => kernel_rfl) (by as_aux_lemma => kernel_rfl) (fun _ _ _ h => h) (by rfl) ?_ hS ?_
          rotate_left
          · intro W' hW'
            obtain ⟨s0, s1⟩ := hW'
            all_goals (go_simp; first | done | rfl)
          intro l' hl
          dsimp only [List.set_cons_succ, List.set_cons_zero] at hl
          subst hl
          refine anyX_oneW (i := 20) (by kernel_rfl) rfl (by rfl) fun K' hK' => ?_
          unfold Oper.wp
          go_simp
          refine (Hbl.out _ _).mono ?_
          rintro e w3 ⟨rfl, rfl⟩
          rw [hb]
          refine hK' _ _ (fun _ => hS) ?_
          clear hK' K'
          refine anyX_takeWL 21 (v := ?_) rfl rfl (by as_aux_lemma => kernel_rfl) (by as_aux_lemma => kernel_rfl) (by as_aux_lemma => kernel_rfl) (by as_aux_lemma => kernel_rfl) (by as_aux_lemma => kernel_rfl) (fun _ _ _ h => h) (by rfl) ?_ hS ?_
          rotate_left
          · intro W' hW'
            obtain ⟨s0, s1⟩ := hW'
            all_goals (go_simp; first | done | rfl)
          intro l' hl
          dsimp only [List.set_cons_succ, List.set_cons_zero] at hl
          subst hl
          refine anyX_takeNL 22 (v := ?_) rfl rfl (by as_aux_lemma => kernel_rfl) (by as_aux_lemma => kernel_rfl) (by as_aux_lemma => kernel_rfl) (by as_aux_lemma => kernel_rfl) (by as_aux_lemma => kernel_rfl) (fun _ _ _ h => h) rfl ?_ hS ?_
          rotate_left
          · intro W' hW'
            obtain ⟨s0, s1⟩ := hW'
            all_goals (go_simp; first | done | rfl)
          intro l' hl
          dsimp only [List.set_cons_succ, List.set_cons_zero] at hl
          subst hl
          refine anyX_done (by kernel_rfl) ?_ _
          refine NoPanic.normal ?_
          have tk := hR2.turn 1 (.int .i64 ((k : Int) + 1)) (by simp)
          have hR1 := hR2.set 1 (.int .i64 ((k : Int) + 1)) (by simp)
          simp only [Nat.zero_add, List.set_cons_zero, List.set_cons_succ] at tk hR1
          have hst := all_next Hall.out (by rw [isW_at hlt, hb]; rfl)
          have Hst := Lib.hid hst
          have HR := Lib.hid hR1
          have HT := Lib.hid (tt2.trans tk)
          have f1 := Cells.free hR2 1
          have c1 := Cells.get hR2 1 rfl
          simp only [Nat.zero_add] at c1
          have lg := Cells.lt hR2
          have hwr : IntKind.i64.wrap ((k : Int) + 1) = (k : Int) + 1 := by rw [IntKind.wrap_i64]; omega
          clear hst hR1 tk hR2 tt2 hS
          go_wp2
          go_roundg (s.size - (k + 1))
          case measure => have := Hgk.out; omega
          case rel => exact ⟨k + 1, OW, rfl, by omega, by omega, Hst.out, HR.out, HT.out⟩
        | true =>
          as_aux_lemma =>
          refine anyX_takeNL 0 (v := ?_) rfl rfl (by as_aux_lemma => kernel_rfl) (by as_aux_lemma => kernel_rfl) (by as_aux_lemma => kernel_rfl) (by as_aux_lemma => kernel_rfl) (by as_aux_lemma => kernel_rfl) (fun _ _ _ h => h) rfl ?_ hS ?_
          rotate_left
          · intro W' hW'
            obtain ⟨s0, s1⟩ := hW'
            all_goals (go_simp; first | done | rfl)
          intro l' hl
          dsimp only [List.set_cons_succ, List.set_cons_zero] at hl
          subst hl
          refine anyX_takeNL 1 (v := ?_) rfl rfl (by as_aux_lemma => kernel_rfl) (by as_aux_lemma => kernel_rfl) (by as_aux_lemma => kernel_rfl) (by as_aux_lemma => kernel_rfl) (by as_aux_lemma => kernel_rfl) (fun _ _ _ h => h) rfl ?_ hS ?_
          rotate_left
          · intro W' hW'
            obtain ⟨s0, s1⟩ := hW'
            all_goals (go_simp; first | done | rfl)
          intro l' hl
          dsimp only [List.set_cons_succ, List.set_cons_zero] at hl
          subst hl
          refine anyX_takeNL 2 (v := ?_) rfl rfl (by as_aux_lemma => kernel_rfl) (by as_aux_lemma => kernel_rfl) (by as_aux_lemma => kernel_rfl) (by as_aux_lemma => kernel_rfl) (by as_aux_lemma => kernel_rfl) (fun _ _ _ h => h) rfl ?_ hS ?_
          rotate_left
          · intro W' hW'
            obtain ⟨s0, s1⟩ := hW'
            all_goals (go_simp; first | done | rfl)
          intro l' hl
          dsimp only [List.set_cons_succ, List.set_cons_zero] at hl
          subst hl
          refine anyX_takeNL 3 (v := ?_) rfl rfl (by as_aux_lemma => kernel_rfl) (by as_aux_lemma => kernel_rfl) (by as_aux_lemma => kernel_rfl) (by as_aux_lemma => kernel_rfl) (by as_aux_lemma => kernel_rfl) (fun _ _ _ h => h) rfl ?_ hS ?_
          rotate_left
          · intro W' hW'
            obtain ⟨s0, s1⟩ := hW'
            all_goals (go_simp; first | done | rfl)
          intro l' hl
          dsimp only [List.set_cons_succ, List.set_cons_zero] at hl
          subst hl
          refine anyX_takeNL 4 (v := ?_) rfl rfl (by as_aux_lemma => kernel_rfl) (by as_aux_lemma => kernel_rfl) (by as_aux_lemma => kernel_rfl) (by as_aux_lemma => kernel_rfl) (by as_aux_lemma => kernel_rfl) (fun _ _ _ h => h) rfl ?_ hS ?_
          rotate_left
          · intro W' hW'
            obtain ⟨s0, s1⟩ := hW'
            all_goals (go_simp; first | done | rfl)
          intro l' hl
          dsimp only [List.set_cons_succ, List.set_cons_zero] at hl
          subst hl
          refine anyX_takeNL 5 (v := ?_) rfl rfl (by as_aux_lemma => kernel_rfl) (by as_aux_lemma => kernel_rfl) (by as_aux_lemma => kernel_rfl) (by as_aux_lemma => kernel_rfl) (by as_aux_lemma => kernel_rfl) (fun _ _ _ h => h) rfl ?_ hS ?_
          rotate_left
          · intro W' hW'
            obtain ⟨s0, s1⟩ := hW'
            all_goals (go_simp; first | done | rfl)
          intro l' hl
          dsimp only [List.set_cons_succ, List.set_cons_zero] at hl
          subst hl
          refine anyX_takeNL 6 (v := ?_) rfl rfl (by as_aux_lemma => kernel_rfl) (by as_aux_lemma => kernel_rfl) (by as_aux_lemma => kernel_rfl) (by as_aux_lemma => kernel_rfl) (by as_aux_lemma => kernel_rfl) (fun _ _ _ h => h) rfl ?_ hS ?_
          rotate_left
          · intro W' hW'
            obtain ⟨s0, s1⟩ := hW'
            all_goals (go_simp; first | done | rfl)
          intro l' hl
          dsimp only [List.set_cons_succ, List.set_cons_zero] at hl
          subst hl
          refine anyX_takeNL 7 (v := ?_) rfl rfl (by as_aux_lemma => kernel_rfl) (by as_aux_lemma => kernel_rfl) (by as_aux_lemma => kernel_rfl) (by as_aux_lemma => kernel_rfl) (by as_aux_lemma => kernel_rfl) (fun _ _ _ h => h) rfl ?_ hS ?_
          rotate_left
          · intro W' hW'
            obtain ⟨s0, s1⟩ := hW'
            all_goals (go_simp; first | done | rfl)
          intro l' hl
          dsimp only [List.set_cons_succ, List.set_cons_zero] at hl
          subst hl
          refine anyX_takeNL 8 (v := ?_) rfl rfl (by as_aux_lemma => kernel_rfl) (by as_aux_lemma => kernel_rfl) (by as_aux_lemma => kernel_rfl) (by as_aux_lemma => kernel_rfl) (by as_aux_lemma => kernel_rfl) (fun _ _ _ h => h) rfl ?_ hS ?_
          rotate_left
          · intro W' hW'
            obtain ⟨s0, s1⟩ := hW'
            all_goals (go_simp; first | done | rfl)
          intro l' hl
          dsimp only [List.set_cons_succ, List.set_cons_zero] at hl
          subst hl
          refine anyX_takeNL 9 (v := ?_) rfl rfl (by as_aux_lemma => kernel_rfl) (by as_aux_lemma => kernel_rfl) (by as_aux_lemma => kernel_rfl) (by as_aux_lemma => kernel_rfl) (by as_aux_lemma => kernel_rfl) (fun _ _ _ h => h) rfl ?_ hS ?_
          rotate_left
          · intro W' hW'
            obtain ⟨s0, s1⟩ := hW'
            all_goals (go_simp; first | done | rfl)
          intro l' hl
          dsimp only [List.set_cons_succ, List.set_cons_zero] at hl
          subst hl
          refine anyX_takeNL 10 (v := ?_) rfl rfl (by as_aux_lemma => kernel_rfl) (by as_aux_lemma => kernel_rfl) (by as_aux_lemma => kernel_rfl) (by as_aux_lemma => kernel_rfl) (by as_aux_lemma => kernel_rfl) (fun _ _ _ h => h) rfl ?_ hS ?_
          rotate_left
          · intro W' hW'
            obtain ⟨s0, s1⟩ := hW'
            all_goals (go_simp; first | done | rfl)
          intro l' hl
          dsimp only [List.set_cons_succ, List.set_cons_zero] at hl
          subst hl
          refine anyX_takeWL 11 (v := ?_) rfl rfl (by as_aux_lemma => kernel_rfl) (by as_aux_lemma => kernel_rfl) (by as_aux_lemma => kernel_rfl) (by as_aux_lemma => kernel_rfl) (by as_aux_lemma => kernel_rfl) (fun _ _ _ h => h) (by rfl) ?_ hS ?_
          rotate_left
          · intro W' hW'
            obtain ⟨s0, s1⟩ := hW'
            all_goals (go_simp; first | done | rfl)
          intro l' hl
          dsimp only [List.set_cons_succ, List.set_cons_zero] at hl
          subst hl
          refine anyX_takeWL 12 (v := ?_) rfl rfl (by as_aux_lemma => kernel_rfl) (by as_aux_lemma => kernel_rfl) (by as_aux_lemma => kernel_rfl) (by as_aux_lemma => kernel_rfl) (by as_aux_lemma => kernel_rfl) (fun _ _ _ h => h) (by rfl) ?_ hS ?_
          rotate_left
          · intro W' hW'
            obtain ⟨s0, s1⟩ := hW'
            all_goals (go_simp; first | done | rfl)
          intro l' hl
          dsimp only [List.set_cons_succ, List.set_cons_zero] at hl
          subst hl
          refine anyX_takeWL 13 (v := ?_) rfl rfl (by as_aux_lemma => kernel_rfl) (by as_aux_lemma => kernel_rfl) (by as_aux_lemma => kernel_rfl) (by as_aux_lemma => kernel_rfl) (by as_aux_lemma => kernel_rfl) (fun _ _ _ h => h) (by rfl) ?_ hS ?_
          rotate_left
          · intro W' hW'
            obtain ⟨s0, s1⟩ := hW'
            all_goals (go_simp; first | done | rfl)
          intro l' hl
          dsimp only [List.set_cons_succ, List.set_cons_zero] at hl
          subst hl
          refine anyX_takeWL 14 (v := ?_) rfl rfl (by as_aux_lemma => kernel_rfl) (by as_aux_lemma => kernel_rfl) (by as_aux_lemma => kernel_rfl) (by as_aux_lemma => kernel_rfl) (by as_aux_lemma => kernel_rfl) (fun _ _ _ h => h) (by rfl) ?_ hS ?_
          rotate_left
          · intro W' hW'
            obtain ⟨s0, s1⟩ := hW'
            all_goals (go_simp; first | done | rfl)
          intro l' hl
          dsimp only [List.set_cons_succ, List.set_cons_zero] at hl
          subst hl
          refine anyX_takeWL 15 (v := ?_) rfl rfl (by as_aux_lemma => kernel_rfl) (by as_aux_lemma => kernel_rfl) (by as_aux_lemma => kernel_rfl) (by as_aux_lemma => kernel_rfl) (by as_aux_lemma => kernel_rfl) (fun _ _ _ h => h) (by rfl) ?_ hS ?_
          rotate_left
          · intro W' hW'
            obtain ⟨s0, s1⟩ := hW'
            all_goals (go_simp; first | done | rfl)
          intro l' hl
          dsimp only [List.set_cons_succ, List.set_cons_zero] at hl
          subst hl
          refine anyX_takeWL 16 (v := ?_) rfl rfl (by as_aux_lemma => kernel_rfl) (by as_aux_lemma => kernel_rfl) (by as_aux_lemma => kernel_rfl) (by as_aux_lemma => kernel_rfl) (by as_aux_lemma => kernel_rfl) (fun _ _ _ h => h) (by rfl) ?_ hS ?_
          rotate_left
          · intro W' hW'
            obtain ⟨s0, s1⟩ := hW'
            all_goals (go_simp; first | done | rfl)
          intro l' hl
          dsimp only [List.set_cons_succ, List.set_cons_zero] at hl
          subst hl
          refine anyX_takeWL 17 (v := ?_) rfl rfl (by as_aux_lemma => kernel_rfl) (by as_aux_lemma => kernel_rfl) (by as_aux_lemma => kernel_rfl) (by as_aux_lemma => kernel_rfl) (by as_aux_lemma => kernel_rfl) (fun _ _ _ h => h) (by rfl) ?_ hS ?_
          rotate_left
          · intro W' hW'
            obtain ⟨s0, s1⟩ := hW'
            all_goals (go_simp; first | done | rfl)
          intro l' hl
          dsimp only [List.set_cons_succ, List.set_cons_zero] at hl
          subst hl
          refine anyX_takeWL 18 (v := ?_) rfl rfl (by as_aux_lemma => kernel_rfl) (by as_aux_lemma => kernel_rfl) (by as_aux_lemma => kernel_rfl) (by as_aux_lemma => kernel_rfl) (by as_aux_lemma => kernel_rfl) (fun _ _ _ h => h) (by rfl) ?_ hS ?_
          rotate_left
          · intro W' hW'
            obtain ⟨s0, s1⟩ := hW'
            all_goals (go_simp; first | done | rfl)
          intro l' hl
          dsimp only [List.set_cons_succ, List.set_cons_zero] at hl
          subst hl
          refine anyX_takeWL 19 (v := ?_) rfl rfl (by as_aux_lemma => kernel_rfl) (by as_aux_lemma => kernel_rfl) (by as_aux_lemma => kernel_rfl) (by as_aux_lemma => kernel_rfl) (by as_aux_lemma => kernel_rfl) (fun _ _ _ h => h) (by rfl) ?_ hS ?_
          rotate_left
          · intro W' hW'
            obtain ⟨s0, s1⟩ := hW'
            all_goals (go_simp; first | done | rfl)
          intro l' hl
          dsimp only [List.set_cons_succ, List.set_cons_zero] at hl
          subst hl
          refine anyX_oneW (i := 20) (by kernel_rfl) rfl (by rfl) fun K' hK' => ?_
          unfold Oper.wp
          go_simp
          refine (Hbl.out _ _).mono ?_
          rintro e w3 ⟨rfl, rfl⟩
          rw [hb]
          refine hK' _ _ (fun _ => hS) ?_
          clear hK' K'
          refine anyX_takeWL 21 (v := ?_) rfl rfl (by as_aux_lemma => kernel_rfl) (by as_aux_lemma => kernel_rfl) (by as_aux_lemma => kernel_rfl) (by as_aux_lemma => kernel_rfl) (by as_aux_lemma => kernel_rfl) (fun _ _ _ h => h) (by rfl) ?_ hS ?_
          rotate_left
          · intro W' hW'
            obtain ⟨s0, s1⟩ := hW'
            all_goals (go_simp; first | done | rfl)
          intro l' hl
          dsimp only [List.set_cons_succ, List.set_cons_zero] at hl
          subst hl
          refine anyX_takeNL 22 (v := ?_) rfl rfl (by as_aux_lemma => kernel_rfl) (by as_aux_lemma => kernel_rfl) (by as_aux_lemma => kernel_rfl) (by as_aux_lemma => kernel_rfl) (by as_aux_lemma => kernel_rfl) (fun _ _ _ h => h) rfl ?_ hS ?_
          rotate_left
          · intro W' hW'
            obtain ⟨s0, s1⟩ := hW'
            all_goals (go_simp; first | done | rfl)
          intro l' hl
          dsimp only [List.set_cons_succ, List.set_cons_zero] at hl
          subst hl
          refine anyX_done (by kernel_rfl) ?_ _
          refine NoPanic.normal ?_
          have e1 : past s (skip s p0) = k := past_eq s _ k hk1 hk2 Hall.out (by rw [isW_at hlt, hb]; rfl)
          have HR := Lib.hid hR2
          have HT := Lib.hid tt2
          have c0 := Cells.get hR2 0 rfl
          have c1 := Cells.get hR2 1 rfl
          simp only [Nat.zero_add] at c0 c1
          have i1 : ((skip s p0 : Nat) : Int) ≤ (k : Int) := by omega
          have i2 : (k : Int) ≤ (s.size : Int) := by omega
          have E1 := Lib.hid e1
          clear hR2 tt2 hS e1
          go_wp2_with fail
          go_region
          go_wp2
          go_ret2
          exact ⟨OW, by rw [E1.out]; rfl, by rw [E1.out]; exact Cells.drew HR.out, HT.out.drew⟩
      · obtain rfl : k = s.size := by omega
        have e1 : past s (skip s p0) = s.size := past_eq s _ s.size hk1 hk2 Hall.out (isW_end hlt)
        have i1 : ((skip s p0 : Nat) : Int) ≤ (s.size : Int) := by omega
        have E1 := Lib.hid e1
        clear e1
        go_wp2_with fail
        have hR2 : RB wr.drew OW p g s s.size vs opn := Cells.drew hR
        have tt2 := tt.drew
        clear hR tt
        refine plain_regionN (fun W' : World => W'.cell? ⟨g, 0, none⟩ = some (.string s) ∧ W'.cell? ⟨g, 1, none⟩ = some (.int .i64 (s.size : Int))) [] (by kernel_rfl) ?_
        have hS : (fun W' : World => W'.cell? ⟨g, 0, none⟩ = some (.string s) ∧ W'.cell? ⟨g, 1, none⟩ = some (.int .i64 (s.size : Int))) wr.drew := ⟨c0, c1⟩
        generalize wr.drew = wq at *
        refine anyX_takeNL 0 (v := ?_) rfl rfl (by as_aux_lemma => kernel_rfl) (by as_aux_lemma => kernel_rfl) (by as_aux_lemma => kernel_rfl) (by as_aux_lemma => kernel_rfl) (by as_aux_lemma => kernel_rfl) (fun _ _ _ h => h) rfl ?_ hS ?_
        rotate_left
        · intro W' hW'
          obtain ⟨s0, s1⟩ := hW'
          all_goals (go_simp; first | done | rfl)
        intro l' hl
        dsimp only [List.set_cons_succ, List.set_cons_zero] at hl
        subst hl
        refine anyX_takeNL 1 (v := ?_) rfl rfl (by as_aux_lemma => kernel_rfl) (by as_aux_lemma => kernel_rfl) (by as_aux_lemma => kernel_rfl) (by as_aux_lemma => kernel_rfl) (by as_aux_lemma => kernel_rfl) (fun _ _ _ h => h) rfl ?_ hS ?_
        rotate_left
        · intro W' hW'
          obtain ⟨s0, s1⟩ := hW'
          all_goals (go_simp; first | done | rfl)
        intro l' hl
        dsimp only [List.set_cons_succ, List.set_cons_zero] at hl
        subst hl
        refine anyX_takeNL 2 (v := ?_) rfl rfl (by as_aux_lemma => kernel_rfl) (by as_aux_lemma => kernel_rfl) (by as_aux_lemma => kernel_rfl) (by as_aux_lemma => kernel_rfl) (by as_aux_lemma => kernel_rfl) (fun _ _ _ h => h) rfl ?_ hS ?_
        rotate_left
        · intro W' hW'
          obtain ⟨s0, s1⟩ := hW'
          all_goals (go_simp; first | done | rfl)
        intro l' hl
        dsimp only [List.set_cons_succ, List.set_cons_zero] at hl
        subst hl
        refine anyX_takeNL 3 (v := ?_) rfl rfl (by as_aux_lemma => kernel_rfl) (by as_aux_lemma => kernel_rfl) (by as_aux_lemma => kernel_rfl) (by as_aux_lemma => kernel_rfl) (by as_aux_lemma => kernel_rfl) (fun _ _ _ h => h) rfl ?_ hS ?_
        rotate_left
        · intro W' hW'
          obtain ⟨s0, s1⟩ := hW'
          all_goals (go_simp; first | done | rfl)
        intro l' hl
        dsimp only [List.set_cons_succ, List.set_cons_zero] at hl
        subst hl
        refine anyX_takeNL 4 (v := ?_) rfl rfl (by as_aux_lemma => kernel_rfl) (by as_aux_lemma => kernel_rfl) (by as_aux_lemma => kernel_rfl) (by as_aux_lemma => kernel_rfl) (by as_aux_lemma => kernel_rfl) (fun _ _ _ h => h) rfl ?_ hS ?_
        rotate_left
        · intro W' hW'
          obtain ⟨s0, s1⟩ := hW'
          all_goals (go_simp; first | done | rfl)
        intro l' hl
        dsimp only [List.set_cons_succ, List.set_cons_zero] at hl
        subst hl
        refine anyX_takeNL 5 (v := ?_) rfl rfl (by as_aux_lemma => kernel_rfl) (by as_aux_lemma => kernel_rfl) (by as_aux_lemma => kernel_rfl) (by as_aux_lemma => kernel_rfl) (by as_aux_lemma => kernel_rfl) (fun _ _ _ h => h) rfl ?_ hS ?_
        rotate_left
        · intro W' hW'
          obtain ⟨s0, s1⟩ := hW'
          all_goals (go_simp; first | done | rfl)
        intro l' hl
        dsimp only [List.set_cons_succ, List.set_cons_zero] at hl
        subst hl
        refine anyX_takeNL 6 (v := ?_) rfl rfl (by as_aux_lemma => kernel_rfl) (by as_aux_lemma => kernel_rfl) (by as_aux_lemma => kernel_rfl) (by as_aux_lemma => kernel_rfl) (by as_aux_lemma => kernel_rfl) (fun _ _ _ h => h) rfl ?_ hS ?_
        rotate_left
        · intro W' hW'
          obtain ⟨s0, s1⟩ := hW'
          all_goals (go_simp; first | done | rfl)
        intro l' hl
        dsimp only [List.set_cons_succ, List.set_cons_zero] at hl
        subst hl
        refine anyX_takeNL 7 (v := ?_) rfl rfl (by as_aux_lemma => kernel_rfl) (by as_aux_lemma => kernel_rfl) (by as_aux_lemma => kernel_rfl) (by as_aux_lemma => kernel_rfl) (by as_aux_lemma => kernel_rfl) (fun _ _ _ h => h) rfl ?_ hS ?_
        rotate_left
        · intro W' hW'
          obtain ⟨s0, s1⟩ := hW'
          all_goals (go_simp; first | done | rfl)
        intro l' hl
        dsimp only [List.set_cons_succ, List.set_cons_zero] at hl
        subst hl
        refine anyX_takeNL 8 (v := ?_) rfl rfl (by as_aux_lemma => kernel_rfl) (by as_aux_lemma => kernel_rfl) (by as_aux_lemma => kernel_rfl) (by as_aux_lemma => kernel_rfl) (by as_aux_lemma => kernel_rfl) (fun _ _ _ h => h) rfl ?_ hS ?_
        rotate_left
        · intro W' hW'
          obtain ⟨s0, s1⟩ := hW'
          all_goals (go_simp; first | done | rfl)
        intro l' hl
        dsimp only [List.set_cons_succ, List.set_cons_zero] at hl
        subst hl
        refine anyX_takeNL 9 (v := ?_) rfl rfl (by as_aux_lemma => kernel_rfl) (by as_aux_lemma => kernel_rfl) (by as_aux_lemma => kernel_rfl) (by as_aux_lemma => kernel_rfl) (by as_aux_lemma => kernel_rfl) (fun _ _ _ h => h) rfl ?_ hS ?_
        rotate_left
        · intro W' hW'
          obtain ⟨s0, s1⟩ := hW'
          all_goals (go_simp; first | done | rfl)
        intro l' hl
        dsimp only [List.set_cons_succ, List.set_cons_zero] at hl
        subst hl
        refine anyX_takeNL 10 (v := ?_) rfl rfl (by as_aux_lemma => kernel_rfl) (by as_aux_lemma => kernel_rfl) (by as_aux_lemma => kernel_rfl) (by as_aux_lemma => kernel_rfl) (by as_aux_lemma => kernel_rfl) (fun _ _ _ h => h) rfl ?_ hS ?_
        rotate_left
        · intro W' hW'
          obtain ⟨s0, s1⟩ := hW'
          all_goals (go_simp; first | done | rfl)
        intro l' hl
        dsimp only [List.set_cons_succ, List.set_cons_zero] at hl
        subst hl
        refine anyX_takeUL 11 rfl rfl (by as_aux_lemma => kernel_rfl) (by as_aux_lemma => kernel_rfl) (by as_aux_lemma => kernel_rfl) (by as_aux_lemma => kernel_rfl) (by as_aux_lemma => kernel_rfl) (fun _ _ _ h => h) (by rfl) hS ?_
        intro l' hl
        dsimp only [List.set_cons_succ, List.set_cons_zero] at hl
        subst hl
        refine anyX_takeUL 12 rfl rfl (by as_aux_lemma => kernel_rfl) (by as_aux_lemma => kernel_rfl) (by as_aux_lemma => kernel_rfl) (by as_aux_lemma => kernel_rfl) (by as_aux_lemma => kernel_rfl) (fun _ _ _ h => h) (by rfl) hS ?_
        intro l' hl
        dsimp only [List.set_cons_succ, List.set_cons_zero] at hl
        subst hl
        refine anyX_takeUL 13 rfl rfl (by as_aux_lemma => kernel_rfl) (by as_aux_lemma => kernel_rfl) (by as_aux_lemma => kernel_rfl) (by as_aux_lemma => kernel_rfl) (by as_aux_lemma => kernel_rfl) (fun _ _ _ h => h) (by rfl) hS ?_
        intro l' hl
        dsimp only [List.set_cons_succ, List.set_cons_zero] at hl
        subst hl
        refine anyX_takeUL 14 rfl rfl (by as_aux_lemma => kernel_rfl) (by as_aux_lemma => kernel_rfl) (by as_aux_lemma => kernel_rfl) (by as_aux_lemma => kernel_rfl) (by as_aux_lemma => kernel_rfl) (fun _ _ _ h => h) (by rfl) hS ?_
        intro l' hl
        dsimp only [List.set_cons_succ, List.set_cons_zero] at hl
        subst hl
        refine anyX_takeUL 15 rfl rfl (by as_aux_lemma => kernel_rfl) (by as_aux_lemma => kernel_rfl) (by as_aux_lemma => kernel_rfl) (by as_aux_lemma => kernel_rfl) (by as_aux_lemma => kernel_rfl) (fun _ _ _ h => h) (by rfl) hS ?_
        intro l' hl
        dsimp only [List.set_cons_succ, List.set_cons_zero] at hl
        subst hl
        refine anyX_takeUL 16 rfl rfl (by as_aux_lemma => kernel_rfl) (by as_aux_lemma => kernel_rfl) (by as_aux_lemma => kernel_rfl) (by as_aux_lemma => kernel_rfl) (by as_aux_lemma => kernel_rfl) (fun _ _ _ h => h) (by rfl) hS ?_
        intro l' hl
        dsimp only [List.set_cons_succ, List.set_cons_zero] at hl
        subst hl
        refine anyX_takeUL 17 rfl rfl (by as_aux_lemma => kernel_rfl) (by as_aux_lemma => kernel_rfl) (by as_aux_lemma => kernel_rfl) (by as_aux_lemma => kernel_rfl) (by as_aux_lemma => kernel_rfl) (fun _ _ _ h => h) (by rfl) hS ?_
        intro l' hl
        dsimp only [List.set_cons_succ, List.set_cons_zero] at hl
        subst hl
        refine anyX_takeUL 18 rfl rfl (by as_aux_lemma => kernel_rfl) (by as_aux_lemma => kernel_rfl) (by as_aux_lemma => kernel_rfl) (by as_aux_lemma => kernel_rfl) (by as_aux_lemma => kernel_rfl) (fun _ _ _ h => h) (by rfl) hS ?_
        intro l' hl
        dsimp only [List.set_cons_succ, List.set_cons_zero] at hl
        subst hl
        refine anyX_takeUL 19 rfl rfl (by as_aux_lemma => kernel_rfl) (by as_aux_lemma => kernel_rfl) (by as_aux_lemma => kernel_rfl) (by as_aux_lemma => kernel_rfl) (by as_aux_lemma => kernel_rfl) (fun _ _ _ h => h) (by rfl) hS ?_
        intro l' hl
        dsimp only [List.set_cons_succ, List.set_cons_zero] at hl
        subst hl
        refine anyX_takeUL 20 rfl rfl (by as_aux_lemma => kernel_rfl) (by as_aux_lemma => kernel_rfl) (by as_aux_lemma => kernel_rfl) (by as_aux_lemma => kernel_rfl) (by as_aux_lemma => kernel_rfl) (fun _ _ _ h => h) (by rfl) hS ?_
        intro l' hl
        dsimp only [List.set_cons_succ, List.set_cons_zero] at hl
        subst hl
        refine anyX_takeUL 21 rfl rfl (by as_aux_lemma => kernel_rfl) (by as_aux_lemma => kernel_rfl) (by as_aux_lemma => kernel_rfl) (by as_aux_lemma => kernel_rfl) (by as_aux_lemma => kernel_rfl) (fun _ _ _ h => h) (by rfl) hS ?_
        intro l' hl
        dsimp only [List.set_cons_succ, List.set_cons_zero] at hl
        subst hl
        refine anyX_takeNL 22 (v := ?_) rfl rfl (by as_aux_lemma => kernel_rfl) (by as_aux_lemma => kernel_rfl) (by as_aux_lemma => kernel_rfl) (by as_aux_lemma => kernel_rfl) (by as_aux_lemma => kernel_rfl) (fun _ _ _ h => h) rfl ?_ hS ?_
        rotate_left
        · intro W' hW'
          obtain ⟨s0, s1⟩ := hW'
          all_goals (go_simp; first | done | rfl)
        intro l' hl
        dsimp only [List.set_cons_succ, List.set_cons_zero] at hl
        subst hl
        refine anyX_done (by kernel_rfl) ?_ _
        refine NoPanic.normal ?_
        have c0 := Cells.get hR2 0 rfl
        have c1 := Cells.get hR2 1 rfl
        simp only [Nat.zero_add] at c0 c1
        have HR := Lib.hid hR2
        have HT := Lib.hid tt2
        clear hR2 tt2 hS
        go_wp2_with fail
        go_region
        go_wp2
        go_ret2
        exact ⟨OW, by rw [E1.out]; rfl, by rw [E1.out]; exact Cells.drew HR.out, HT.out.drew⟩
end CD
end Go.Proofs.YtnehiooioodkfaaDoor
