/-
  LAW 5: done, shows: a table beside the document's.
-/
import Derived.Test.YtefagdbdimpcdaaRT3
import Derived.Test.YtefagdbdimpcdaaRT4
import Derived.Test.YtefagdbdimpcdaaEIntS2
import Derived.Test.YtefagdbdimpcdaaELkS
import Derived.Test.YtefagdbdimpcdaaEHdS
import Derived.Test.YtefagdbdimpcdaaUB
import Derived.Deep.CutRange
import Derived.Deep.CutBlock
import Derived.Deep.DeepCutAuto
set_option linter.unusedVariables false
set_option linter.unusedSimpArgs false
namespace Go.Proofs.Ytefagdbdimpcdaa
open Go Go.RowKit
namespace RT5
open UN

/-- What a call leaves of both. -/
def DnP (w : World) (ow : Ow) (g g2 : Nat) (U : List Int) (e : Ending) (w' : World) : Prop :=
  ∃ (ow' : Ow) (C : List Int) (T : List Tk), e = .returned (.bool true) ∧ UT w' ow' [1, 1] g U C T ∧ RT w' ow' [1, 2] g2 U C T ∧ Turn [1] w ow w' ow'

set_option maxRecDepth 100000 in
set_option maxHeartbeats 16000000 in
theorem done (w : World) (ow : Ow) (g g2 : Nat) (U C : List Int) (T : List Tk) (hT : UT w ow [1, 1] g U C T) (hR : RT w ow [1, 2] g2 U C T) (o : Op5) :
    Calls Try.prog 44 #[.pointer (some ⟨g, 0, none⟩), .pointer (some ⟨g2, 0, none⟩), .agg #[.int .i64 o.kind, .int .i64 o.job, .int .i64 o.res, .int .i64 o.n, .int .i64 o.need, .int .i64 o.v]] w (DnP w ow g g2 U) := by
  obtain ⟨gx, hgx⟩ : ∃ gx, gx = w.heap.size := ⟨_, rfl⟩
  obtain ⟨ow1, ho, nn, -⟩ := SH.add_cells w ow [1, 3] [.int .i64 o.kind, .int .i64 o.job, .int .i64 o.res, .int .i64 o.n, .int .i64 o.need, .int .i64 o.v] 43
  have hw1 : w.alloc (.cells #[.int .i64 o.kind, .int .i64 o.job, .int .i64 o.res, .int .i64 o.n, .int .i64 o.need, .int .i64 o.v] 43) = w.alloc (.cells #[.int .i64 o.kind, .int .i64 o.job, .int .i64 o.res, .int .i64 o.n, .int .i64 o.need, .int .i64 o.v] 43) := rfl
  obtain ⟨w1, hw1⟩ : ∃ w1, w.alloc (.cells #[.int .i64 o.kind, .int .i64 o.job, .int .i64 o.res, .int .i64 o.n, .int .i64 o.need, .int .i64 o.v] 43) = w1 := ⟨_, rfl⟩
  have ho' : Cells w1 ow1 [1, 3] gx 0 [.int .i64 o.kind, .int .i64 o.job, .int .i64 o.res, .int .i64 o.n, .int .i64 o.need, .int .i64 o.v] := by rw [← hw1, hgx]; exact ho
  have nn' : New w ow w1 ow1 := by rw [← hw1]; exact nn
  have t := nn'.turn [1]
  have hT' := hT.new_ nn'
  have hR' := hR.new_ nn'
  have Hw1 := Lib.hid hw1
  have Hgx := Lib.hid hgx
  clear ho nn hT hR nn' hw1 hgx
  have ho := ho'
  have hT := hT'
  have hR := hR'
  clear ho' hT' hR'
  by_cases k0 : o.kind = 0
  · have b0 : (o.kind == 0) = true := beq_iff_eq.2 k0
    clear k0
    have o0 := ho.get 0 rfl
    simp only [Nat.zero_add] at o0
    obtain ⟨E, he⟩ : ∃ E, lockE U T o.job o.res o.n o.need = E := ⟨_, rfl⟩
    have bE : (E == E) = true := beq_self_eq_true _
    have HE := Lib.hid he
    clear he
    go_enter Try.func44, Try.ntmps44
    go_upto_region 3 with fail
    rw [Hw1.out]
    rw [← Hgx.out]
    clear Hw1 Hgx
    clear o0
    refine plain_regionN (fun W' : World => W'.cell? ⟨gx, 1, none⟩ = some (.int .i64 o.job) ∧ W'.cell? ⟨gx, 2, none⟩ = some (.int .i64 o.res) ∧ W'.cell? ⟨gx, 3, none⟩ = some (.int .i64 o.n) ∧ W'.cell? ⟨gx, 4, none⟩ = some (.int .i64 o.need)) [] (by kernel_rfl) ?_
    have nn : New w1 ow1 w1.drew ow1 := (New.refl _ _).drew
    replace hT := hT.new_ nn
    replace hR := hR.new_ nn
    replace ho := ho.new_ nn
    replace t := t.trans (nn.turn [1])
    clear nn
    generalize w1.drew = w11 at *
    have o1 := ho.get 1 rfl
    have o2 := ho.get 2 rfl
    have o3 := ho.get 3 rfl
    have o4 := ho.get 4 rfl
    simp only [Nat.zero_add] at o1 o2 o3 o4
    have hS : (fun W' : World => W'.cell? ⟨gx, 1, none⟩ = some (.int .i64 o.job) ∧ W'.cell? ⟨gx, 2, none⟩ = some (.int .i64 o.res) ∧ W'.cell? ⟨gx, 3, none⟩ = some (.int .i64 o.n) ∧ W'.cell? ⟨gx, 4, none⟩ = some (.int .i64 o.need)) w11 := ⟨o1, o2, o3, o4⟩
    refine anyX_takeNL 0 (v := ?_) rfl rfl (by as_aux_lemma => kernel_rfl) (by as_aux_lemma => kernel_rfl) (by as_aux_lemma => kernel_rfl) (by as_aux_lemma => kernel_rfl) (by as_aux_lemma => kernel_rfl) (fun _ _ _ h => h) rfl ?_ hS ?_
    rotate_left
    · intro W' hW'
      obtain ⟨s0, s1, s2, s3⟩ := hW'
      all_goals (go_simp; first | done | rfl)
    intro l' hl
    dsimp only [List.set_cons_succ, List.set_cons_zero] at hl
    subst hl
    refine anyX_takeNL 1 (v := ?_) rfl rfl (by as_aux_lemma => kernel_rfl) (by as_aux_lemma => kernel_rfl) (by as_aux_lemma => kernel_rfl) (by as_aux_lemma => kernel_rfl) (by as_aux_lemma => kernel_rfl) (fun _ _ _ h => h) rfl ?_ hS ?_
    rotate_left
    · intro W' hW'
      obtain ⟨s0, s1, s2, s3⟩ := hW'
      all_goals (go_simp; first | done | rfl)
    intro l' hl
    dsimp only [List.set_cons_succ, List.set_cons_zero] at hl
    subst hl
    refine anyX_takeNL 2 (v := ?_) rfl rfl (by as_aux_lemma => kernel_rfl) (by as_aux_lemma => kernel_rfl) (by as_aux_lemma => kernel_rfl) (by as_aux_lemma => kernel_rfl) (by as_aux_lemma => kernel_rfl) (fun _ _ _ h => h) rfl ?_ hS ?_
    rotate_left
    · intro W' hW'
      obtain ⟨s0, s1, s2, s3⟩ := hW'
      all_goals (go_simp; first | done | rfl)
    intro l' hl
    dsimp only [List.set_cons_succ, List.set_cons_zero] at hl
    subst hl
    refine anyX_takeNL 3 (v := ?_) rfl rfl (by as_aux_lemma => kernel_rfl) (by as_aux_lemma => kernel_rfl) (by as_aux_lemma => kernel_rfl) (by as_aux_lemma => kernel_rfl) (by as_aux_lemma => kernel_rfl) (fun _ _ _ h => h) rfl ?_ hS ?_
    rotate_left
    · intro W' hW'
      obtain ⟨s0, s1, s2, s3⟩ := hW'
      all_goals (go_simp; first | done | rfl)
    intro l' hl
    dsimp only [List.set_cons_succ, List.set_cons_zero] at hl
    subst hl
    refine anyX_takeNL 4 (v := ?_) rfl rfl (by as_aux_lemma => kernel_rfl) (by as_aux_lemma => kernel_rfl) (by as_aux_lemma => kernel_rfl) (by as_aux_lemma => kernel_rfl) (by as_aux_lemma => kernel_rfl) (fun _ _ _ h => h) rfl ?_ hS ?_
    rotate_left
    · intro W' hW'
      obtain ⟨s0, s1, s2, s3⟩ := hW'
      all_goals (go_simp; first | done | rfl)
    intro l' hl
    dsimp only [List.set_cons_succ, List.set_cons_zero] at hl
    subst hl
    refine anyX_takeNL 5 (v := ?_) rfl rfl (by as_aux_lemma => kernel_rfl) (by as_aux_lemma => kernel_rfl) (by as_aux_lemma => kernel_rfl) (by as_aux_lemma => kernel_rfl) (by as_aux_lemma => kernel_rfl) (fun _ _ _ h => h) rfl ?_ hS ?_
    rotate_left
    · intro W' hW'
      obtain ⟨s0, s1, s2, s3⟩ := hW'
      all_goals (go_simp; first | done | rfl)
    intro l' hl
    dsimp only [List.set_cons_succ, List.set_cons_zero] at hl
    subst hl
    refine anyX_takeNL 6 (v := ?_) rfl rfl (by as_aux_lemma => kernel_rfl) (by as_aux_lemma => kernel_rfl) (by as_aux_lemma => kernel_rfl) (by as_aux_lemma => kernel_rfl) (by as_aux_lemma => kernel_rfl) (fun _ _ _ h => h) rfl ?_ hS ?_
    rotate_left
    · intro W' hW'
      obtain ⟨s0, s1, s2, s3⟩ := hW'
      all_goals (go_simp; first | done | rfl)
    intro l' hl
    dsimp only [List.set_cons_succ, List.set_cons_zero] at hl
    subst hl
    refine anyX_takeNL 7 (v := ?_) rfl rfl (by as_aux_lemma => kernel_rfl) (by as_aux_lemma => kernel_rfl) (by as_aux_lemma => kernel_rfl) (by as_aux_lemma => kernel_rfl) (by as_aux_lemma => kernel_rfl) (fun _ _ _ h => h) rfl ?_ hS ?_
    rotate_left
    · intro W' hW'
      obtain ⟨s0, s1, s2, s3⟩ := hW'
      all_goals (go_simp; first | done | rfl)
    intro l' hl
    dsimp only [List.set_cons_succ, List.set_cons_zero] at hl
    subst hl
    refine anyX_takeNL 8 (v := ?_) rfl rfl (by as_aux_lemma => kernel_rfl) (by as_aux_lemma => kernel_rfl) (by as_aux_lemma => kernel_rfl) (by as_aux_lemma => kernel_rfl) (by as_aux_lemma => kernel_rfl) (fun _ _ _ h => h) rfl ?_ hS ?_
    rotate_left
    · intro W' hW'
      obtain ⟨s0, s1, s2, s3⟩ := hW'
      all_goals (go_simp; first | done | rfl)
    intro l' hl
    dsimp only [List.set_cons_succ, List.set_cons_zero] at hl
    subst hl
    refine anyX_takeNL 10 (v := ?_) rfl rfl (by as_aux_lemma => kernel_rfl) (by as_aux_lemma => kernel_rfl) (by as_aux_lemma => kernel_rfl) (by as_aux_lemma => kernel_rfl) (by as_aux_lemma => kernel_rfl) (fun _ _ _ h => h) rfl ?_ hS ?_
    rotate_left
    · intro W' hW'
      obtain ⟨s0, s1, s2, s3⟩ := hW'
      all_goals (go_simp; first | done | rfl)
    intro l' hl
    dsimp only [List.set_cons_succ, List.set_cons_zero] at hl
    subst hl
    refine anyX_takeNL 11 (v := ?_) rfl rfl (by as_aux_lemma => kernel_rfl) (by as_aux_lemma => kernel_rfl) (by as_aux_lemma => kernel_rfl) (by as_aux_lemma => kernel_rfl) (by as_aux_lemma => kernel_rfl) (fun _ _ _ h => h) rfl ?_ hS ?_
    rotate_left
    · intro W' hW'
      obtain ⟨s0, s1, s2, s3⟩ := hW'
      all_goals (go_simp; first | done | rfl)
    intro l' hl
    dsimp only [List.set_cons_succ, List.set_cons_zero] at hl
    subst hl
    refine anyX_takeNL 12 (v := ?_) rfl rfl (by as_aux_lemma => kernel_rfl) (by as_aux_lemma => kernel_rfl) (by as_aux_lemma => kernel_rfl) (by as_aux_lemma => kernel_rfl) (by as_aux_lemma => kernel_rfl) (fun _ _ _ h => h) rfl ?_ hS ?_
    rotate_left
    · intro W' hW'
      obtain ⟨s0, s1, s2, s3⟩ := hW'
      all_goals (go_simp; first | done | rfl)
    intro l' hl
    dsimp only [List.set_cons_succ, List.set_cons_zero] at hl
    subst hl
    refine anyX_takeNL 13 (v := ?_) rfl rfl (by as_aux_lemma => kernel_rfl) (by as_aux_lemma => kernel_rfl) (by as_aux_lemma => kernel_rfl) (by as_aux_lemma => kernel_rfl) (by as_aux_lemma => kernel_rfl) (fun _ _ _ h => h) rfl ?_ hS ?_
    rotate_left
    · intro W' hW'
      obtain ⟨s0, s1, s2, s3⟩ := hW'
      all_goals (go_simp; first | done | rfl)
    intro l' hl
    dsimp only [List.set_cons_succ, List.set_cons_zero] at hl
    subst hl
    refine anyX_takeNL 14 (v := ?_) rfl rfl (by as_aux_lemma => kernel_rfl) (by as_aux_lemma => kernel_rfl) (by as_aux_lemma => kernel_rfl) (by as_aux_lemma => kernel_rfl) (by as_aux_lemma => kernel_rfl) (fun _ _ _ h => h) rfl ?_ hS ?_
    rotate_left
    · intro W' hW'
      obtain ⟨s0, s1, s2, s3⟩ := hW'
      all_goals (go_simp; first | done | rfl)
    intro l' hl
    dsimp only [List.set_cons_succ, List.set_cons_zero] at hl
    subst hl
    refine anyX_takeNL 15 (v := ?_) rfl rfl (by as_aux_lemma => kernel_rfl) (by as_aux_lemma => kernel_rfl) (by as_aux_lemma => kernel_rfl) (by as_aux_lemma => kernel_rfl) (by as_aux_lemma => kernel_rfl) (fun _ _ _ h => h) rfl ?_ hS ?_
    rotate_left
    · intro W' hW'
      obtain ⟨s0, s1, s2, s3⟩ := hW'
      all_goals (go_simp; first | done | rfl)
    intro l' hl
    dsimp only [List.set_cons_succ, List.set_cons_zero] at hl
    subst hl
    refine anyX_takeNL 16 (v := ?_) rfl rfl (by as_aux_lemma => kernel_rfl) (by as_aux_lemma => kernel_rfl) (by as_aux_lemma => kernel_rfl) (by as_aux_lemma => kernel_rfl) (by as_aux_lemma => kernel_rfl) (fun _ _ _ h => h) rfl ?_ hS ?_
    rotate_left
    · intro W' hW'
      obtain ⟨s0, s1, s2, s3⟩ := hW'
      all_goals (go_simp; first | done | rfl)
    intro l' hl
    dsimp only [List.set_cons_succ, List.set_cons_zero] at hl
    subst hl
    refine anyX_takeNL 17 (v := ?_) rfl rfl (by as_aux_lemma => kernel_rfl) (by as_aux_lemma => kernel_rfl) (by as_aux_lemma => kernel_rfl) (by as_aux_lemma => kernel_rfl) (by as_aux_lemma => kernel_rfl) (fun _ _ _ h => h) rfl ?_ hS ?_
    rotate_left
    · intro W' hW'
      obtain ⟨s0, s1, s2, s3⟩ := hW'
      all_goals (go_simp; first | done | rfl)
    intro l' hl
    dsimp only [List.set_cons_succ, List.set_cons_zero] at hl
    subst hl
    refine anyX_takeNL 18 (v := ?_) rfl rfl (by as_aux_lemma => kernel_rfl) (by as_aux_lemma => kernel_rfl) (by as_aux_lemma => kernel_rfl) (by as_aux_lemma => kernel_rfl) (by as_aux_lemma => kernel_rfl) (fun _ _ _ h => h) rfl ?_ hS ?_
    rotate_left
    · intro W' hW'
      obtain ⟨s0, s1, s2, s3⟩ := hW'
      all_goals (go_simp; first | done | rfl)
    intro l' hl
    dsimp only [List.set_cons_succ, List.set_cons_zero] at hl
    subst hl
    refine anyX_one (i := 9) (by kernel_rfl) rfl rfl fun K' hK' => ?_
    unfold Oper.wp
    go_simp
    clear hS
    clear o1 o2 o3 o4
    refine (lock w11 ow1 [1, 1] g U C T hT o.job o.res o.n o.need).mono ?_
    rw [HE.out]
    rintro e w12 ⟨ow12, rfl, hn', tt⟩
    replace hR := hR.keep tt (fun s => by simp)
    replace ho := ho.keep tt (by simp)
    replace t := t.trans (tt.up (by simp))
    clear hT tt
    have hT := hn'
    clear hn'
    have o1 := ho.get 1 rfl
    have o2 := ho.get 2 rfl
    have o3 := ho.get 3 rfl
    have o4 := ho.get 4 rfl
    simp only [Nat.zero_add] at o1 o2 o3 o4
    have hS : (fun W' : World => W'.cell? ⟨gx, 1, none⟩ = some (.int .i64 o.job) ∧ W'.cell? ⟨gx, 2, none⟩ = some (.int .i64 o.res) ∧ W'.cell? ⟨gx, 3, none⟩ = some (.int .i64 o.n) ∧ W'.cell? ⟨gx, 4, none⟩ = some (.int .i64 o.need)) w12 := ⟨o1, o2, o3, o4⟩
    refine hK' _ _ (fun _ => hS) ?_
    clear hK' K'
    refine anyX_one (i := 19) (by kernel_rfl) rfl rfl fun K' hK' => ?_
    unfold Oper.wp
    go_simp
    clear hS
    clear o1 o2 o3 o4
    refine (rlock w12 ow12 [1, 2] g2 U C T hR o.job o.res o.n o.need).mono ?_
    rw [HE.out]
    rintro e w13 ⟨ow13, rfl, hn', tt⟩
    replace hT := hT.keep tt (fun s => by simp)
    replace ho := ho.keep tt (by simp)
    replace t := t.trans (tt.up (by simp))
    clear hR tt
    have hR := hn'
    clear hn'
    have o1 := ho.get 1 rfl
    have o2 := ho.get 2 rfl
    have o3 := ho.get 3 rfl
    have o4 := ho.get 4 rfl
    simp only [Nat.zero_add] at o1 o2 o3 o4
    have hS : (fun W' : World => W'.cell? ⟨gx, 1, none⟩ = some (.int .i64 o.job) ∧ W'.cell? ⟨gx, 2, none⟩ = some (.int .i64 o.res) ∧ W'.cell? ⟨gx, 3, none⟩ = some (.int .i64 o.n) ∧ W'.cell? ⟨gx, 4, none⟩ = some (.int .i64 o.need)) w13 := ⟨o1, o2, o3, o4⟩
    refine hK' _ _ (fun _ => hS) ?_
    clear hK' K'
    refine anyX_takeNL 20 (v := ?_) rfl rfl (by as_aux_lemma => kernel_rfl) (by as_aux_lemma => kernel_rfl) (by as_aux_lemma => kernel_rfl) (by as_aux_lemma => kernel_rfl) (by as_aux_lemma => kernel_rfl) (fun _ _ _ h => h) rfl ?_ hS ?_
    rotate_left
    · intro W' hW'
      obtain ⟨s0, s1, s2, s3⟩ := hW'
      all_goals (go_simp; first | done | rfl)
    intro l' hl
    dsimp only [List.set_cons_succ, List.set_cons_zero] at hl
    subst hl
    refine anyX_takeNL 21 (v := ?_) rfl rfl (by as_aux_lemma => kernel_rfl) (by as_aux_lemma => kernel_rfl) (by as_aux_lemma => kernel_rfl) (by as_aux_lemma => kernel_rfl) (by as_aux_lemma => kernel_rfl) (fun _ _ _ h => h) rfl ?_ hS ?_
    rotate_left
    · intro W' hW'
      obtain ⟨s0, s1, s2, s3⟩ := hW'
      all_goals (go_simp; first | done | rfl)
    intro l' hl
    dsimp only [List.set_cons_succ, List.set_cons_zero] at hl
    subst hl
    refine anyX_done (by kernel_rfl) ?_ _
    refine NoPanic.normal ?_
    clear hS
    clear o1 o2 o3 o4
    go_wp2
    go_ret
    exact ⟨ow13, _, _, rfl, hT, hR, t⟩
  have b0 : (o.kind == 0) = false := beq_eq_false_iff_ne.2 k0
  by_cases k1 : o.kind = 1
  · have b1 : (o.kind == 1) = true := beq_iff_eq.2 k1
    clear k0
    clear k1
    have o0 := ho.get 0 rfl
    simp only [Nat.zero_add] at o0
    obtain ⟨E, he⟩ : ∃ E, unlockE U T o.job o.res = E := ⟨_, rfl⟩
    have bE : (E == E) = true := beq_self_eq_true _
    have HE := Lib.hid he
    clear he
    obtain ⟨N, hn⟩ : ∃ N, unlockN U T o.job o.res = N := ⟨_, rfl⟩
    have bN : (N == N) = true := beq_self_eq_true _
    have HN := Lib.hid hn
    clear hn
    go_enter Try.func44, Try.ntmps44
    go_upto_region 5 with fail
    rw [Hw1.out]
    rw [← Hgx.out]
    clear Hw1 Hgx
    clear o0
    have o1 := ho.get 1 rfl
    have o2 := ho.get 2 rfl
    simp only [Nat.zero_add] at o1 o2
    go_wp2_with fail
    refine (unlock w1 ow1 [1, 1] g U C T hT o.job o.res).mono ?_
    rw [HE.out, HN.out]
    rintro e w11 ⟨ow11, rfl, hn', tt⟩
    replace hR := hR.keep tt (fun s => by simp)
    replace ho := ho.keep tt (by simp)
    replace t := t.trans (tt.up (by simp))
    clear hT tt
    have hT := hn'
    clear hn'
    clear o1 o2
    have o1 := ho.get 1 rfl
    have o2 := ho.get 2 rfl
    simp only [Nat.zero_add] at o1 o2
    go_wp2_with fail
    refine (runlock w11 ow11 [1, 2] g2 U C T hR o.job o.res).mono ?_
    rw [HE.out, HN.out]
    rintro e w12 ⟨ow12, rfl, hn', tt⟩
    replace hT := hT.keep tt (fun s => by simp)
    replace ho := ho.keep tt (by simp)
    replace t := t.trans (tt.up (by simp))
    clear hR tt
    have hR := hn'
    clear hn'
    clear o1 o2
    go_wp2
    go_ret
    exact ⟨ow12, _, _, rfl, hT, hR, t⟩
  have b1 : (o.kind == 1) = false := beq_eq_false_iff_ne.2 k1
  by_cases k2 : o.kind = 2
  · have b2 : (o.kind == 2) = true := beq_iff_eq.2 k2
    clear k0
    clear k1
    clear k2
    have o0 := ho.get 0 rfl
    simp only [Nat.zero_add] at o0
    have bL : (((locksOf T o.job).length : Int) == ((locksOf T o.job).length : Int)) = true := beq_self_eq_true _
    go_enter Try.func44, Try.ntmps44
    go_upto_region 9 with fail
    rw [Hw1.out]
    rw [← Hgx.out]
    clear Hw1 Hgx
    clear o0
    refine plain_regionN (fun W' : World => W'.cell? ⟨gx, 1, none⟩ = some (.int .i64 o.job)) [] (by kernel_rfl) ?_
    have nn : New w1 ow1 w1.drew ow1 := (New.refl _ _).drew
    replace hT := hT.new_ nn
    replace hR := hR.new_ nn
    replace ho := ho.new_ nn
    replace t := t.trans (nn.turn [1])
    clear nn
    generalize w1.drew = w11 at *
    have o1 := ho.get 1 rfl
    simp only [Nat.zero_add] at o1
    have hS : (fun W' : World => W'.cell? ⟨gx, 1, none⟩ = some (.int .i64 o.job)) w11 := o1
    refine anyX_takeNL 0 (v := ?_) rfl rfl (by as_aux_lemma => kernel_rfl) (by as_aux_lemma => kernel_rfl) (by as_aux_lemma => kernel_rfl) (by as_aux_lemma => kernel_rfl) (by as_aux_lemma => kernel_rfl) (fun _ _ _ h => h) rfl ?_ hS ?_
    rotate_left
    · intro W' hW'
      obtain s0 := hW'
      all_goals (go_simp; first | done | rfl)
    intro l' hl
    dsimp only [List.set_cons_succ, List.set_cons_zero] at hl
    subst hl
    refine anyX_takeNL 1 (v := ?_) rfl rfl (by as_aux_lemma => kernel_rfl) (by as_aux_lemma => kernel_rfl) (by as_aux_lemma => kernel_rfl) (by as_aux_lemma => kernel_rfl) (by as_aux_lemma => kernel_rfl) (fun _ _ _ h => h) rfl ?_ hS ?_
    rotate_left
    · intro W' hW'
      obtain s0 := hW'
      all_goals (go_simp; first | done | rfl)
    intro l' hl
    dsimp only [List.set_cons_succ, List.set_cons_zero] at hl
    subst hl
    refine anyX_takeNL 2 (v := ?_) rfl rfl (by as_aux_lemma => kernel_rfl) (by as_aux_lemma => kernel_rfl) (by as_aux_lemma => kernel_rfl) (by as_aux_lemma => kernel_rfl) (by as_aux_lemma => kernel_rfl) (fun _ _ _ h => h) rfl ?_ hS ?_
    rotate_left
    · intro W' hW'
      obtain s0 := hW'
      all_goals (go_simp; first | done | rfl)
    intro l' hl
    dsimp only [List.set_cons_succ, List.set_cons_zero] at hl
    subst hl
    refine anyX_takeNL 4 (v := ?_) rfl rfl (by as_aux_lemma => kernel_rfl) (by as_aux_lemma => kernel_rfl) (by as_aux_lemma => kernel_rfl) (by as_aux_lemma => kernel_rfl) (by as_aux_lemma => kernel_rfl) (fun _ _ _ h => h) rfl ?_ hS ?_
    rotate_left
    · intro W' hW'
      obtain s0 := hW'
      all_goals (go_simp; first | done | rfl)
    intro l' hl
    dsimp only [List.set_cons_succ, List.set_cons_zero] at hl
    subst hl
    refine anyX_takeNL 5 (v := ?_) rfl rfl (by as_aux_lemma => kernel_rfl) (by as_aux_lemma => kernel_rfl) (by as_aux_lemma => kernel_rfl) (by as_aux_lemma => kernel_rfl) (by as_aux_lemma => kernel_rfl) (fun _ _ _ h => h) rfl ?_ hS ?_
    rotate_left
    · intro W' hW'
      obtain s0 := hW'
      all_goals (go_simp; first | done | rfl)
    intro l' hl
    dsimp only [List.set_cons_succ, List.set_cons_zero] at hl
    subst hl
    refine anyX_takeNL 6 (v := ?_) rfl rfl (by as_aux_lemma => kernel_rfl) (by as_aux_lemma => kernel_rfl) (by as_aux_lemma => kernel_rfl) (by as_aux_lemma => kernel_rfl) (by as_aux_lemma => kernel_rfl) (fun _ _ _ h => h) rfl ?_ hS ?_
    rotate_left
    · intro W' hW'
      obtain s0 := hW'
      all_goals (go_simp; first | done | rfl)
    intro l' hl
    dsimp only [List.set_cons_succ, List.set_cons_zero] at hl
    subst hl
    refine anyX_one (i := 3) (by kernel_rfl) rfl rfl fun K' hK' => ?_
    unfold Oper.wp
    go_simp
    clear hS
    clear o1
    refine (drop w11 ow1 [1, 1] g U C T hT o.job).mono ?_
    rintro e w12 ⟨ow12, rfl, hn', tt⟩
    replace hR := hR.keep tt (fun s => by simp)
    replace ho := ho.keep tt (by simp)
    replace t := t.trans (tt.up (by simp))
    clear hT tt
    have hT := hn'
    clear hn'
    have o1 := ho.get 1 rfl
    simp only [Nat.zero_add] at o1
    have hS : (fun W' : World => W'.cell? ⟨gx, 1, none⟩ = some (.int .i64 o.job)) w12 := o1
    refine hK' _ _ (fun _ => hS) ?_
    clear hK' K'
    refine anyX_one (i := 7) (by kernel_rfl) rfl rfl fun K' hK' => ?_
    unfold Oper.wp
    go_simp
    clear hS
    clear o1
    refine (rdrop w12 ow12 [1, 2] g2 U C T hR o.job).mono ?_
    rintro e w13 ⟨ow13, rfl, hn', tt⟩
    replace hT := hT.keep tt (fun s => by simp)
    replace ho := ho.keep tt (by simp)
    replace t := t.trans (tt.up (by simp))
    clear hR tt
    have hR := hn'
    clear hn'
    have o1 := ho.get 1 rfl
    simp only [Nat.zero_add] at o1
    have hS : (fun W' : World => W'.cell? ⟨gx, 1, none⟩ = some (.int .i64 o.job)) w13 := o1
    refine hK' _ _ (fun _ => hS) ?_
    clear hK' K'
    refine anyX_takeNL 8 (v := ?_) rfl rfl (by as_aux_lemma => kernel_rfl) (by as_aux_lemma => kernel_rfl) (by as_aux_lemma => kernel_rfl) (by as_aux_lemma => kernel_rfl) (by as_aux_lemma => kernel_rfl) (fun _ _ _ h => h) rfl ?_ hS ?_
    rotate_left
    · intro W' hW'
      obtain s0 := hW'
      all_goals (go_simp; first | done | rfl)
    intro l' hl
    dsimp only [List.set_cons_succ, List.set_cons_zero] at hl
    subst hl
    refine anyX_takeNL 9 (v := ?_) rfl rfl (by as_aux_lemma => kernel_rfl) (by as_aux_lemma => kernel_rfl) (by as_aux_lemma => kernel_rfl) (by as_aux_lemma => kernel_rfl) (by as_aux_lemma => kernel_rfl) (fun _ _ _ h => h) rfl ?_ hS ?_
    rotate_left
    · intro W' hW'
      obtain s0 := hW'
      all_goals (go_simp; first | done | rfl)
    intro l' hl
    dsimp only [List.set_cons_succ, List.set_cons_zero] at hl
    subst hl
    refine anyX_done (by kernel_rfl) ?_ _
    refine NoPanic.normal ?_
    clear hS
    clear o1
    go_wp2
    go_ret
    exact ⟨ow13, _, _, rfl, hT, hR, t⟩
  have b2 : (o.kind == 2) = false := beq_eq_false_iff_ne.2 k2
  by_cases k3 : o.kind = 3
  · have b3 : (o.kind == 3) = true := beq_iff_eq.2 k3
    clear k0
    clear k1
    clear k2
    clear k3
    have o0 := ho.get 0 rfl
    simp only [Nat.zero_add] at o0
    obtain ⟨E, he⟩ : ∃ E, cellE U T o.job o.res = E := ⟨_, rfl⟩
    have bE : (E == E) = true := beq_self_eq_true _
    have HE := Lib.hid he
    clear he
    obtain ⟨N, hn⟩ : ∃ N, (if E = 0 then cellQ C o.res else 0) = N := ⟨_, rfl⟩
    have bN : (N == N) = true := beq_self_eq_true _
    have HN := Lib.hid hn
    clear hn
    go_enter Try.func44, Try.ntmps44
    go_upto_region 11 with fail
    rw [Hw1.out]
    rw [← Hgx.out]
    clear Hw1 Hgx
    clear o0
    have o1 := ho.get 1 rfl
    have o2 := ho.get 2 rfl
    simp only [Nat.zero_add] at o1 o2
    go_wp2_with fail
    refine (UN.load w1 ow1 [1, 1] g U C T hT o.job o.res).mono ?_
    rw [HE.out, HN.out]
    rintro e w11 ⟨rfl, bb⟩
    have nn := bb.nw ow1
    replace hT := hT.new_ nn
    replace hR := hR.new_ nn
    replace ho := ho.new_ nn
    replace t := t.trans (nn.turn [1])
    clear nn
    clear bb
    clear o1 o2
    have o1 := ho.get 1 rfl
    have o2 := ho.get 2 rfl
    simp only [Nat.zero_add] at o1 o2
    go_wp2_with fail
    refine (rload w11 ow1 [1, 2] g2 U C T hR o.job o.res).mono ?_
    rw [HE.out, HN.out]
    rintro e w' ⟨rfl, rfl⟩
    clear o1 o2
    go_wp2
    go_ret
    exact ⟨ow1, _, _, rfl, hT, hR, t⟩
  have b3 : (o.kind == 3) = false := beq_eq_false_iff_ne.2 k3
  by_cases k4 : o.kind = 4
  · have b4 : (o.kind == 4) = true := beq_iff_eq.2 k4
    clear k0
    clear k1
    clear k2
    clear k3
    clear k4
    have o0 := ho.get 0 rfl
    simp only [Nat.zero_add] at o0
    obtain ⟨E, he⟩ : ∃ E, cellE U T o.job o.res = E := ⟨_, rfl⟩
    have bE : (E == E) = true := beq_self_eq_true _
    have HE := Lib.hid he
    clear he
    go_enter Try.func44, Try.ntmps44
    go_upto_region 15 with fail
    rw [Hw1.out]
    rw [← Hgx.out]
    clear Hw1 Hgx
    clear o0
    refine plain_regionN (fun W' : World => W'.cell? ⟨gx, 1, none⟩ = some (.int .i64 o.job) ∧ W'.cell? ⟨gx, 2, none⟩ = some (.int .i64 o.res) ∧ W'.cell? ⟨gx, 5, none⟩ = some (.int .i64 o.v)) [] (by kernel_rfl) ?_
    have nn : New w1 ow1 w1.drew ow1 := (New.refl _ _).drew
    replace hT := hT.new_ nn
    replace hR := hR.new_ nn
    replace ho := ho.new_ nn
    replace t := t.trans (nn.turn [1])
    clear nn
    generalize w1.drew = w11 at *
    have o1 := ho.get 1 rfl
    have o2 := ho.get 2 rfl
    have o5 := ho.get 5 rfl
    simp only [Nat.zero_add] at o1 o2 o5
    have hS : (fun W' : World => W'.cell? ⟨gx, 1, none⟩ = some (.int .i64 o.job) ∧ W'.cell? ⟨gx, 2, none⟩ = some (.int .i64 o.res) ∧ W'.cell? ⟨gx, 5, none⟩ = some (.int .i64 o.v)) w11 := ⟨o1, o2, o5⟩
    refine anyX_takeNL 0 (v := ?_) rfl rfl (by as_aux_lemma => kernel_rfl) (by as_aux_lemma => kernel_rfl) (by as_aux_lemma => kernel_rfl) (by as_aux_lemma => kernel_rfl) (by as_aux_lemma => kernel_rfl) (fun _ _ _ h => h) rfl ?_ hS ?_
    rotate_left
    · intro W' hW'
      obtain ⟨s0, s1, s2⟩ := hW'
      all_goals (go_simp; first | done | rfl)
    intro l' hl
    dsimp only [List.set_cons_succ, List.set_cons_zero] at hl
    subst hl
    refine anyX_takeNL 1 (v := ?_) rfl rfl (by as_aux_lemma => kernel_rfl) (by as_aux_lemma => kernel_rfl) (by as_aux_lemma => kernel_rfl) (by as_aux_lemma => kernel_rfl) (by as_aux_lemma => kernel_rfl) (fun _ _ _ h => h) rfl ?_ hS ?_
    rotate_left
    · intro W' hW'
      obtain ⟨s0, s1, s2⟩ := hW'
      all_goals (go_simp; first | done | rfl)
    intro l' hl
    dsimp only [List.set_cons_succ, List.set_cons_zero] at hl
    subst hl
    refine anyX_takeNL 2 (v := ?_) rfl rfl (by as_aux_lemma => kernel_rfl) (by as_aux_lemma => kernel_rfl) (by as_aux_lemma => kernel_rfl) (by as_aux_lemma => kernel_rfl) (by as_aux_lemma => kernel_rfl) (fun _ _ _ h => h) rfl ?_ hS ?_
    rotate_left
    · intro W' hW'
      obtain ⟨s0, s1, s2⟩ := hW'
      all_goals (go_simp; first | done | rfl)
    intro l' hl
    dsimp only [List.set_cons_succ, List.set_cons_zero] at hl
    subst hl
    refine anyX_takeNL 3 (v := ?_) rfl rfl (by as_aux_lemma => kernel_rfl) (by as_aux_lemma => kernel_rfl) (by as_aux_lemma => kernel_rfl) (by as_aux_lemma => kernel_rfl) (by as_aux_lemma => kernel_rfl) (fun _ _ _ h => h) rfl ?_ hS ?_
    rotate_left
    · intro W' hW'
      obtain ⟨s0, s1, s2⟩ := hW'
      all_goals (go_simp; first | done | rfl)
    intro l' hl
    dsimp only [List.set_cons_succ, List.set_cons_zero] at hl
    subst hl
    refine anyX_takeNL 4 (v := ?_) rfl rfl (by as_aux_lemma => kernel_rfl) (by as_aux_lemma => kernel_rfl) (by as_aux_lemma => kernel_rfl) (by as_aux_lemma => kernel_rfl) (by as_aux_lemma => kernel_rfl) (fun _ _ _ h => h) rfl ?_ hS ?_
    rotate_left
    · intro W' hW'
      obtain ⟨s0, s1, s2⟩ := hW'
      all_goals (go_simp; first | done | rfl)
    intro l' hl
    dsimp only [List.set_cons_succ, List.set_cons_zero] at hl
    subst hl
    refine anyX_takeNL 5 (v := ?_) rfl rfl (by as_aux_lemma => kernel_rfl) (by as_aux_lemma => kernel_rfl) (by as_aux_lemma => kernel_rfl) (by as_aux_lemma => kernel_rfl) (by as_aux_lemma => kernel_rfl) (fun _ _ _ h => h) rfl ?_ hS ?_
    rotate_left
    · intro W' hW'
      obtain ⟨s0, s1, s2⟩ := hW'
      all_goals (go_simp; first | done | rfl)
    intro l' hl
    dsimp only [List.set_cons_succ, List.set_cons_zero] at hl
    subst hl
    refine anyX_takeNL 6 (v := ?_) rfl rfl (by as_aux_lemma => kernel_rfl) (by as_aux_lemma => kernel_rfl) (by as_aux_lemma => kernel_rfl) (by as_aux_lemma => kernel_rfl) (by as_aux_lemma => kernel_rfl) (fun _ _ _ h => h) rfl ?_ hS ?_
    rotate_left
    · intro W' hW'
      obtain ⟨s0, s1, s2⟩ := hW'
      all_goals (go_simp; first | done | rfl)
    intro l' hl
    dsimp only [List.set_cons_succ, List.set_cons_zero] at hl
    subst hl
    refine anyX_takeNL 8 (v := ?_) rfl rfl (by as_aux_lemma => kernel_rfl) (by as_aux_lemma => kernel_rfl) (by as_aux_lemma => kernel_rfl) (by as_aux_lemma => kernel_rfl) (by as_aux_lemma => kernel_rfl) (fun _ _ _ h => h) rfl ?_ hS ?_
    rotate_left
    · intro W' hW'
      obtain ⟨s0, s1, s2⟩ := hW'
      all_goals (go_simp; first | done | rfl)
    intro l' hl
    dsimp only [List.set_cons_succ, List.set_cons_zero] at hl
    subst hl
    refine anyX_takeNL 9 (v := ?_) rfl rfl (by as_aux_lemma => kernel_rfl) (by as_aux_lemma => kernel_rfl) (by as_aux_lemma => kernel_rfl) (by as_aux_lemma => kernel_rfl) (by as_aux_lemma => kernel_rfl) (fun _ _ _ h => h) rfl ?_ hS ?_
    rotate_left
    · intro W' hW'
      obtain ⟨s0, s1, s2⟩ := hW'
      all_goals (go_simp; first | done | rfl)
    intro l' hl
    dsimp only [List.set_cons_succ, List.set_cons_zero] at hl
    subst hl
    refine anyX_takeNL 10 (v := ?_) rfl rfl (by as_aux_lemma => kernel_rfl) (by as_aux_lemma => kernel_rfl) (by as_aux_lemma => kernel_rfl) (by as_aux_lemma => kernel_rfl) (by as_aux_lemma => kernel_rfl) (fun _ _ _ h => h) rfl ?_ hS ?_
    rotate_left
    · intro W' hW'
      obtain ⟨s0, s1, s2⟩ := hW'
      all_goals (go_simp; first | done | rfl)
    intro l' hl
    dsimp only [List.set_cons_succ, List.set_cons_zero] at hl
    subst hl
    refine anyX_takeNL 11 (v := ?_) rfl rfl (by as_aux_lemma => kernel_rfl) (by as_aux_lemma => kernel_rfl) (by as_aux_lemma => kernel_rfl) (by as_aux_lemma => kernel_rfl) (by as_aux_lemma => kernel_rfl) (fun _ _ _ h => h) rfl ?_ hS ?_
    rotate_left
    · intro W' hW'
      obtain ⟨s0, s1, s2⟩ := hW'
      all_goals (go_simp; first | done | rfl)
    intro l' hl
    dsimp only [List.set_cons_succ, List.set_cons_zero] at hl
    subst hl
    refine anyX_takeNL 12 (v := ?_) rfl rfl (by as_aux_lemma => kernel_rfl) (by as_aux_lemma => kernel_rfl) (by as_aux_lemma => kernel_rfl) (by as_aux_lemma => kernel_rfl) (by as_aux_lemma => kernel_rfl) (fun _ _ _ h => h) rfl ?_ hS ?_
    rotate_left
    · intro W' hW'
      obtain ⟨s0, s1, s2⟩ := hW'
      all_goals (go_simp; first | done | rfl)
    intro l' hl
    dsimp only [List.set_cons_succ, List.set_cons_zero] at hl
    subst hl
    refine anyX_takeNL 13 (v := ?_) rfl rfl (by as_aux_lemma => kernel_rfl) (by as_aux_lemma => kernel_rfl) (by as_aux_lemma => kernel_rfl) (by as_aux_lemma => kernel_rfl) (by as_aux_lemma => kernel_rfl) (fun _ _ _ h => h) rfl ?_ hS ?_
    rotate_left
    · intro W' hW'
      obtain ⟨s0, s1, s2⟩ := hW'
      all_goals (go_simp; first | done | rfl)
    intro l' hl
    dsimp only [List.set_cons_succ, List.set_cons_zero] at hl
    subst hl
    refine anyX_takeNL 14 (v := ?_) rfl rfl (by as_aux_lemma => kernel_rfl) (by as_aux_lemma => kernel_rfl) (by as_aux_lemma => kernel_rfl) (by as_aux_lemma => kernel_rfl) (by as_aux_lemma => kernel_rfl) (fun _ _ _ h => h) rfl ?_ hS ?_
    rotate_left
    · intro W' hW'
      obtain ⟨s0, s1, s2⟩ := hW'
      all_goals (go_simp; first | done | rfl)
    intro l' hl
    dsimp only [List.set_cons_succ, List.set_cons_zero] at hl
    subst hl
    refine anyX_one (i := 7) (by kernel_rfl) rfl rfl fun K' hK' => ?_
    unfold Oper.wp
    go_simp
    clear hS
    clear o1 o2 o5
    refine (UN.store w11 ow1 [1, 1] g U C T hT o.job o.res o.v).mono ?_
    rw [HE.out]
    rintro e w12 ⟨ow12, rfl, hn', tt⟩
    replace hR := hR.keep tt (fun s => by simp)
    replace ho := ho.keep tt (by simp)
    replace t := t.trans (tt.up (by simp))
    clear hT tt
    have hT := hn'
    clear hn'
    have o1 := ho.get 1 rfl
    have o2 := ho.get 2 rfl
    have o5 := ho.get 5 rfl
    simp only [Nat.zero_add] at o1 o2 o5
    have hS : (fun W' : World => W'.cell? ⟨gx, 1, none⟩ = some (.int .i64 o.job) ∧ W'.cell? ⟨gx, 2, none⟩ = some (.int .i64 o.res) ∧ W'.cell? ⟨gx, 5, none⟩ = some (.int .i64 o.v)) w12 := ⟨o1, o2, o5⟩
    refine hK' _ _ (fun _ => hS) ?_
    clear hK' K'
    refine anyX_one (i := 15) (by kernel_rfl) rfl rfl fun K' hK' => ?_
    unfold Oper.wp
    go_simp
    clear hS
    clear o1 o2 o5
    refine (rstore w12 ow12 [1, 2] g2 U C T hR o.job o.res o.v).mono ?_
    rw [HE.out]
    rintro e w13 ⟨ow13, rfl, hn', tt⟩
    replace hT := hT.keep tt (fun s => by simp)
    replace ho := ho.keep tt (by simp)
    replace t := t.trans (tt.up (by simp))
    clear hR tt
    have hR := hn'
    clear hn'
    have o1 := ho.get 1 rfl
    have o2 := ho.get 2 rfl
    have o5 := ho.get 5 rfl
    simp only [Nat.zero_add] at o1 o2 o5
    have hS : (fun W' : World => W'.cell? ⟨gx, 1, none⟩ = some (.int .i64 o.job) ∧ W'.cell? ⟨gx, 2, none⟩ = some (.int .i64 o.res) ∧ W'.cell? ⟨gx, 5, none⟩ = some (.int .i64 o.v)) w13 := ⟨o1, o2, o5⟩
    refine hK' _ _ (fun _ => hS) ?_
    clear hK' K'
    refine anyX_takeNL 16 (v := ?_) rfl rfl (by as_aux_lemma => kernel_rfl) (by as_aux_lemma => kernel_rfl) (by as_aux_lemma => kernel_rfl) (by as_aux_lemma => kernel_rfl) (by as_aux_lemma => kernel_rfl) (fun _ _ _ h => h) rfl ?_ hS ?_
    rotate_left
    · intro W' hW'
      obtain ⟨s0, s1, s2⟩ := hW'
      all_goals (go_simp; first | done | rfl)
    intro l' hl
    dsimp only [List.set_cons_succ, List.set_cons_zero] at hl
    subst hl
    refine anyX_takeNL 17 (v := ?_) rfl rfl (by as_aux_lemma => kernel_rfl) (by as_aux_lemma => kernel_rfl) (by as_aux_lemma => kernel_rfl) (by as_aux_lemma => kernel_rfl) (by as_aux_lemma => kernel_rfl) (fun _ _ _ h => h) rfl ?_ hS ?_
    rotate_left
    · intro W' hW'
      obtain ⟨s0, s1, s2⟩ := hW'
      all_goals (go_simp; first | done | rfl)
    intro l' hl
    dsimp only [List.set_cons_succ, List.set_cons_zero] at hl
    subst hl
    refine anyX_done (by kernel_rfl) ?_ _
    refine NoPanic.normal ?_
    clear hS
    clear o1 o2 o5
    go_wp2
    go_ret
    exact ⟨ow13, _, _, rfl, hT, hR, t⟩
  have b4 : (o.kind == 4) = false := beq_eq_false_iff_ne.2 k4
  clear k0
  clear k1
  clear k2
  clear k3
  clear k4
  have o0 := ho.get 0 rfl
  simp only [Nat.zero_add] at o0
  go_enter Try.func44, Try.ntmps44
  go_upto_region 16 with fail
  rw [Hw1.out]
  rw [← Hgx.out]
  clear Hw1 Hgx
  clear o0
  go_wp2
  go_ret
  exact ⟨ow1, _, _, rfl, hT, hR, t⟩

set_option maxRecDepth 100000 in
set_option maxHeartbeats 16000000 in
theorem shows (w : World) (ow : Ow) (g g2 : Nat) (U C : List Int) (T : List Tk) (hT : UT w ow [1, 1] g U C T) (hR : RT w ow [1, 2] g2 U C T) (job res : Int) :
    Calls Try.prog 45 #[.pointer (some ⟨g, 0, none⟩), .pointer (some ⟨g2, 0, none⟩), .int .i64 job, .int .i64 res] w fun e w' => e = .returned (.bool true) ∧ Below w.heap.size w w' := by
  have hlT : T.length ≤ 4080 := hR.1.len
  have hlk := locks_len T job
  have hlC : C.length ≤ 16 := by have := hR.1.cl; have := hR.1.ul; omega
  have t := New.refl w ow
  have bU : ((U.length : Int) == (U.length : Int)) = true := beq_self_eq_true _
  obtain ⟨ut, hut⟩ : ∃ x, unitsOf U res = x := ⟨_, rfl⟩
  obtain ⟨fq, hfq⟩ : ∃ x, freeQ U T res = x := ⟨_, rfl⟩
  obtain ⟨hq, hhq⟩ : ∃ x, heldQ U T job res = x := ⟨_, rfl⟩
  obtain ⟨cq, hcq⟩ : ∃ x, cellQ C res = x := ⟨_, rfl⟩
  have but : (ut == ut) = true := beq_self_eq_true _
  have bfq : (fq == fq) = true := beq_self_eq_true _
  have bhq : (hq == hq) = true := beq_self_eq_true _
  have bcq : (cq == cq) = true := beq_self_eq_true _
  have Hut := Lib.hid hut
  have Hfq := Lib.hid hfq
  have Hhq := Lib.hid hhq
  have Hcq := Lib.hid hcq
  clear hut hfq hhq hcq
  go_enter Try.func45, Try.ntmps45
  obtain ⟨-, VU, VL, VC, e1, e2, e3, e4⟩ := id hR
  obtain ⟨AU, cU, rfl, -⟩ := e2.slice
  obtain ⟨AC, cC, rfl, -⟩ := e4.slice
  have c0 := e1.get0
  have c2 := e1.get 2 rfl
  simp only [Nat.zero_add] at c2
  have C0 := Lib.hid c0
  have C2 := Lib.hid c2
  have hrc := e4.reads
  have Hrc := Lib.hid hrc
  clear e1 e2 e3 e4 c0 c2 hrc
  go_wp2_with fail
  refine plain_regionN (fun W' : World => W'.cell? ⟨g2, 0, none⟩ = some (.slice AU U.length cU) ∧ W'.cell? ⟨g2, 2, none⟩ = some (.slice AC C.length cC)) [] (by kernel_rfl) ?_
  have nn : New w ow w.drew ow := (New.refl _ _).drew
  replace hT := hT.new_ nn
  replace hR := hR.new_ nn
  replace t := t.trans nn
  clear nn
  generalize w.drew = w11 at *
  have hS : (fun W' : World => W'.cell? ⟨g2, 0, none⟩ = some (.slice AU U.length cU) ∧ W'.cell? ⟨g2, 2, none⟩ = some (.slice AC C.length cC)) w11 := ⟨up_cell t.below C0.out, up_cell t.below C2.out⟩
  refine anyX_takeNL 0 (v := ?_) rfl rfl (by as_aux_lemma => kernel_rfl) (by as_aux_lemma => kernel_rfl) (by as_aux_lemma => kernel_rfl) (by as_aux_lemma => kernel_rfl) (by as_aux_lemma => kernel_rfl) (fun _ _ _ h => h) rfl ?_ hS ?_
  rotate_left
  · intro W' hW'
    obtain ⟨s0, s1⟩ := hW'
    all_goals (go_simp; first | done | rfl)
  intro l' hl
  dsimp only [List.set_cons_succ, List.set_cons_zero] at hl
  subst hl
  refine anyX_takeNL 2 (v := ?_) rfl rfl (by as_aux_lemma => kernel_rfl) (by as_aux_lemma => kernel_rfl) (by as_aux_lemma => kernel_rfl) (by as_aux_lemma => kernel_rfl) (by as_aux_lemma => kernel_rfl) (fun _ _ _ h => h) rfl ?_ hS ?_
  rotate_left
  · intro W' hW'
    obtain ⟨s0, s1⟩ := hW'
    all_goals (go_simp; first | done | rfl)
  intro l' hl
  dsimp only [List.set_cons_succ, List.set_cons_zero] at hl
  subst hl
  refine anyX_takeNL 3 (v := ?_) rfl rfl (by as_aux_lemma => kernel_rfl) (by as_aux_lemma => kernel_rfl) (by as_aux_lemma => kernel_rfl) (by as_aux_lemma => kernel_rfl) (by as_aux_lemma => kernel_rfl) (fun _ _ _ h => h) rfl ?_ hS ?_
  rotate_left
  · intro W' hW'
    obtain ⟨s0, s1⟩ := hW'
    all_goals (go_simp; first | done | rfl)
  intro l' hl
  dsimp only [List.set_cons_succ, List.set_cons_zero] at hl
  subst hl
  refine anyX_takeNL 4 (v := ?_) rfl rfl (by as_aux_lemma => kernel_rfl) (by as_aux_lemma => kernel_rfl) (by as_aux_lemma => kernel_rfl) (by as_aux_lemma => kernel_rfl) (by as_aux_lemma => kernel_rfl) (fun _ _ _ h => h) rfl ?_ hS ?_
  rotate_left
  · intro W' hW'
    obtain ⟨s0, s1⟩ := hW'
    all_goals (go_simp; first | done | rfl)
  intro l' hl
  dsimp only [List.set_cons_succ, List.set_cons_zero] at hl
  subst hl
  refine anyX_takeNL 5 (v := ?_) rfl rfl (by as_aux_lemma => kernel_rfl) (by as_aux_lemma => kernel_rfl) (by as_aux_lemma => kernel_rfl) (by as_aux_lemma => kernel_rfl) (by as_aux_lemma => kernel_rfl) (fun _ _ _ h => h) rfl ?_ hS ?_
  rotate_left
  · intro W' hW'
    obtain ⟨s0, s1⟩ := hW'
    all_goals (go_simp; first | done | rfl)
  intro l' hl
  dsimp only [List.set_cons_succ, List.set_cons_zero] at hl
  subst hl
  refine anyX_takeNL 6 (v := ?_) rfl rfl (by as_aux_lemma => kernel_rfl) (by as_aux_lemma => kernel_rfl) (by as_aux_lemma => kernel_rfl) (by as_aux_lemma => kernel_rfl) (by as_aux_lemma => kernel_rfl) (fun _ _ _ h => h) rfl ?_ hS ?_
  rotate_left
  · intro W' hW'
    obtain ⟨s0, s1⟩ := hW'
    all_goals (go_simp; first | done | rfl)
  intro l' hl
  dsimp only [List.set_cons_succ, List.set_cons_zero] at hl
  subst hl
  refine anyX_one (i := 1) (by kernel_rfl) rfl rfl fun K' hK' => ?_
  unfold Oper.wp
  go_simp
  clear hS
  refine (len_ w11 ow [1, 1] g U C T hT).mono ?_
  rintro e w12 ⟨rfl, kk, hw'⟩
  have nn : New w11 ow w12 ow := by rw [hw']; exact (New.refl _ _).drewN kk
  clear hw'
  replace hT := hT.new_ nn
  replace hR := hR.new_ nn
  replace t := t.trans nn
  clear nn
  have hS : (fun W' : World => W'.cell? ⟨g2, 0, none⟩ = some (.slice AU U.length cU) ∧ W'.cell? ⟨g2, 2, none⟩ = some (.slice AC C.length cC)) w12 := ⟨up_cell t.below C0.out, up_cell t.below C2.out⟩
  refine hK' _ _ (fun _ => hS) ?_
  clear hK' K'
  refine anyX_takeNL 7 (v := ?_) rfl rfl (by as_aux_lemma => kernel_rfl) (by as_aux_lemma => kernel_rfl) (by as_aux_lemma => kernel_rfl) (by as_aux_lemma => kernel_rfl) (by as_aux_lemma => kernel_rfl) (fun _ _ _ h => h) rfl ?_ hS ?_
  rotate_left
  · intro W' hW'
    obtain ⟨s0, s1⟩ := hW'
    all_goals (go_simp; first | done | rfl)
  intro l' hl
  dsimp only [List.set_cons_succ, List.set_cons_zero] at hl
  subst hl
  refine anyX_takeNL 8 (v := ?_) rfl rfl (by as_aux_lemma => kernel_rfl) (by as_aux_lemma => kernel_rfl) (by as_aux_lemma => kernel_rfl) (by as_aux_lemma => kernel_rfl) (by as_aux_lemma => kernel_rfl) (fun _ _ _ h => h) rfl ?_ hS ?_
  rotate_left
  · intro W' hW'
    obtain ⟨s0, s1⟩ := hW'
    all_goals (go_simp; first | done | rfl)
  intro l' hl
  dsimp only [List.set_cons_succ, List.set_cons_zero] at hl
  subst hl
  refine anyX_takeWL 9 (v := ?_) rfl rfl (by as_aux_lemma => kernel_rfl) (by as_aux_lemma => kernel_rfl) (by as_aux_lemma => kernel_rfl) (by as_aux_lemma => kernel_rfl) (by as_aux_lemma => kernel_rfl) (fun _ _ _ h => h) (by rfl) ?_ hS ?_
  rotate_left
  · intro W' hW'
    obtain ⟨s0, s1⟩ := hW'
    all_goals (go_simp; first | done | rfl)
  intro l' hl
  dsimp only [List.set_cons_succ, List.set_cons_zero] at hl
  subst hl
  refine anyX_takeWL 10 (v := ?_) rfl rfl (by as_aux_lemma => kernel_rfl) (by as_aux_lemma => kernel_rfl) (by as_aux_lemma => kernel_rfl) (by as_aux_lemma => kernel_rfl) (by as_aux_lemma => kernel_rfl) (fun _ _ _ h => h) (by rfl) ?_ hS ?_
  rotate_left
  · intro W' hW'
    obtain ⟨s0, s1⟩ := hW'
    all_goals (go_simp; first | done | rfl)
  intro l' hl
  dsimp only [List.set_cons_succ, List.set_cons_zero] at hl
  subst hl
  refine anyX_takeWL 12 (v := ?_) rfl rfl (by as_aux_lemma => kernel_rfl) (by as_aux_lemma => kernel_rfl) (by as_aux_lemma => kernel_rfl) (by as_aux_lemma => kernel_rfl) (by as_aux_lemma => kernel_rfl) (fun _ _ _ h => h) (by rfl) ?_ hS ?_
  rotate_left
  · intro W' hW'
    obtain ⟨s0, s1⟩ := hW'
    all_goals (go_simp; first | done | rfl)
  intro l' hl
  dsimp only [List.set_cons_succ, List.set_cons_zero] at hl
  subst hl
  refine anyX_takeWL 13 (v := ?_) rfl rfl (by as_aux_lemma => kernel_rfl) (by as_aux_lemma => kernel_rfl) (by as_aux_lemma => kernel_rfl) (by as_aux_lemma => kernel_rfl) (by as_aux_lemma => kernel_rfl) (fun _ _ _ h => h) (by rfl) ?_ hS ?_
  rotate_left
  · intro W' hW'
    obtain ⟨s0, s1⟩ := hW'
    all_goals (go_simp; first | done | rfl)
  intro l' hl
  dsimp only [List.set_cons_succ, List.set_cons_zero] at hl
  subst hl
  refine anyX_oneW (i := 11) (by kernel_rfl) rfl (by rfl) fun K' hK' => ?_
  unfold Oper.wp
  go_simp
  clear hS
  refine (total w12 ow [1, 1] g U C T hT res).mono ?_
  rw [Hut.out]
  rintro e w13 ⟨rfl, bb⟩
  have nn := bb.nw ow
  replace hT := hT.new_ nn
  replace hR := hR.new_ nn
  replace t := t.trans nn
  clear nn
  clear bb
  have hS : (fun W' : World => W'.cell? ⟨g2, 0, none⟩ = some (.slice AU U.length cU) ∧ W'.cell? ⟨g2, 2, none⟩ = some (.slice AC C.length cC)) w13 := ⟨up_cell t.below C0.out, up_cell t.below C2.out⟩
  refine hK' _ _ (fun _ => hS) ?_
  clear hK' K'
  refine anyX_oneW (i := 14) (by kernel_rfl) rfl (by rfl) fun K' hK' => ?_
  unfold Oper.wp
  go_simp
  clear hS
  refine (rtotal w13 ow [1, 2] g2 U C T hR res).mono ?_
  rw [Hut.out]
  rintro e w14 ⟨rfl, hww⟩
  subst hww
  have hS : (fun W' : World => W'.cell? ⟨g2, 0, none⟩ = some (.slice AU U.length cU) ∧ W'.cell? ⟨g2, 2, none⟩ = some (.slice AC C.length cC)) w14 := ⟨up_cell t.below C0.out, up_cell t.below C2.out⟩
  refine hK' _ _ (fun _ => hS) ?_
  clear hK' K'
  refine anyX_takeWL 15 (v := ?_) rfl rfl (by as_aux_lemma => kernel_rfl) (by as_aux_lemma => kernel_rfl) (by as_aux_lemma => kernel_rfl) (by as_aux_lemma => kernel_rfl) (by as_aux_lemma => kernel_rfl) (fun _ _ _ h => h) (by rfl) ?_ hS ?_
  rotate_left
  · intro W' hW'
    obtain ⟨s0, s1⟩ := hW'
    all_goals (go_simp; first | done | rfl)
  intro l' hl
  dsimp only [List.set_cons_succ, List.set_cons_zero] at hl
  subst hl
  refine anyX_takeNL 16 (v := ?_) rfl rfl (by as_aux_lemma => kernel_rfl) (by as_aux_lemma => kernel_rfl) (by as_aux_lemma => kernel_rfl) (by as_aux_lemma => kernel_rfl) (by as_aux_lemma => kernel_rfl) (fun _ _ _ h => h) rfl ?_ hS ?_
  rotate_left
  · intro W' hW'
    obtain ⟨s0, s1⟩ := hW'
    all_goals (go_simp; first | done | rfl)
  intro l' hl
  dsimp only [List.set_cons_succ, List.set_cons_zero] at hl
  subst hl
  refine anyX_takeNL 17 (v := ?_) rfl rfl (by as_aux_lemma => kernel_rfl) (by as_aux_lemma => kernel_rfl) (by as_aux_lemma => kernel_rfl) (by as_aux_lemma => kernel_rfl) (by as_aux_lemma => kernel_rfl) (fun _ _ _ h => h) rfl ?_ hS ?_
  rotate_left
  · intro W' hW'
    obtain ⟨s0, s1⟩ := hW'
    all_goals (go_simp; first | done | rfl)
  intro l' hl
  dsimp only [List.set_cons_succ, List.set_cons_zero] at hl
  subst hl
  refine anyX_takeWL 18 (v := ?_) rfl rfl (by as_aux_lemma => kernel_rfl) (by as_aux_lemma => kernel_rfl) (by as_aux_lemma => kernel_rfl) (by as_aux_lemma => kernel_rfl) (by as_aux_lemma => kernel_rfl) (fun _ _ _ h => h) (by rfl) ?_ hS ?_
  rotate_left
  · intro W' hW'
    obtain ⟨s0, s1⟩ := hW'
    all_goals (go_simp; first | done | rfl)
  intro l' hl
  dsimp only [List.set_cons_succ, List.set_cons_zero] at hl
  subst hl
  refine anyX_takeWL 19 (v := ?_) rfl rfl (by as_aux_lemma => kernel_rfl) (by as_aux_lemma => kernel_rfl) (by as_aux_lemma => kernel_rfl) (by as_aux_lemma => kernel_rfl) (by as_aux_lemma => kernel_rfl) (fun _ _ _ h => h) (by rfl) ?_ hS ?_
  rotate_left
  · intro W' hW'
    obtain ⟨s0, s1⟩ := hW'
    all_goals (go_simp; first | done | rfl)
  intro l' hl
  dsimp only [List.set_cons_succ, List.set_cons_zero] at hl
  subst hl
  refine anyX_takeWL 21 (v := ?_) rfl rfl (by as_aux_lemma => kernel_rfl) (by as_aux_lemma => kernel_rfl) (by as_aux_lemma => kernel_rfl) (by as_aux_lemma => kernel_rfl) (by as_aux_lemma => kernel_rfl) (fun _ _ _ h => h) (by rfl) ?_ hS ?_
  rotate_left
  · intro W' hW'
    obtain ⟨s0, s1⟩ := hW'
    all_goals (go_simp; first | done | rfl)
  intro l' hl
  dsimp only [List.set_cons_succ, List.set_cons_zero] at hl
  subst hl
  refine anyX_takeWL 22 (v := ?_) rfl rfl (by as_aux_lemma => kernel_rfl) (by as_aux_lemma => kernel_rfl) (by as_aux_lemma => kernel_rfl) (by as_aux_lemma => kernel_rfl) (by as_aux_lemma => kernel_rfl) (fun _ _ _ h => h) (by rfl) ?_ hS ?_
  rotate_left
  · intro W' hW'
    obtain ⟨s0, s1⟩ := hW'
    all_goals (go_simp; first | done | rfl)
  intro l' hl
  dsimp only [List.set_cons_succ, List.set_cons_zero] at hl
  subst hl
  refine anyX_oneW (i := 20) (by kernel_rfl) rfl (by rfl) fun K' hK' => ?_
  unfold Oper.wp
  go_simp
  clear hS
  refine (free w14 ow [1, 1] g U C T hT res).mono ?_
  rw [Hfq.out]
  rintro e w15 ⟨rfl, bb⟩
  have nn := bb.nw ow
  replace hT := hT.new_ nn
  replace hR := hR.new_ nn
  replace t := t.trans nn
  clear nn
  clear bb
  have hS : (fun W' : World => W'.cell? ⟨g2, 0, none⟩ = some (.slice AU U.length cU) ∧ W'.cell? ⟨g2, 2, none⟩ = some (.slice AC C.length cC)) w15 := ⟨up_cell t.below C0.out, up_cell t.below C2.out⟩
  refine hK' _ _ (fun _ => hS) ?_
  clear hK' K'
  refine anyX_oneW (i := 23) (by kernel_rfl) rfl (by rfl) fun K' hK' => ?_
  unfold Oper.wp
  go_simp
  clear hS
  refine (rfree w15 ow [1, 2] g2 U C T hR res).mono ?_
  rw [Hfq.out]
  rintro e w16 ⟨rfl, hww⟩
  subst hww
  have hS : (fun W' : World => W'.cell? ⟨g2, 0, none⟩ = some (.slice AU U.length cU) ∧ W'.cell? ⟨g2, 2, none⟩ = some (.slice AC C.length cC)) w16 := ⟨up_cell t.below C0.out, up_cell t.below C2.out⟩
  refine hK' _ _ (fun _ => hS) ?_
  clear hK' K'
  refine anyX_takeWL 24 (v := ?_) rfl rfl (by as_aux_lemma => kernel_rfl) (by as_aux_lemma => kernel_rfl) (by as_aux_lemma => kernel_rfl) (by as_aux_lemma => kernel_rfl) (by as_aux_lemma => kernel_rfl) (fun _ _ _ h => h) (by rfl) ?_ hS ?_
  rotate_left
  · intro W' hW'
    obtain ⟨s0, s1⟩ := hW'
    all_goals (go_simp; first | done | rfl)
  intro l' hl
  dsimp only [List.set_cons_succ, List.set_cons_zero] at hl
  subst hl
  refine anyX_takeNL 25 (v := ?_) rfl rfl (by as_aux_lemma => kernel_rfl) (by as_aux_lemma => kernel_rfl) (by as_aux_lemma => kernel_rfl) (by as_aux_lemma => kernel_rfl) (by as_aux_lemma => kernel_rfl) (fun _ _ _ h => h) rfl ?_ hS ?_
  rotate_left
  · intro W' hW'
    obtain ⟨s0, s1⟩ := hW'
    all_goals (go_simp; first | done | rfl)
  intro l' hl
  dsimp only [List.set_cons_succ, List.set_cons_zero] at hl
  subst hl
  refine anyX_takeNL 26 (v := ?_) rfl rfl (by as_aux_lemma => kernel_rfl) (by as_aux_lemma => kernel_rfl) (by as_aux_lemma => kernel_rfl) (by as_aux_lemma => kernel_rfl) (by as_aux_lemma => kernel_rfl) (fun _ _ _ h => h) rfl ?_ hS ?_
  rotate_left
  · intro W' hW'
    obtain ⟨s0, s1⟩ := hW'
    all_goals (go_simp; first | done | rfl)
  intro l' hl
  dsimp only [List.set_cons_succ, List.set_cons_zero] at hl
  subst hl
  refine anyX_takeWL 27 (v := ?_) rfl rfl (by as_aux_lemma => kernel_rfl) (by as_aux_lemma => kernel_rfl) (by as_aux_lemma => kernel_rfl) (by as_aux_lemma => kernel_rfl) (by as_aux_lemma => kernel_rfl) (fun _ _ _ h => h) (by rfl) ?_ hS ?_
  rotate_left
  · intro W' hW'
    obtain ⟨s0, s1⟩ := hW'
    all_goals (go_simp; first | done | rfl)
  intro l' hl
  dsimp only [List.set_cons_succ, List.set_cons_zero] at hl
  subst hl
  refine anyX_takeWL 28 (v := ?_) rfl rfl (by as_aux_lemma => kernel_rfl) (by as_aux_lemma => kernel_rfl) (by as_aux_lemma => kernel_rfl) (by as_aux_lemma => kernel_rfl) (by as_aux_lemma => kernel_rfl) (fun _ _ _ h => h) (by rfl) ?_ hS ?_
  rotate_left
  · intro W' hW'
    obtain ⟨s0, s1⟩ := hW'
    all_goals (go_simp; first | done | rfl)
  intro l' hl
  dsimp only [List.set_cons_succ, List.set_cons_zero] at hl
  subst hl
  refine anyX_takeWL 29 (v := ?_) rfl rfl (by as_aux_lemma => kernel_rfl) (by as_aux_lemma => kernel_rfl) (by as_aux_lemma => kernel_rfl) (by as_aux_lemma => kernel_rfl) (by as_aux_lemma => kernel_rfl) (fun _ _ _ h => h) (by rfl) ?_ hS ?_
  rotate_left
  · intro W' hW'
    obtain ⟨s0, s1⟩ := hW'
    all_goals (go_simp; first | done | rfl)
  intro l' hl
  dsimp only [List.set_cons_succ, List.set_cons_zero] at hl
  subst hl
  refine anyX_takeWL 31 (v := ?_) rfl rfl (by as_aux_lemma => kernel_rfl) (by as_aux_lemma => kernel_rfl) (by as_aux_lemma => kernel_rfl) (by as_aux_lemma => kernel_rfl) (by as_aux_lemma => kernel_rfl) (fun _ _ _ h => h) (by rfl) ?_ hS ?_
  rotate_left
  · intro W' hW'
    obtain ⟨s0, s1⟩ := hW'
    all_goals (go_simp; first | done | rfl)
  intro l' hl
  dsimp only [List.set_cons_succ, List.set_cons_zero] at hl
  subst hl
  refine anyX_takeWL 32 (v := ?_) rfl rfl (by as_aux_lemma => kernel_rfl) (by as_aux_lemma => kernel_rfl) (by as_aux_lemma => kernel_rfl) (by as_aux_lemma => kernel_rfl) (by as_aux_lemma => kernel_rfl) (fun _ _ _ h => h) (by rfl) ?_ hS ?_
  rotate_left
  · intro W' hW'
    obtain ⟨s0, s1⟩ := hW'
    all_goals (go_simp; first | done | rfl)
  intro l' hl
  dsimp only [List.set_cons_succ, List.set_cons_zero] at hl
  subst hl
  refine anyX_takeWL 33 (v := ?_) rfl rfl (by as_aux_lemma => kernel_rfl) (by as_aux_lemma => kernel_rfl) (by as_aux_lemma => kernel_rfl) (by as_aux_lemma => kernel_rfl) (by as_aux_lemma => kernel_rfl) (fun _ _ _ h => h) (by rfl) ?_ hS ?_
  rotate_left
  · intro W' hW'
    obtain ⟨s0, s1⟩ := hW'
    all_goals (go_simp; first | done | rfl)
  intro l' hl
  dsimp only [List.set_cons_succ, List.set_cons_zero] at hl
  subst hl
  refine anyX_oneW (i := 30) (by kernel_rfl) rfl (by rfl) fun K' hK' => ?_
  unfold Oper.wp
  go_simp
  clear hS
  refine (held w16 ow [1, 1] g U C T hT job res).mono ?_
  rw [Hhq.out]
  rintro e w17 ⟨rfl, bb⟩
  have nn := bb.nw ow
  replace hT := hT.new_ nn
  replace hR := hR.new_ nn
  replace t := t.trans nn
  clear nn
  clear bb
  have hS : (fun W' : World => W'.cell? ⟨g2, 0, none⟩ = some (.slice AU U.length cU) ∧ W'.cell? ⟨g2, 2, none⟩ = some (.slice AC C.length cC)) w17 := ⟨up_cell t.below C0.out, up_cell t.below C2.out⟩
  refine hK' _ _ (fun _ => hS) ?_
  clear hK' K'
  refine anyX_oneW (i := 34) (by kernel_rfl) rfl (by rfl) fun K' hK' => ?_
  unfold Oper.wp
  go_simp
  clear hS
  refine (rheld w17 ow [1, 2] g2 U C T hR job res).mono ?_
  rw [Hhq.out]
  rintro e w18 ⟨rfl, hww⟩
  subst hww
  have hS : (fun W' : World => W'.cell? ⟨g2, 0, none⟩ = some (.slice AU U.length cU) ∧ W'.cell? ⟨g2, 2, none⟩ = some (.slice AC C.length cC)) w18 := ⟨up_cell t.below C0.out, up_cell t.below C2.out⟩
  refine hK' _ _ (fun _ => hS) ?_
  clear hK' K'
  refine anyX_takeWL 35 (v := ?_) rfl rfl (by as_aux_lemma => kernel_rfl) (by as_aux_lemma => kernel_rfl) (by as_aux_lemma => kernel_rfl) (by as_aux_lemma => kernel_rfl) (by as_aux_lemma => kernel_rfl) (fun _ _ _ h => h) (by rfl) ?_ hS ?_
  rotate_left
  · intro W' hW'
    obtain ⟨s0, s1⟩ := hW'
    all_goals (go_simp; first | done | rfl)
  intro l' hl
  dsimp only [List.set_cons_succ, List.set_cons_zero] at hl
  subst hl
  refine anyX_takeNL 36 (v := ?_) rfl rfl (by as_aux_lemma => kernel_rfl) (by as_aux_lemma => kernel_rfl) (by as_aux_lemma => kernel_rfl) (by as_aux_lemma => kernel_rfl) (by as_aux_lemma => kernel_rfl) (fun _ _ _ h => h) rfl ?_ hS ?_
  rotate_left
  · intro W' hW'
    obtain ⟨s0, s1⟩ := hW'
    all_goals (go_simp; first | done | rfl)
  intro l' hl
  dsimp only [List.set_cons_succ, List.set_cons_zero] at hl
  subst hl
  refine anyX_takeNL 37 (v := ?_) rfl rfl (by as_aux_lemma => kernel_rfl) (by as_aux_lemma => kernel_rfl) (by as_aux_lemma => kernel_rfl) (by as_aux_lemma => kernel_rfl) (by as_aux_lemma => kernel_rfl) (fun _ _ _ h => h) rfl ?_ hS ?_
  rotate_left
  · intro W' hW'
    obtain ⟨s0, s1⟩ := hW'
    all_goals (go_simp; first | done | rfl)
  intro l' hl
  dsimp only [List.set_cons_succ, List.set_cons_zero] at hl
  subst hl
  refine anyX_takeWL 38 (v := ?_) rfl rfl (by as_aux_lemma => kernel_rfl) (by as_aux_lemma => kernel_rfl) (by as_aux_lemma => kernel_rfl) (by as_aux_lemma => kernel_rfl) (by as_aux_lemma => kernel_rfl) (fun _ _ _ h => h) (by rfl) ?_ hS ?_
  rotate_left
  · intro W' hW'
    obtain ⟨s0, s1⟩ := hW'
    all_goals (go_simp; first | done | rfl)
  intro l' hl
  dsimp only [List.set_cons_succ, List.set_cons_zero] at hl
  subst hl
  refine anyX_takeWL 39 (v := ?_) rfl rfl (by as_aux_lemma => kernel_rfl) (by as_aux_lemma => kernel_rfl) (by as_aux_lemma => kernel_rfl) (by as_aux_lemma => kernel_rfl) (by as_aux_lemma => kernel_rfl) (fun _ _ _ h => h) (by rfl) ?_ hS ?_
  rotate_left
  · intro W' hW'
    obtain ⟨s0, s1⟩ := hW'
    all_goals (go_simp; first | done | rfl)
  intro l' hl
  dsimp only [List.set_cons_succ, List.set_cons_zero] at hl
  subst hl
  refine anyX_takeWL 41 (v := ?_) rfl rfl (by as_aux_lemma => kernel_rfl) (by as_aux_lemma => kernel_rfl) (by as_aux_lemma => kernel_rfl) (by as_aux_lemma => kernel_rfl) (by as_aux_lemma => kernel_rfl) (fun _ _ _ h => h) (by rfl) ?_ hS ?_
  rotate_left
  · intro W' hW'
    obtain ⟨s0, s1⟩ := hW'
    all_goals (go_simp; first | done | rfl)
  intro l' hl
  dsimp only [List.set_cons_succ, List.set_cons_zero] at hl
  subst hl
  refine anyX_takeWL 42 (v := ?_) rfl rfl (by as_aux_lemma => kernel_rfl) (by as_aux_lemma => kernel_rfl) (by as_aux_lemma => kernel_rfl) (by as_aux_lemma => kernel_rfl) (by as_aux_lemma => kernel_rfl) (fun _ _ _ h => h) (by rfl) ?_ hS ?_
  rotate_left
  · intro W' hW'
    obtain ⟨s0, s1⟩ := hW'
    all_goals (go_simp; first | done | rfl)
  intro l' hl
  dsimp only [List.set_cons_succ, List.set_cons_zero] at hl
  subst hl
  refine anyX_oneW (i := 40) (by kernel_rfl) rfl (by rfl) fun K' hK' => ?_
  unfold Oper.wp
  go_simp
  clear hS
  refine (holders w18 ow [1, 1] [5] g U C T hT res).mono ?_
  rintro e w19 ⟨v5, ow19, hs, rfl, his, hsl, hz, nn, -⟩
  replace hT := hT.new_ nn
  replace hR := hR.new_ nn
  replace t := t.trans nn
  clear nn
  have hS : (fun W' : World => W'.cell? ⟨g2, 0, none⟩ = some (.slice AU U.length cU) ∧ W'.cell? ⟨g2, 2, none⟩ = some (.slice AC C.length cC)) w19 := ⟨up_cell t.below C0.out, up_cell t.below C2.out⟩
  refine hK' _ _ (fun _ => hS) ?_
  clear hK' K'
  refine anyX_oneW (i := 43) (by kernel_rfl) rfl (by rfl) fun K' hK' => ?_
  unfold Oper.wp
  go_simp
  clear hS
  refine (rholders w19 ow19 [1, 2] [6] g2 U C T hR res).mono ?_
  rintro e w20 ⟨v6, ow20, hs2, rfl, his2, hsl2, hy, nn⟩
  replace hT := hT.new_ nn
  replace hR := hR.new_ nn
  replace hz := hz.new_ nn
  replace t := t.trans nn
  clear nn
  obtain rfl := IsH.same his2 his
  clear his2 hsl2
  have hS : (fun W' : World => W'.cell? ⟨g2, 0, none⟩ = some (.slice AU U.length cU) ∧ W'.cell? ⟨g2, 2, none⟩ = some (.slice AC C.length cC)) w20 := ⟨up_cell t.below C0.out, up_cell t.below C2.out⟩
  refine hK' _ _ (fun _ => hS) ?_
  clear hK' K'
  refine anyX_oneW (i := 44) (by kernel_rfl) rfl (by rfl) fun K' hK' => ?_
  unfold Oper.wp
  go_simp
  clear hS
  refine (EHd.same_yes w20 v5 v6 hs2 (by omega) hz.reads hy.reads).mono ?_
  rintro e w21 ⟨rfl, kk, hw'⟩
  have nn : New w20 ow20 w21 ow20 := by rw [hw']; exact (New.refl _ _).drewN kk
  clear hw'
  replace hT := hT.new_ nn
  replace hR := hR.new_ nn
  replace hz := hz.new_ nn
  replace hy := hy.new_ nn
  replace t := t.trans nn
  clear nn
  have hS : (fun W' : World => W'.cell? ⟨g2, 0, none⟩ = some (.slice AU U.length cU) ∧ W'.cell? ⟨g2, 2, none⟩ = some (.slice AC C.length cC)) w21 := ⟨up_cell t.below C0.out, up_cell t.below C2.out⟩
  refine hK' _ _ (fun _ => hS) ?_
  clear hK' K'
  clear hz hy his hsl
  refine anyX_takeNL 45 (v := ?_) rfl rfl (by as_aux_lemma => kernel_rfl) (by as_aux_lemma => kernel_rfl) (by as_aux_lemma => kernel_rfl) (by as_aux_lemma => kernel_rfl) (by as_aux_lemma => kernel_rfl) (fun _ _ _ h => h) rfl ?_ hS ?_
  rotate_left
  · intro W' hW'
    obtain ⟨s0, s1⟩ := hW'
    all_goals (go_simp; first | done | rfl)
  intro l' hl
  dsimp only [List.set_cons_succ, List.set_cons_zero] at hl
  subst hl
  refine anyX_takeNL 46 (v := ?_) rfl rfl (by as_aux_lemma => kernel_rfl) (by as_aux_lemma => kernel_rfl) (by as_aux_lemma => kernel_rfl) (by as_aux_lemma => kernel_rfl) (by as_aux_lemma => kernel_rfl) (fun _ _ _ h => h) rfl ?_ hS ?_
  rotate_left
  · intro W' hW'
    obtain ⟨s0, s1⟩ := hW'
    all_goals (go_simp; first | done | rfl)
  intro l' hl
  dsimp only [List.set_cons_succ, List.set_cons_zero] at hl
  subst hl
  refine anyX_takeWL 47 (v := ?_) rfl rfl (by as_aux_lemma => kernel_rfl) (by as_aux_lemma => kernel_rfl) (by as_aux_lemma => kernel_rfl) (by as_aux_lemma => kernel_rfl) (by as_aux_lemma => kernel_rfl) (fun _ _ _ h => h) (by rfl) ?_ hS ?_
  rotate_left
  · intro W' hW'
    obtain ⟨s0, s1⟩ := hW'
    all_goals (go_simp; first | done | rfl)
  intro l' hl
  dsimp only [List.set_cons_succ, List.set_cons_zero] at hl
  subst hl
  refine anyX_takeWL 48 (v := ?_) rfl rfl (by as_aux_lemma => kernel_rfl) (by as_aux_lemma => kernel_rfl) (by as_aux_lemma => kernel_rfl) (by as_aux_lemma => kernel_rfl) (by as_aux_lemma => kernel_rfl) (fun _ _ _ h => h) (by rfl) ?_ hS ?_
  rotate_left
  · intro W' hW'
    obtain ⟨s0, s1⟩ := hW'
    all_goals (go_simp; first | done | rfl)
  intro l' hl
  dsimp only [List.set_cons_succ, List.set_cons_zero] at hl
  subst hl
  refine anyX_takeWL 50 (v := ?_) rfl rfl (by as_aux_lemma => kernel_rfl) (by as_aux_lemma => kernel_rfl) (by as_aux_lemma => kernel_rfl) (by as_aux_lemma => kernel_rfl) (by as_aux_lemma => kernel_rfl) (fun _ _ _ h => h) (by rfl) ?_ hS ?_
  rotate_left
  · intro W' hW'
    obtain ⟨s0, s1⟩ := hW'
    all_goals (go_simp; first | done | rfl)
  intro l' hl
  dsimp only [List.set_cons_succ, List.set_cons_zero] at hl
  subst hl
  refine anyX_takeWL 51 (v := ?_) rfl rfl (by as_aux_lemma => kernel_rfl) (by as_aux_lemma => kernel_rfl) (by as_aux_lemma => kernel_rfl) (by as_aux_lemma => kernel_rfl) (by as_aux_lemma => kernel_rfl) (fun _ _ _ h => h) (by rfl) ?_ hS ?_
  rotate_left
  · intro W' hW'
    obtain ⟨s0, s1⟩ := hW'
    all_goals (go_simp; first | done | rfl)
  intro l' hl
  dsimp only [List.set_cons_succ, List.set_cons_zero] at hl
  subst hl
  refine anyX_oneW (i := 49) (by kernel_rfl) rfl (by rfl) fun K' hK' => ?_
  unfold Oper.wp
  go_simp
  clear hS
  refine (locks w21 ow20 [1, 1] g U C T [7] hT job).mono ?_
  rintro e w22 ⟨v7, ow22, rfl, hz, nn, -⟩
  replace hT := hT.new_ nn
  replace hR := hR.new_ nn
  replace t := t.trans nn
  clear nn
  have hS : (fun W' : World => W'.cell? ⟨g2, 0, none⟩ = some (.slice AU U.length cU) ∧ W'.cell? ⟨g2, 2, none⟩ = some (.slice AC C.length cC)) w22 := ⟨up_cell t.below C0.out, up_cell t.below C2.out⟩
  refine hK' _ _ (fun _ => hS) ?_
  clear hK' K'
  refine anyX_oneW (i := 52) (by kernel_rfl) rfl (by rfl) fun K' hK' => ?_
  unfold Oper.wp
  go_simp
  clear hS
  refine (rlocks w22 ow22 [1, 2] g2 U C T [8] hR job).mono ?_
  rintro e w23 ⟨v8, ow23, rfl, hy, nn⟩
  replace hT := hT.new_ nn
  replace hR := hR.new_ nn
  replace hz := hz.new_ nn
  replace t := t.trans nn
  clear nn
  have hS : (fun W' : World => W'.cell? ⟨g2, 0, none⟩ = some (.slice AU U.length cU) ∧ W'.cell? ⟨g2, 2, none⟩ = some (.slice AC C.length cC)) w23 := ⟨up_cell t.below C0.out, up_cell t.below C2.out⟩
  refine hK' _ _ (fun _ => hS) ?_
  clear hK' K'
  refine anyX_oneW (i := 53) (by kernel_rfl) rfl (by rfl) fun K' hK' => ?_
  unfold Oper.wp
  go_simp
  clear hS
  refine (ELk.same_yes w23 v7 v8 (locksOf T job) (by omega) hz.reads hy.reads).mono ?_
  rintro e w24 ⟨rfl, kk, hw'⟩
  have nn : New w23 ow23 w24 ow23 := by rw [hw']; exact (New.refl _ _).drewN kk
  clear hw'
  replace hT := hT.new_ nn
  replace hR := hR.new_ nn
  replace hz := hz.new_ nn
  replace hy := hy.new_ nn
  replace t := t.trans nn
  clear nn
  have hS : (fun W' : World => W'.cell? ⟨g2, 0, none⟩ = some (.slice AU U.length cU) ∧ W'.cell? ⟨g2, 2, none⟩ = some (.slice AC C.length cC)) w24 := ⟨up_cell t.below C0.out, up_cell t.below C2.out⟩
  refine hK' _ _ (fun _ => hS) ?_
  clear hK' K'
  clear hz hy
  refine anyX_takeNL 54 (v := ?_) rfl rfl (by as_aux_lemma => kernel_rfl) (by as_aux_lemma => kernel_rfl) (by as_aux_lemma => kernel_rfl) (by as_aux_lemma => kernel_rfl) (by as_aux_lemma => kernel_rfl) (fun _ _ _ h => h) rfl ?_ hS ?_
  rotate_left
  · intro W' hW'
    obtain ⟨s0, s1⟩ := hW'
    all_goals (go_simp; first | done | rfl)
  intro l' hl
  dsimp only [List.set_cons_succ, List.set_cons_zero] at hl
  subst hl
  refine anyX_takeNL 55 (v := ?_) rfl rfl (by as_aux_lemma => kernel_rfl) (by as_aux_lemma => kernel_rfl) (by as_aux_lemma => kernel_rfl) (by as_aux_lemma => kernel_rfl) (by as_aux_lemma => kernel_rfl) (fun _ _ _ h => h) rfl ?_ hS ?_
  rotate_left
  · intro W' hW'
    obtain ⟨s0, s1⟩ := hW'
    all_goals (go_simp; first | done | rfl)
  intro l' hl
  dsimp only [List.set_cons_succ, List.set_cons_zero] at hl
  subst hl
  refine anyX_takeWL 56 (v := ?_) rfl rfl (by as_aux_lemma => kernel_rfl) (by as_aux_lemma => kernel_rfl) (by as_aux_lemma => kernel_rfl) (by as_aux_lemma => kernel_rfl) (by as_aux_lemma => kernel_rfl) (fun _ _ _ h => h) (by rfl) ?_ hS ?_
  rotate_left
  · intro W' hW'
    obtain ⟨s0, s1⟩ := hW'
    all_goals (go_simp; first | done | rfl)
  intro l' hl
  dsimp only [List.set_cons_succ, List.set_cons_zero] at hl
  subst hl
  refine anyX_takeWL 57 (v := ?_) rfl rfl (by as_aux_lemma => kernel_rfl) (by as_aux_lemma => kernel_rfl) (by as_aux_lemma => kernel_rfl) (by as_aux_lemma => kernel_rfl) (by as_aux_lemma => kernel_rfl) (fun _ _ _ h => h) (by rfl) ?_ hS ?_
  rotate_left
  · intro W' hW'
    obtain ⟨s0, s1⟩ := hW'
    all_goals (go_simp; first | done | rfl)
  intro l' hl
  dsimp only [List.set_cons_succ, List.set_cons_zero] at hl
  subst hl
  refine anyX_takeWL 59 (v := ?_) rfl rfl (by as_aux_lemma => kernel_rfl) (by as_aux_lemma => kernel_rfl) (by as_aux_lemma => kernel_rfl) (by as_aux_lemma => kernel_rfl) (by as_aux_lemma => kernel_rfl) (fun _ _ _ h => h) (by rfl) ?_ hS ?_
  rotate_left
  · intro W' hW'
    obtain ⟨s0, s1⟩ := hW'
    all_goals (go_simp; first | done | rfl)
  intro l' hl
  dsimp only [List.set_cons_succ, List.set_cons_zero] at hl
  subst hl
  refine anyX_takeWL 60 (v := ?_) rfl rfl (by as_aux_lemma => kernel_rfl) (by as_aux_lemma => kernel_rfl) (by as_aux_lemma => kernel_rfl) (by as_aux_lemma => kernel_rfl) (by as_aux_lemma => kernel_rfl) (fun _ _ _ h => h) (by rfl) ?_ hS ?_
  rotate_left
  · intro W' hW'
    obtain ⟨s0, s1⟩ := hW'
    all_goals (go_simp; first | done | rfl)
  intro l' hl
  dsimp only [List.set_cons_succ, List.set_cons_zero] at hl
  subst hl
  refine anyX_oneW (i := 58) (by kernel_rfl) rfl (by rfl) fun K' hK' => ?_
  unfold Oper.wp
  go_simp
  clear hS
  refine (cell w24 ow23 [1, 1] g U C T hT res).mono ?_
  rw [Hcq.out]
  rintro e w25 ⟨rfl, bb⟩
  have nn := bb.nw ow23
  replace hT := hT.new_ nn
  replace hR := hR.new_ nn
  replace t := t.trans nn
  clear nn
  clear bb
  have hS : (fun W' : World => W'.cell? ⟨g2, 0, none⟩ = some (.slice AU U.length cU) ∧ W'.cell? ⟨g2, 2, none⟩ = some (.slice AC C.length cC)) w25 := ⟨up_cell t.below C0.out, up_cell t.below C2.out⟩
  refine hK' _ _ (fun _ => hS) ?_
  clear hK' K'
  refine anyX_oneW (i := 61) (by kernel_rfl) rfl (by rfl) fun K' hK' => ?_
  unfold Oper.wp
  go_simp
  clear hS
  refine (rcell w25 ow23 [1, 2] g2 U C T hR res).mono ?_
  rw [Hcq.out]
  rintro e w26 ⟨rfl, hww⟩
  subst hww
  have hS : (fun W' : World => W'.cell? ⟨g2, 0, none⟩ = some (.slice AU U.length cU) ∧ W'.cell? ⟨g2, 2, none⟩ = some (.slice AC C.length cC)) w26 := ⟨up_cell t.below C0.out, up_cell t.below C2.out⟩
  refine hK' _ _ (fun _ => hS) ?_
  clear hK' K'
  refine anyX_takeWL 62 (v := ?_) rfl rfl (by as_aux_lemma => kernel_rfl) (by as_aux_lemma => kernel_rfl) (by as_aux_lemma => kernel_rfl) (by as_aux_lemma => kernel_rfl) (by as_aux_lemma => kernel_rfl) (fun _ _ _ h => h) (by rfl) ?_ hS ?_
  rotate_left
  · intro W' hW'
    obtain ⟨s0, s1⟩ := hW'
    all_goals (go_simp; first | done | rfl)
  intro l' hl
  dsimp only [List.set_cons_succ, List.set_cons_zero] at hl
  subst hl
  refine anyX_takeNL 63 (v := ?_) rfl rfl (by as_aux_lemma => kernel_rfl) (by as_aux_lemma => kernel_rfl) (by as_aux_lemma => kernel_rfl) (by as_aux_lemma => kernel_rfl) (by as_aux_lemma => kernel_rfl) (fun _ _ _ h => h) rfl ?_ hS ?_
  rotate_left
  · intro W' hW'
    obtain ⟨s0, s1⟩ := hW'
    all_goals (go_simp; first | done | rfl)
  intro l' hl
  dsimp only [List.set_cons_succ, List.set_cons_zero] at hl
  subst hl
  refine anyX_takeNL 64 (v := ?_) rfl rfl (by as_aux_lemma => kernel_rfl) (by as_aux_lemma => kernel_rfl) (by as_aux_lemma => kernel_rfl) (by as_aux_lemma => kernel_rfl) (by as_aux_lemma => kernel_rfl) (fun _ _ _ h => h) rfl ?_ hS ?_
  rotate_left
  · intro W' hW'
    obtain ⟨s0, s1⟩ := hW'
    all_goals (go_simp; first | done | rfl)
  intro l' hl
  dsimp only [List.set_cons_succ, List.set_cons_zero] at hl
  subst hl
  refine anyX_takeWL 65 (v := ?_) rfl rfl (by as_aux_lemma => kernel_rfl) (by as_aux_lemma => kernel_rfl) (by as_aux_lemma => kernel_rfl) (by as_aux_lemma => kernel_rfl) (by as_aux_lemma => kernel_rfl) (fun _ _ _ h => h) (by rfl) ?_ hS ?_
  rotate_left
  · intro W' hW'
    obtain ⟨s0, s1⟩ := hW'
    all_goals (go_simp; first | done | rfl)
  intro l' hl
  dsimp only [List.set_cons_succ, List.set_cons_zero] at hl
  subst hl
  refine anyX_takeWL 67 (v := ?_) rfl rfl (by as_aux_lemma => kernel_rfl) (by as_aux_lemma => kernel_rfl) (by as_aux_lemma => kernel_rfl) (by as_aux_lemma => kernel_rfl) (by as_aux_lemma => kernel_rfl) (fun _ _ _ h => h) (by rfl) ?_ hS ?_
  rotate_left
  · intro W' hW'
    obtain ⟨s0, s1⟩ := hW'
    all_goals (go_simp; first | done | rfl)
  intro l' hl
  dsimp only [List.set_cons_succ, List.set_cons_zero] at hl
  subst hl
  refine anyX_takeWL 68 (v := ?_) rfl rfl (by as_aux_lemma => kernel_rfl) (by as_aux_lemma => kernel_rfl) (by as_aux_lemma => kernel_rfl) (by as_aux_lemma => kernel_rfl) (by as_aux_lemma => kernel_rfl) (fun _ _ _ h => h) (by rfl) ?_ hS ?_
  rotate_left
  · intro W' hW'
    obtain ⟨s0, s1⟩ := hW'
    all_goals (go_simp; first | done | rfl)
  intro l' hl
  dsimp only [List.set_cons_succ, List.set_cons_zero] at hl
  subst hl
  refine anyX_takeWL 69 (v := ?_) rfl rfl (by as_aux_lemma => kernel_rfl) (by as_aux_lemma => kernel_rfl) (by as_aux_lemma => kernel_rfl) (by as_aux_lemma => kernel_rfl) (by as_aux_lemma => kernel_rfl) (fun _ _ _ h => h) (by rfl) ?_ hS ?_
  rotate_left
  · intro W' hW'
    obtain ⟨s0, s1⟩ := hW'
    all_goals (go_simp; first | done | rfl)
  intro l' hl
  dsimp only [List.set_cons_succ, List.set_cons_zero] at hl
  subst hl
  refine anyX_takeWL 70 (v := ?_) rfl rfl (by as_aux_lemma => kernel_rfl) (by as_aux_lemma => kernel_rfl) (by as_aux_lemma => kernel_rfl) (by as_aux_lemma => kernel_rfl) (by as_aux_lemma => kernel_rfl) (fun _ _ _ h => h) (by rfl) ?_ hS ?_
  rotate_left
  · intro W' hW'
    obtain ⟨s0, s1⟩ := hW'
    all_goals (go_simp; first | done | rfl)
  intro l' hl
  dsimp only [List.set_cons_succ, List.set_cons_zero] at hl
  subst hl
  refine anyX_oneW (i := 66) (by kernel_rfl) rfl (by rfl) fun K' hK' => ?_
  unfold Oper.wp
  go_simp
  clear hS
  refine (cells w26 ow23 [1, 1] g U C T [9] hT).mono ?_
  rintro e w27 ⟨v9, ow27, rfl, hz, nn, -⟩
  replace hT := hT.new_ nn
  replace hR := hR.new_ nn
  replace t := t.trans nn
  clear nn
  have hS : (fun W' : World => W'.cell? ⟨g2, 0, none⟩ = some (.slice AU U.length cU) ∧ W'.cell? ⟨g2, 2, none⟩ = some (.slice AC C.length cC)) w27 := ⟨up_cell t.below C0.out, up_cell t.below C2.out⟩
  refine hK' _ _ (fun _ => hS) ?_
  clear hK' K'
  refine anyX_oneW (i := 71) (by kernel_rfl) rfl (by rfl) fun K' hK' => ?_
  unfold Oper.wp
  go_simp
  clear hS
  have e4 := Hrc.out.new_ t.below
  refine (EInt.same_yes w27 v9 _ C (by omega) hz.reads e4).mono ?_
  rintro e w28 ⟨rfl, kk, hw'⟩
  have nn : New w27 ow27 w28 ow27 := by rw [hw']; exact (New.refl _ _).drewN kk
  clear hw'
  replace hT := hT.new_ nn
  replace hR := hR.new_ nn
  replace hz := hz.new_ nn
  replace t := t.trans nn
  clear nn
  clear e4
  have hS : (fun W' : World => W'.cell? ⟨g2, 0, none⟩ = some (.slice AU U.length cU) ∧ W'.cell? ⟨g2, 2, none⟩ = some (.slice AC C.length cC)) w28 := ⟨up_cell t.below C0.out, up_cell t.below C2.out⟩
  refine hK' _ _ (fun _ => hS) ?_
  clear hK' K'
  refine anyX_takeNL 72 (v := ?_) rfl rfl (by as_aux_lemma => kernel_rfl) (by as_aux_lemma => kernel_rfl) (by as_aux_lemma => kernel_rfl) (by as_aux_lemma => kernel_rfl) (by as_aux_lemma => kernel_rfl) (fun _ _ _ h => h) rfl ?_ hS ?_
  rotate_left
  · intro W' hW'
    obtain ⟨s0, s1⟩ := hW'
    all_goals (go_simp; first | done | rfl)
  intro l' hl
  dsimp only [List.set_cons_succ, List.set_cons_zero] at hl
  subst hl
  refine anyX_takeNL 73 (v := ?_) rfl rfl (by as_aux_lemma => kernel_rfl) (by as_aux_lemma => kernel_rfl) (by as_aux_lemma => kernel_rfl) (by as_aux_lemma => kernel_rfl) (by as_aux_lemma => kernel_rfl) (fun _ _ _ h => h) rfl ?_ hS ?_
  rotate_left
  · intro W' hW'
    obtain ⟨s0, s1⟩ := hW'
    all_goals (go_simp; first | done | rfl)
  intro l' hl
  dsimp only [List.set_cons_succ, List.set_cons_zero] at hl
  subst hl
  refine anyX_done (by kernel_rfl) ?_ _
  refine NoPanic.normal ?_
  clear hS
  have fin : Below w.heap.size w w28 := t.below
  clear hz hT hR t
  go_wp2
  go_ret
  exact ⟨rfl, fin⟩
end RT5
end Go.Proofs.Ytefagdbdimpcdaa
