/-
  CODE: may an operation's fields be so?
-/
import Derived.Test.YtnehiooioodkfaaDoorK4
set_option linter.unusedVariables false
set_option linter.unusedSimpArgs false
namespace Go.Proofs.YtnehiooioodkfaaDoor
open Go Go.RowKit
namespace CD
set_option maxRecDepth 100000 in
set_option maxHeartbeats 8000000 in
theorem fields (w : World) (o : Op4) : Calls Tryd.prog 49 #[.agg #[.int .i64 o.kind, .int .i64 o.res, .int .i64 o.n, .int .i64 o.v]] w fun e w' => e = .returned (.bool (fieldsB o)) ∧ Below w.heap.size w w' := by
  have hrow := rowOf
  have Hrow := Lib.hid hrow
  clear hrow
  obtain ⟨F, hF⟩ : ∃ F, fieldsB o = F := ⟨_, rfl⟩
  rw [hF]
  have HF := Lib.hid hF
  clear hF
  obtain ⟨kind, res, n, v⟩ := o
  go_enter Tryd.func49, Tryd.ntmps49
  go_wp2_with fail
  obtain ⟨ow1, hB, nn, hsz⟩ := SH.add_cells w ow0 [1] [.int .i64 kind, .int .i64 res, .int .i64 n, .int .i64 v] 32
  have hc := Hrow.out (w.alloc (.cells #[.int .i64 kind, .int .i64 res, .int .i64 n, .int .i64 v] 32)) kind
  have Bd := nn.below
  refine hc.mono ?_
  rintro e w1 ⟨rfl, b1⟩
  replace hB := hB.new_ (b1.nw ow1)
  have bd1 := Bd.trans (b1.mono Bd.size)
  have BD := Lib.hid bd1
  have hsz1 := b1.size
  rw [hsz] at hsz1
  have hle : w.heap.size < w1.heap.size := by omega
  have c0 := hB.get 0 rfl
  have c1 := hB.get 1 rfl
  have c2 := hB.get 2 rfl
  have c3 := hB.get 3 rfl
  simp only [Nat.zero_add] at c0 c1 c2 c3
  clear hc Hrow nn hsz b1 Bd hsz1 hB bd1
  have hr : res < 0 ∨ 16 ≤ res ∨ (0 < res ∧ res < 16) ∨ res = 0 := by omega
  have hhas : kindB kind = false ∨ (kindB kind = true ∧ (hasOf kind = 1 ∨ hasOf kind = 2 ∨ hasOf kind = 3 ∨ hasOf kind = 4 ∨ hasOf kind = 0)) := by
    cases hk : kindB kind with
    | false => exact .inl rfl
    | true =>
      refine .inr ⟨rfl, ?_⟩
      have h := of_decide_eq_true hk
      obtain ⟨m, rfl⟩ : ∃ m : Nat, kind = m := ⟨kind.toNat, by omega⟩
      have c : m = 1 ∨ m = 2 ∨ m = 3 ∨ m = 4 ∨ m = 5 ∨ m = 6 ∨ m = 7 ∨ m = 8 ∨ m = 9 ∨ m = 10 ∨ m = 11 := by omega
      rcases c with rfl | rfl | rfl | rfl | rfl | rfl | rfl | rfl | rfl | rfl | rfl <;> decide
  rcases hhas with hk | ⟨hk, hh | hh | hh | hh | hh⟩
  · skip
    have hh : hasOf kind = hasOf kind := rfl
    rcases hr with hq | hq | ⟨hq, hq2⟩ | rfl
    · skip
      as_aux_lemma =>
      have r1 : ¬ (0 : Int) ≤ res := by omega
      have z1 : ¬ res = 0 := by omega
      have z2 : (res == 0) = false := by simp [z1]
      have hf : F = false := by rw [← HF.out]; simp [fieldsB, hk]
      subst hf
      go_wp2
      go_ret
      exact ⟨rfl, BD.out.trans ((bdA (Nat.le_refl _) (Below.refl _ _) _).mono BD.out.size)⟩
    · skip
      as_aux_lemma =>
      have r1 : (0 : Int) ≤ res := by omega
      have r2 : ¬ res < 16 := by omega
      have z1 : ¬ res = 0 := by omega
      have z2 : (res == 0) = false := by simp [z1]
      have hf : F = false := by rw [← HF.out]; simp [fieldsB, hk]
      subst hf
      go_wp2
      go_ret
      exact ⟨rfl, BD.out.trans ((bdA (Nat.le_refl _) (Below.refl _ _) _).mono BD.out.size)⟩
    · skip
      as_aux_lemma =>
      have r1 : (0 : Int) ≤ res := by omega
      have z1 : ¬ res = 0 := by omega
      have z2 : (res == 0) = false := by simp [z1]
      have hf : F = false := by rw [← HF.out]; simp [fieldsB, hk]
      subst hf
      go_wp2
      go_ret
      exact ⟨rfl, BD.out.trans ((bdA (Nat.le_refl _) (Below.refl _ _) _).mono BD.out.size)⟩
    · skip
      as_aux_lemma =>
      have hf : F = false := by rw [← HF.out]; simp [fieldsB, hk]
      subst hf
      go_wp2
      go_ret
      exact ⟨rfl, BD.out.trans ((bdA (Nat.le_refl _) (Below.refl _ _) _).mono BD.out.size)⟩
  · skip
    rcases hr with hq | hq | ⟨hq, hq2⟩ | rfl
    · skip
      as_aux_lemma =>
      have r1 : ¬ (0 : Int) ≤ res := by omega
      have z1 : ¬ res = 0 := by omega
      have z2 : (res == 0) = false := by simp [z1]
      have hf : F = false := by rw [← HF.out]; simp [fieldsB, hk, hh, r1, z1]
      subst hf
      go_wp2
      go_ret
      exact ⟨rfl, BD.out.trans ((bdA (Nat.le_refl _) (Below.refl _ _) _).mono BD.out.size)⟩
    · skip
      as_aux_lemma =>
      have r1 : (0 : Int) ≤ res := by omega
      have r2 : ¬ res < 16 := by omega
      have z1 : ¬ res = 0 := by omega
      have z2 : (res == 0) = false := by simp [z1]
      have hf : F = false := by rw [← HF.out]; simp [fieldsB, hk, hh, r1, r2, z1]
      subst hf
      go_wp2
      go_ret
      exact ⟨rfl, BD.out.trans ((bdA (Nat.le_refl _) (Below.refl _ _) _).mono BD.out.size)⟩
    · skip
      by_cases p1 : (1 : Int) ≤ n
      · skip
        by_cases p2 : n ≤ 255
        · skip
          by_cases p3 : v = 0
          · skip
            as_aux_lemma =>
            have r1 : (0 : Int) ≤ res := by omega
            have z1 : ¬ res = 0 := by omega
            have z2 : (res == 0) = false := by simp [z1]
            subst p3
            have hf : F = true := by rw [← HF.out]; simp [fieldsB, hk, hh, r1, z1, hq2, p1, p2]
            subst hf
            go_wp2
            go_ret
            exact ⟨rfl, BD.out.trans ((bdA (Nat.le_refl _) (Below.refl _ _) _).mono BD.out.size)⟩
          · skip
            as_aux_lemma =>
            have r1 : (0 : Int) ≤ res := by omega
            have z1 : ¬ res = 0 := by omega
            have z2 : (res == 0) = false := by simp [z1]
            have e3 : (v == 0) = false := by simp [p3]
            have hf : F = false := by rw [← HF.out]; simp [fieldsB, hk, hh, r1, z1, hq2, p1, p2, p3]
            subst hf
            go_wp2
            go_ret
            exact ⟨rfl, BD.out.trans ((bdA (Nat.le_refl _) (Below.refl _ _) _).mono BD.out.size)⟩
        · skip
          as_aux_lemma =>
          have r1 : (0 : Int) ≤ res := by omega
          have z1 : ¬ res = 0 := by omega
          have z2 : (res == 0) = false := by simp [z1]
          have hf : F = false := by rw [← HF.out]; simp [fieldsB, hk, hh, r1, z1, hq2, p1, p2]
          subst hf
          go_wp2
          go_ret
          exact ⟨rfl, BD.out.trans ((bdA (Nat.le_refl _) (Below.refl _ _) _).mono BD.out.size)⟩
      · skip
        as_aux_lemma =>
        have r1 : (0 : Int) ≤ res := by omega
        have z1 : ¬ res = 0 := by omega
        have z2 : (res == 0) = false := by simp [z1]
        have hf : F = false := by rw [← HF.out]; simp [fieldsB, hk, hh, r1, z1, hq2, p1]
        subst hf
        go_wp2
        go_ret
        exact ⟨rfl, BD.out.trans ((bdA (Nat.le_refl _) (Below.refl _ _) _).mono BD.out.size)⟩
    · skip
      by_cases p1 : (1 : Int) ≤ n
      · skip
        by_cases p2 : n ≤ 255
        · skip
          by_cases p3 : v = 0
          · skip
            as_aux_lemma =>
            subst p3
            have hf : F = true := by rw [← HF.out]; simp [fieldsB, hk, hh, p1, p2]
            subst hf
            go_wp2
            go_ret
            exact ⟨rfl, BD.out.trans ((bdA (Nat.le_refl _) (Below.refl _ _) _).mono BD.out.size)⟩
          · skip
            as_aux_lemma =>
            have e3 : (v == 0) = false := by simp [p3]
            have hf : F = false := by rw [← HF.out]; simp [fieldsB, hk, hh, p1, p2, p3]
            subst hf
            go_wp2
            go_ret
            exact ⟨rfl, BD.out.trans ((bdA (Nat.le_refl _) (Below.refl _ _) _).mono BD.out.size)⟩
        · skip
          as_aux_lemma =>
          have hf : F = false := by rw [← HF.out]; simp [fieldsB, hk, hh, p1, p2]
          subst hf
          go_wp2
          go_ret
          exact ⟨rfl, BD.out.trans ((bdA (Nat.le_refl _) (Below.refl _ _) _).mono BD.out.size)⟩
      · skip
        as_aux_lemma =>
        have hf : F = false := by rw [← HF.out]; simp [fieldsB, hk, hh, p1]
        subst hf
        go_wp2
        go_ret
        exact ⟨rfl, BD.out.trans ((bdA (Nat.le_refl _) (Below.refl _ _) _).mono BD.out.size)⟩
  · skip
    rcases hr with hq | hq | ⟨hq, hq2⟩ | rfl
    · skip
      as_aux_lemma =>
      have r1 : ¬ (0 : Int) ≤ res := by omega
      have z1 : ¬ res = 0 := by omega
      have z2 : (res == 0) = false := by simp [z1]
      have hf : F = false := by rw [← HF.out]; simp [fieldsB, hk, hh, r1, z1]
      subst hf
      go_wp2
      go_ret
      exact ⟨rfl, BD.out.trans ((bdA (Nat.le_refl _) (Below.refl _ _) _).mono BD.out.size)⟩
    · skip
      as_aux_lemma =>
      have r1 : (0 : Int) ≤ res := by omega
      have r2 : ¬ res < 16 := by omega
      have z1 : ¬ res = 0 := by omega
      have z2 : (res == 0) = false := by simp [z1]
      have hf : F = false := by rw [← HF.out]; simp [fieldsB, hk, hh, r1, r2, z1]
      subst hf
      go_wp2
      go_ret
      exact ⟨rfl, BD.out.trans ((bdA (Nat.le_refl _) (Below.refl _ _) _).mono BD.out.size)⟩
    · skip
      by_cases p1 : n = 0
      · skip
        by_cases p2 : v = 0
        · skip
          as_aux_lemma =>
          have r1 : (0 : Int) ≤ res := by omega
          have z1 : ¬ res = 0 := by omega
          have z2 : (res == 0) = false := by simp [z1]
          subst p1
          subst p2
          have hf : F = true := by rw [← HF.out]; simp [fieldsB, hk, hh, r1, z1, hq2]
          subst hf
          go_wp2
          go_ret
          exact ⟨rfl, BD.out.trans ((bdA (Nat.le_refl _) (Below.refl _ _) _).mono BD.out.size)⟩
        · skip
          as_aux_lemma =>
          have r1 : (0 : Int) ≤ res := by omega
          have z1 : ¬ res = 0 := by omega
          have z2 : (res == 0) = false := by simp [z1]
          subst p1
          have e2 : (v == 0) = false := by simp [p2]
          have hf : F = false := by rw [← HF.out]; simp [fieldsB, hk, hh, r1, z1, hq2, p2]
          subst hf
          go_wp2
          go_ret
          exact ⟨rfl, BD.out.trans ((bdA (Nat.le_refl _) (Below.refl _ _) _).mono BD.out.size)⟩
      · skip
        as_aux_lemma =>
        have r1 : (0 : Int) ≤ res := by omega
        have z1 : ¬ res = 0 := by omega
        have z2 : (res == 0) = false := by simp [z1]
        have e1 : (n == 0) = false := by simp [p1]
        have hf : F = false := by rw [← HF.out]; simp [fieldsB, hk, hh, r1, z1, hq2, p1]
        subst hf
        go_wp2
        go_ret
        exact ⟨rfl, BD.out.trans ((bdA (Nat.le_refl _) (Below.refl _ _) _).mono BD.out.size)⟩
    · skip
      by_cases p1 : n = 0
      · skip
        by_cases p2 : v = 0
        · skip
          as_aux_lemma =>
          subst p1
          subst p2
          have hf : F = true := by rw [← HF.out]; simp [fieldsB, hk, hh]
          subst hf
          go_wp2
          go_ret
          exact ⟨rfl, BD.out.trans ((bdA (Nat.le_refl _) (Below.refl _ _) _).mono BD.out.size)⟩
        · skip
          as_aux_lemma =>
          subst p1
          have e2 : (v == 0) = false := by simp [p2]
          have hf : F = false := by rw [← HF.out]; simp [fieldsB, hk, hh, p2]
          subst hf
          go_wp2
          go_ret
          exact ⟨rfl, BD.out.trans ((bdA (Nat.le_refl _) (Below.refl _ _) _).mono BD.out.size)⟩
      · skip
        as_aux_lemma =>
        have e1 : (n == 0) = false := by simp [p1]
        have hf : F = false := by rw [← HF.out]; simp [fieldsB, hk, hh, p1]
        subst hf
        go_wp2
        go_ret
        exact ⟨rfl, BD.out.trans ((bdA (Nat.le_refl _) (Below.refl _ _) _).mono BD.out.size)⟩
  · skip
    rcases hr with hq | hq | ⟨hq, hq2⟩ | rfl
    · skip
      as_aux_lemma =>
      have r1 : ¬ (0 : Int) ≤ res := by omega
      have z1 : ¬ res = 0 := by omega
      have z2 : (res == 0) = false := by simp [z1]
      have hf : F = false := by rw [← HF.out]; simp [fieldsB, hk, hh, r1, z1]
      subst hf
      go_wp2
      go_ret
      exact ⟨rfl, BD.out.trans ((bdA (Nat.le_refl _) (Below.refl _ _) _).mono BD.out.size)⟩
    · skip
      as_aux_lemma =>
      have r1 : (0 : Int) ≤ res := by omega
      have r2 : ¬ res < 16 := by omega
      have z1 : ¬ res = 0 := by omega
      have z2 : (res == 0) = false := by simp [z1]
      have hf : F = false := by rw [← HF.out]; simp [fieldsB, hk, hh, r1, r2, z1]
      subst hf
      go_wp2
      go_ret
      exact ⟨rfl, BD.out.trans ((bdA (Nat.le_refl _) (Below.refl _ _) _).mono BD.out.size)⟩
    · skip
      as_aux_lemma =>
      have r1 : (0 : Int) ≤ res := by omega
      have z1 : ¬ res = 0 := by omega
      have z2 : (res == 0) = false := by simp [z1]
      have hf : F = false := by rw [← HF.out]; simp [fieldsB, hk, hh, r1, z1, hq2]
      subst hf
      go_wp2
      go_ret
      exact ⟨rfl, BD.out.trans ((bdA (Nat.le_refl _) (Below.refl _ _) _).mono BD.out.size)⟩
    · skip
      by_cases p1 : n = 0
      · skip
        as_aux_lemma =>
        subst p1
        have hf : F = true := by rw [← HF.out]; simp [fieldsB, hk, hh]
        subst hf
        go_wp2
        go_ret
        exact ⟨rfl, BD.out.trans ((bdA (Nat.le_refl _) (Below.refl _ _) _).mono BD.out.size)⟩
      · skip
        as_aux_lemma =>
        have e1 : (n == 0) = false := by simp [p1]
        have hf : F = false := by rw [← HF.out]; simp [fieldsB, hk, hh, p1]
        subst hf
        go_wp2
        go_ret
        exact ⟨rfl, BD.out.trans ((bdA (Nat.le_refl _) (Below.refl _ _) _).mono BD.out.size)⟩
  · skip
    rcases hr with hq | hq | ⟨hq, hq2⟩ | rfl
    · skip
      as_aux_lemma =>
      have r1 : ¬ (0 : Int) ≤ res := by omega
      have z1 : ¬ res = 0 := by omega
      have z2 : (res == 0) = false := by simp [z1]
      have hf : F = false := by rw [← HF.out]; simp [fieldsB, hk, hh, r1, z1]
      subst hf
      go_wp2
      go_ret
      exact ⟨rfl, BD.out.trans ((bdA (Nat.le_refl _) (Below.refl _ _) _).mono BD.out.size)⟩
    · skip
      as_aux_lemma =>
      have r1 : (0 : Int) ≤ res := by omega
      have r2 : ¬ res < 16 := by omega
      have z1 : ¬ res = 0 := by omega
      have z2 : (res == 0) = false := by simp [z1]
      have hf : F = false := by rw [← HF.out]; simp [fieldsB, hk, hh, r1, r2, z1]
      subst hf
      go_wp2
      go_ret
      exact ⟨rfl, BD.out.trans ((bdA (Nat.le_refl _) (Below.refl _ _) _).mono BD.out.size)⟩
    · skip
      as_aux_lemma =>
      have r1 : (0 : Int) ≤ res := by omega
      have z1 : ¬ res = 0 := by omega
      have z2 : (res == 0) = false := by simp [z1]
      have hf : F = false := by rw [← HF.out]; simp [fieldsB, hk, hh, r1, z1, hq2]
      subst hf
      go_wp2
      go_ret
      exact ⟨rfl, BD.out.trans ((bdA (Nat.le_refl _) (Below.refl _ _) _).mono BD.out.size)⟩
    · skip
      by_cases p1 : (1 : Int) ≤ n
      · skip
        by_cases p2 : n ≤ 4096
        · skip
          by_cases p3 : v = 0
          · skip
            as_aux_lemma =>
            subst p3
            have hf : F = true := by rw [← HF.out]; simp [fieldsB, hk, hh, p1, p2]
            subst hf
            go_wp2
            go_ret
            exact ⟨rfl, BD.out.trans ((bdA (Nat.le_refl _) (Below.refl _ _) _).mono BD.out.size)⟩
          · skip
            as_aux_lemma =>
            have e3 : (v == 0) = false := by simp [p3]
            have hf : F = false := by rw [← HF.out]; simp [fieldsB, hk, hh, p1, p2, p3]
            subst hf
            go_wp2
            go_ret
            exact ⟨rfl, BD.out.trans ((bdA (Nat.le_refl _) (Below.refl _ _) _).mono BD.out.size)⟩
        · skip
          as_aux_lemma =>
          have hf : F = false := by rw [← HF.out]; simp [fieldsB, hk, hh, p1, p2]
          subst hf
          go_wp2
          go_ret
          exact ⟨rfl, BD.out.trans ((bdA (Nat.le_refl _) (Below.refl _ _) _).mono BD.out.size)⟩
      · skip
        as_aux_lemma =>
        have hf : F = false := by rw [← HF.out]; simp [fieldsB, hk, hh, p1]
        subst hf
        go_wp2
        go_ret
        exact ⟨rfl, BD.out.trans ((bdA (Nat.le_refl _) (Below.refl _ _) _).mono BD.out.size)⟩
  · skip
    rcases hr with hq | hq | ⟨hq, hq2⟩ | rfl
    · skip
      as_aux_lemma =>
      have r1 : ¬ (0 : Int) ≤ res := by omega
      have z1 : ¬ res = 0 := by omega
      have z2 : (res == 0) = false := by simp [z1]
      have hf : F = false := by rw [← HF.out]; simp [fieldsB, hk, hh, r1, z1]
      subst hf
      go_wp2
      go_ret
      exact ⟨rfl, BD.out.trans ((bdA (Nat.le_refl _) (Below.refl _ _) _).mono BD.out.size)⟩
    · skip
      as_aux_lemma =>
      have r1 : (0 : Int) ≤ res := by omega
      have r2 : ¬ res < 16 := by omega
      have z1 : ¬ res = 0 := by omega
      have z2 : (res == 0) = false := by simp [z1]
      have hf : F = false := by rw [← HF.out]; simp [fieldsB, hk, hh, r1, r2, z1]
      subst hf
      go_wp2
      go_ret
      exact ⟨rfl, BD.out.trans ((bdA (Nat.le_refl _) (Below.refl _ _) _).mono BD.out.size)⟩
    · skip
      as_aux_lemma =>
      have r1 : (0 : Int) ≤ res := by omega
      have z1 : ¬ res = 0 := by omega
      have z2 : (res == 0) = false := by simp [z1]
      have hf : F = false := by rw [← HF.out]; simp [fieldsB, hk, hh, r1, z1, hq2]
      subst hf
      go_wp2
      go_ret
      exact ⟨rfl, BD.out.trans ((bdA (Nat.le_refl _) (Below.refl _ _) _).mono BD.out.size)⟩
    · skip
      by_cases p1 : n = 0
      · skip
        by_cases p2 : v = 0
        · skip
          as_aux_lemma =>
          subst p1
          subst p2
          have hf : F = true := by rw [← HF.out]; simp [fieldsB, hk, hh]
          subst hf
          go_wp2
          go_ret
          exact ⟨rfl, BD.out.trans ((bdA (Nat.le_refl _) (Below.refl _ _) _).mono BD.out.size)⟩
        · skip
          as_aux_lemma =>
          subst p1
          have e2 : (v == 0) = false := by simp [p2]
          have hf : F = false := by rw [← HF.out]; simp [fieldsB, hk, hh, p2]
          subst hf
          go_wp2
          go_ret
          exact ⟨rfl, BD.out.trans ((bdA (Nat.le_refl _) (Below.refl _ _) _).mono BD.out.size)⟩
      · skip
        as_aux_lemma =>
        have e1 : (n == 0) = false := by simp [p1]
        have hf : F = false := by rw [← HF.out]; simp [fieldsB, hk, hh, p1]
        subst hf
        go_wp2
        go_ret
        exact ⟨rfl, BD.out.trans ((bdA (Nat.le_refl _) (Below.refl _ _) _).mono BD.out.size)⟩
end CD
end Go.Proofs.YtnehiooioodkfaaDoor
