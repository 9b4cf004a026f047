/-
  CODE: Check and the steps of two programs, one behind the other.
-/
import Derived.Test.YtnehiooioodkfaaDoorKY
set_option linter.unusedVariables false
set_option linter.unusedSimpArgs false
namespace Go.Proofs.YtnehiooioodkfaaDoor
open Go Go.RowKit
namespace CD
theorem checkG_app : ∀ (p q : List Op4) (i op : Nat), checkG p i op = (0, 0) → checkG (p ++ q) i op = checkG q (i + p.length) 0
  | [], q, i, op, h => by
    unfold checkG at h
    split at h
    · simp at h
    · rename_i h0
      obtain rfl : op = 0 := by omega
      rfl
  | o :: p, q, i, op, h => by
    have hf := checkG_fok h
    obtain ⟨kind, res, nn, vv⟩ := o
    by_cases h10 : kind = 10
    · subst h10
      have h2 := checkG_rep h
      rw [List.cons_append, checkG, if_neg hf, if_pos rfl]
      have h4 : ¬ op = 4 := by
        intro e
        rw [checkG, if_neg hf, if_pos rfl, if_pos e] at h
        simp at h
      rw [if_neg h4, checkG_app p q (i + 1) (op + 1) h2, List.length_cons, show i + 1 + p.length = i + (p.length + 1) by omega]
    · by_cases h11 : kind = 11
      · subst h11
        obtain ⟨hne, h2⟩ := checkG_end h
        rw [List.cons_append, checkG, if_neg hf, if_neg (by simp), if_pos rfl, if_neg hne, checkG_app p q (i + 1) (op - 1) h2, List.length_cons, show i + 1 + p.length = i + (p.length + 1) by omega]
      · have h2 : checkG p (i + 1) op = (0, 0) := by rw [← checkG_other h10 h11 h]; exact h
        rw [List.cons_append, checkG, if_neg hf, if_neg h10, if_neg h11, checkG_app p q (i + 1) op h2, List.length_cons, show i + 1 + p.length = i + (p.length + 1) by omega]
theorem checkG_shift : ∀ (p : List Op4) (i j op : Nat), checkG p i op = (0, 0) → checkG p j op = (0, 0)
  | [], i, j, op, h => by
    unfold checkG at h ⊢
    split at h
    · simp at h
    · rename_i h0; rw [if_neg h0]
  | o :: p, i, j, op, h => by
    have hf := checkG_fok h
    obtain ⟨kind, res, nn, vv⟩ := o
    by_cases h10 : kind = 10
    · subst h10
      have h2 := checkG_shift p _ (j + 1) _ (checkG_rep h)
      have h4 : ¬ op = 4 := by
        intro e
        rw [checkG, if_neg hf, if_pos rfl, if_pos e] at h
        simp at h
      rw [checkG, if_neg hf, if_pos rfl, if_neg h4, h2]
    · by_cases h11 : kind = 11
      · subst h11
        obtain ⟨hne, h2⟩ := checkG_end h
        rw [checkG, if_neg hf, if_neg (by simp), if_pos rfl, if_neg hne]
        exact checkG_shift p _ _ _ h2
      · have h2 : checkG p (i + 1) op = (0, 0) := by rw [← checkG_other h10 h11 h]; exact h
        rw [checkG, if_neg hf, if_neg h10, if_neg h11]
        exact checkG_shift p _ _ _ h2
theorem checkB_zero {xs : List Op4} (h : (checkB xs).2 = 0) : xs.length ≤ 256 ∧ checkG xs 0 0 = (0, 0) := by
  unfold checkB at h
  split at h
  · cases h
  · exact ⟨by omega, checkG_zero _ _ _ h⟩
theorem checkB_append {p q : List Op4} (hp : (checkB p).2 = 0) (hq : (checkB q).2 = 0) (hl : p.length + q.length ≤ 256) : (checkB (p ++ q)).2 = 0 := by
  obtain ⟨-, h1⟩ := checkB_zero hp
  obtain ⟨-, h2⟩ := checkB_zero hq
  unfold checkB
  rw [if_neg (by rw [List.length_append]; omega), checkG_app p q 0 0 h1, checkG_shift q _ _ _ h2]
/-- The same steps from another count on, as far as there is room. -/
theorem runG_at : ∀ (a : List Op4) (k k' : Nat), (runG a k).2.1 = false → k' + (runG a k).1.length ≤ 4096 → (k' + (runG a k).1.length = 4096 → (runG a k).2.2 = false ∨ k' + a.length = 4096) → runG a k' = runG a k
  | [], _, _, _, _, _ => rfl
  | o :: r, k, k', ho, hl, hx => by
    by_cases hk : k = 4096
    · subst hk; rw [runG_over] at ho; cases ho
    · by_cases h9 : o.kind = 9
      · rw [runG_fin _ _ _ hk h9] at hl ⊢
        simp only [List.length_singleton] at hl
        rw [runG_fin _ _ _ (by omega) h9]
      · rw [runG_one _ _ _ hk h9] at ho hl hx ⊢
        have hl2 : (comb [o] (runG r (k + 1))).1.length = (runG r (k + 1)).1.length + 1 := by simp [comb]
        rw [hl2] at hl hx
        rw [runG_one _ _ _ (by omega) h9, runG_at r (k + 1) (k' + 1) ho (by omega) (fun e => by
          rcases hx (by omega) with h | h
          · exact .inl h
          · right; simp only [List.length_cons] at h; omega)]
theorem runG_past : ∀ (a : List Op4) (k k' : Nat), (runG a k).2.1 = false → k' ≤ 4096 → 4096 < k' + (runG a k).1.length → (runG a k').2 = (true, false)
  | [], _, _, _, _, h => by simp [runG] at h; omega
  | o :: r, k, k', ho, hk', h => by
    by_cases hk : k = 4096
    · subst hk; rw [runG_over] at ho; cases ho
    · by_cases he : k' = 4096
      · subst he; rw [runG_over]
      · by_cases h9 : o.kind = 9
        · rw [runG_fin _ _ _ hk h9] at h
          simp only [List.length_singleton] at h
          omega
        · rw [runG_one _ _ _ hk h9] at ho h
          have hl2 : (comb [o] (runG r (k + 1))).1.length = (runG r (k + 1)).1.length + 1 := by simp [comb]
          rw [hl2] at h
          rw [runG_one _ _ _ he h9]
          exact runG_past r (k + 1) (k' + 1) ho (by omega) (by omega)
end CD
end Go.Proofs.YtnehiooioodkfaaDoor
