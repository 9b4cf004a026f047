/-
  CODE: what Steps answers: the last step is a finish, no other one is.
-/
import Derived.Test.YtnehiooioodkfaaDoorKQ
set_option linter.unusedVariables false
set_option linter.unusedSimpArgs false
namespace Go.Proofs.YtnehiooioodkfaaDoor
open Go Go.RowKit
namespace CD
/-- A step: no repeat, no end; work goes one step at a time. -/
def stepOk (o : Op4) : Prop := o.kind ≠ 10 ∧ o.kind ≠ 11 ∧ (o.kind = 5 → o.n = 1)
theorem segE_ok (xs : List Op4) (E : List Int) : ∀ (f i j : Nat), NS xs E f i j = true → ∀ o ∈ segE xs E f i j, stepOk o
  | 0, _, _, h, _, _ => by cases h
  | f + 1, i, j, h, o, ho => by
    by_cases hij : i < j
    · obtain ⟨f', x, hf, hx, hc⟩ := NS_in h hij
      injection hf with hf
      subst hf
      rcases hc with ⟨h10, -, e, -, -, -, h1, h2, hs⟩ | ⟨h5, -, h2, hs⟩ | ⟨h10, h5, h11, h2, hs⟩
      · rw [hs] at ho
        rcases List.mem_append.1 ho with ho | ho
        · obtain ⟨l, hl, ho⟩ := List.mem_flatten.1 ho
          rw [List.eq_of_mem_replicate hl] at ho
          exact segE_ok xs E f _ _ h1 o ho
        · exact segE_ok xs E f _ _ h2 o ho
      · rw [hs] at ho
        rcases List.mem_append.1 ho with ho | ho
        · rw [List.eq_of_mem_replicate ho]
          exact ⟨by decide, by decide, fun _ => rfl⟩
        · exact segE_ok xs E f _ _ h2 o ho
      · rw [hs] at ho
        rcases List.mem_cons.1 ho with rfl | ho
        · exact ⟨h10, h11, fun h => absurd h h5⟩
        · exact segE_ok xs E f _ _ h2 o ho
    · have := NS_le xs E _ _ _ h
      obtain rfl : i = j := by omega
      rw [segE_nil] at ho
      cases ho
theorem runG_sub : ∀ (a : List Op4) (k : Nat), ∀ o ∈ (runG a k).1, o ∈ a
  | [], _, _, ho => by simp [runG] at ho
  | x :: r, k, o, ho => by
    by_cases hk : k = 4096
    · subst hk; rw [runG_over] at ho; cases ho
    · by_cases h9 : x.kind = 9
      · rw [runG_fin _ _ _ hk h9] at ho
        rcases List.mem_singleton.1 ho with rfl
        exact List.mem_cons_self ..
      · rw [runG_one _ _ _ hk h9] at ho
        rcases List.mem_append.1 ho with ho | ho
        · rcases List.mem_singleton.1 ho with rfl
          exact List.mem_cons_self ..
        · exact List.mem_cons_of_mem _ (runG_sub r _ o ho)
theorem runG_more9 : ∀ (a : List Op4) (k : Nat), (runG a k).2.2 = true → ∀ o ∈ a, o.kind ≠ 9
  | [], _, _, _, ho => by cases ho
  | x :: r, k, h, o, ho => by
    by_cases hk : k = 4096
    · subst hk; rw [runG_over] at h; cases h
    · by_cases h9 : x.kind = 9
      · rw [runG_fin _ _ _ hk h9] at h; cases h
      · rw [runG_one _ _ _ hk h9] at h
        rcases List.mem_cons.1 ho with rfl | ho
        · exact h9
        · exact runG_more9 r _ h o ho
theorem runG_end : ∀ (a : List Op4) (k : Nat), (runG a k).2 = (false, false) → ∃ b f, (runG a k).1 = b ++ [f] ∧ f.kind = 9 ∧ ∀ o ∈ b, o.kind ≠ 9
  | [], _, h => by simp [runG] at h
  | x :: r, k, h => by
    by_cases hk : k = 4096
    · subst hk; rw [runG_over] at h; simp at h
    · by_cases h9 : x.kind = 9
      · rw [runG_fin _ _ _ hk h9]
        exact ⟨[], x, rfl, h9, fun o ho => by cases ho⟩
      · rw [runG_one _ _ _ hk h9] at h ⊢
        obtain ⟨b, f, h1, h2, h3⟩ := runG_end r (k + 1) h
        refine ⟨x :: b, f, by simp [comb, h1], h2, fun o ho => ?_⟩
        rcases List.mem_cons.1 ho with rfl | ho
        · exact h9
        · exact h3 o ho
/-- Its steps and the finish. -/
theorem listB_form {xs : List Op4} (h : (listB xs).2 = 0) : ∃ b f, (listB xs).1 = b ++ [f] ∧ f.kind = 9 ∧ stepOk f ∧ (∀ o ∈ b, o.kind ≠ 9 ∧ stepOk o) ∧ b.length + 1 ≤ 4096 := by
  have hc : (countB xs).2 = 0 := by
    unfold listB at h
    by_cases h0 : (countB xs).2 = 0
    · exact h0
    · rw [if_neg h0] at h; exact h
  have hck : (checkB xs).2 = 0 := by
    unfold countB at hc
    by_cases h0 : (checkB xs).2 = 0
    · exact h0
    · rw [if_neg h0] at hc; exact hc
  obtain ⟨hns, -, -⟩ := nested_of_check hck
  have hseg := segE_ok xs (endsB xs) _ _ _ hns
  have hlen := runG_len (segE xs (endsB xs) (xs.length + 1) 0 xs.length) 0 (by omega)
  change 0 + (allE xs).1.length ≤ 4096 at hlen
  have hL : (listB xs).1 = walkT xs := by unfold listB; rw [if_pos hc]
  have hw : (walkN xs).2 = 0 := by unfold countB at hc; rw [if_pos hck] at hc; exact hc
  rw [hL]
  unfold walkN at hw
  unfold walkT
  by_cases hm : (allE xs).2.2 = true
  · rw [if_pos hm] at hw
    by_cases hk : (allE xs).1.length = 4096
    · rw [if_pos hk] at hw; cases hw
    · rw [if_pos ⟨hm, hk⟩]
      obtain ⟨e1, e2⟩ := runG_more _ _ hm
      have h9 := runG_more9 _ _ hm
      refine ⟨(allE xs).1, _, rfl, rfl, ⟨by decide, by decide, fun h => absurd h (by decide)⟩, fun o ho => ?_, by omega⟩
      have ho2 := runG_sub _ _ o ho
      exact ⟨h9 o ho2, hseg o ho2⟩
  · rw [if_neg hm] at hw
    rw [if_neg (fun h => hm h.1)]
    by_cases hov : (allE xs).2.1 = true
    · rw [if_pos hov] at hw; cases hw
    · have h2 : (allE xs).2 = (false, false) := by
        cases hx : (allE xs).2 with
        | mk a b =>
          rw [hx] at hm hov
          simp only [Bool.not_eq_true] at hm hov
          rw [hm, hov]
      obtain ⟨b, f, h3, h4, h5⟩ := runG_end _ _ h2
      change (allE xs).1 = b ++ [f] at h3
      rw [h3] at hlen ⊢
      have hsub := fun o (ho : o ∈ b ++ [f]) => hseg o (runG_sub _ 0 o (by change o ∈ (allE xs).1; rw [h3]; exact ho))
      exact ⟨b, f, rfl, h4, hsub f (by simp), fun o ho => ⟨h5 o ho, hsub o (by simp [ho])⟩, by simp at hlen; omega⟩
end CD
end Go.Proofs.YtnehiooioodkfaaDoor
