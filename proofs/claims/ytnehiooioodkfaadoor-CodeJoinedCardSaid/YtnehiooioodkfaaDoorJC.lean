/-
  CODE: behind a finish nothing counts; Count is the length of Steps (plain).
-/
import Derived.Test.YtnehiooioodkfaaDoorJB
set_option linter.unusedVariables false
set_option linter.unusedSimpArgs false
namespace Go.Proofs.YtnehiooioodkfaaDoor
open Go Go.RowKit
namespace CD
theorem count_len {xs : List Op4} (h : (listB xs).2 = 0) : countB xs = (((listB xs).1.length : Int), 0) := by
  have hc : (countB xs).2 = 0 := by
    unfold listB at h
    by_cases h0 : (countB xs).2 = 0
    · exact h0
    · rw [if_neg h0] at h; exact h
  have hck : (checkB xs).2 = 0 := by
    unfold countB at hc
    by_cases h0 : (checkB xs).2 = 0
    · exact h0
    · rw [if_neg h0] at hc; exact hc
  have hL : (listB xs).1 = walkT xs := by unfold listB; rw [if_pos hc]
  rw [hL]
  unfold countB at hc ⊢
  rw [if_pos hck] at hc ⊢
  unfold walkN at hc ⊢
  unfold walkT
  by_cases hm : (allE xs).2.2 = true
  · rw [if_pos hm] at hc ⊢
    by_cases hk : (allE xs).1.length = 4096
    · rw [if_pos hk] at hc; cases hc
    · rw [if_neg hk, if_pos ⟨hm, hk⟩]
      simp
  · rw [if_neg hm] at hc ⊢
    by_cases ho : (allE xs).2.1 = true
    · rw [if_pos ho] at hc; cases hc
    · rw [if_neg ho, if_neg (fun h : (allE xs).2.2 = true ∧ _ => hm h.1)]
theorem behind_fin {p q : List Op4} (hl : p.length + q.length < 256) (hp : (checkB p).2 = 0) (hq : (checkB q).2 = 0) (h1 : (listB p).2 = 0) (h9 : ∀ o ∈ p, o.kind ≠ 9) : listB (p ++ finO :: q) = listB p := by
  obtain ⟨-, hpo⟩ := checkB_op.1 hp
  obtain ⟨-, hqo⟩ := checkB_op.1 hq
  have hc : (checkB (p ++ finO :: q)).2 = 0 := checkB_op.2 ⟨by rw [List.length_append, List.length_cons]; omega, by
    rw [opG_append, hpo]
    simp only [Option.bind_some]
    rw [opG, if_neg (by decide), if_neg (by decide), if_neg (by decide)]
    exact hqo⟩
  obtain ⟨e1, e2, e3⟩ := no_fin hp h1 h9
  have hm : (runG (segB p) 0).2.2 = true := by rw [e1]
  have hw : Whole (q.length + 1 + 1) (finO :: q) (finO :: segB q) := .inr (.inr (.inr ⟨finO, q, segB q, rfl, by decide, by decide, by decide, rfl, whole_of_check hq⟩))
  rw [listB_res hc, (whole_of_check hc).uniq ((whole_of_check hp).append hw), runG_append, if_pos hm, e1]
  simp only [Nat.zero_add]
  rw [runG_fin _ _ _ (by omega) (by decide)]
  have h0 : listB p = (segB p ++ [finO], 0) := Prod.ext e3 h1
  rw [h0]
  rfl
end CD
end Go.Proofs.YtnehiooioodkfaaDoor
