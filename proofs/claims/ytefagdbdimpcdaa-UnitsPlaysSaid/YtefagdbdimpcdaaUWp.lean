/-
  UNITS: plain: when a call is granted, and what it leaves.
-/
import Derived.Test.YtefagdbdimpcdaaUSp
set_option linter.unusedVariables false
set_option linter.unusedSimpArgs false
namespace Go.Proofs.Ytefagdbdimpcdaa
open Go Go.RowKit
namespace UN
section
variable {U C : List Int} {T : List Tk}

theorem lockE_iff (job res n need : Int) : lockE U T job res n need = 0 ↔ (0 ≤ job ∧ known U res = true ∧ 1 ≤ n ∧ n ≤ unitsOf U res ∧ n + heldT T job res ≤ need ∧ n ≤ freeT U T res) := by
  unfold lockE
  cases hk : known U res with
  | false => rw [if_pos (.inr (.inl rfl))]; simp
  | true =>
    split
    · rename_i h
      constructor
      · intro h0; exact absurd h0 (by decide)
      · rintro ⟨h1, -, h2, h3, -⟩
        rcases h with h | h | h | h
        · omega
        · cases h
        · omega
        · omega
    · rename_i h
      simp only [not_or, Int.not_lt] at h
      split
      · constructor
        · intro h0; exact absurd h0 (by decide)
        · rintro ⟨-, -, -, -, h4, -⟩; omega
      · split
        · constructor
          · intro h0; exact absurd h0 (by decide)
          · rintro ⟨-, -, -, -, -, h5⟩; omega
        · exact ⟨fun _ => ⟨h.1, rfl, h.2.2.1, h.2.2.2, by omega, by omega⟩, fun _ => rfl⟩
theorem lock_yes {job res n need : Int} (h : lockE U T job res n need = 0) : heldQ U (lockT U T job res n need) job res = heldQ U T job res + n ∧ freeQ U (lockT U T job res n need) res = freeQ U T res - n := by
  obtain ⟨-, hk, -⟩ := (lockE_iff _ _ _ _).1 h
  unfold lockT
  rw [if_pos h]
  unfold heldQ freeQ freeT heldT
  rw [if_pos hk, if_pos hk, if_pos hk, if_pos hk, locksOf_snoc, if_pos rfl, heldL_snoc, if_pos rfl, usedT_snoc, if_pos rfl]
  exact ⟨rfl, by show unitsOf U res - (usedT T res + n) = _; omega⟩
theorem lock_not {job res n need : Int} (h : lockE U T job res n need ≠ 0) : lockT U T job res n need = T := by unfold lockT; rw [if_neg h]

theorem unlockE_iff (job res : Int) : unlockE U T job res = 0 ↔ (0 ≤ job ∧ known U res = true ∧ ∃ ls l, locksOf T job = ls ++ [l] ∧ l.res = res) := by
  unfold unlockE
  cases hk : known U res with
  | false => rw [if_pos (.inr rfl)]; simp
  | true =>
    split
    · rename_i h
      constructor
      · intro h0; exact absurd h0 (by decide)
      · rintro ⟨h1, -⟩
        rcases h with h | h
        · omega
        · cases h
    · rename_i h
      simp only [not_or, Int.not_lt] at h
      cases hl : (locksOf T job).getLast? with
      | none =>
        constructor
        · intro h0
          have h1 : (21 : Int) = 0 := h0
          exact absurd h1 (by decide)
        · rintro ⟨-, -, ls, l, e, -⟩
          rw [e] at hl
          simp at hl
      | some l =>
        obtain ⟨ls, e⟩ := List.getLast?_eq_some_iff.1 hl
        show (if l.res = res then (0 : Int) else 21) = 0 ↔ _
        constructor
        · intro h0
          split at h0
          · rename_i e2; exact ⟨h.1, rfl, ls, l, e, e2⟩
          · exact absurd h0 (by decide)
        · rintro ⟨-, -, ls', l', e', e2⟩
          have : l = l' := by
            have h1 := congrArg List.getLast? (e.symm.trans e')
            simpa using h1
          rw [this, if_pos e2]
theorem unlock_yes {job res : Int} (h : unlockE U T job res = 0) {ls : List Lk} {l : Lk} (hl : locksOf T job = ls ++ [l]) : unlockN U T job res = l.n ∧ heldQ U (unlockT U T job res) job res = heldQ U T job res - l.n ∧ freeQ U (unlockT U T job res) res = freeQ U T res + l.n := by
  obtain ⟨-, hk, ls', l', e, e2⟩ := (unlockE_iff _ _).1 h
  have hll : l = l' := by
    have h1 := congrArg List.getLast? (hl.symm.trans e)
    simpa using h1
  rw [← hll] at e2
  refine ⟨?_, ?_, ?_⟩
  · unfold unlockN lastN
    rw [if_pos h, hl]
    simp
  · unfold unlockT
    rw [if_pos h]
    unfold heldQ heldT
    rw [if_pos hk, if_pos hk, pop_locks, hl, List.dropLast_concat, heldL_snoc, if_pos e2]
    omega
  · unfold unlockT
    rw [if_pos h]
    unfold freeQ freeT
    rw [if_pos hk, if_pos hk, pop_used job T ls l hl, if_pos e2]
    omega
theorem unlock_not {job res : Int} (h : unlockE U T job res ≠ 0) : unlockN U T job res = 0 ∧ unlockT U T job res = T := by unfold unlockN unlockT; rw [if_neg h, if_neg h]; exact ⟨rfl, rfl⟩

theorem drop_used (job r : Int) : ∀ T : List Tk, usedT (dropT job T) r = usedT T r - heldT T job r
  | [] => rfl
  | t :: T => by
    have ih := drop_used job r T
    rw [heldT_cons, usedT_cons]
    unfold dropT at ih ⊢
    by_cases e : t.job = job
    · rw [List.filter_cons_of_neg (by simpa using e), if_pos e, ih]; omega
    · rw [List.filter_cons_of_pos (by simpa using e), if_neg e, usedT_cons, ih]; omega
theorem drop_free (job res : Int) : freeQ U (dropT job T) res = freeQ U T res + heldQ U T job res := by
  unfold freeQ heldQ freeT
  split
  · rw [drop_used]; omega
  · rfl
theorem Inv.heldQ_le (h : Inv U C T) (job res : Int) : 0 ≤ heldQ U T job res ∧ heldQ U T job res ≤ 255 := by
  unfold heldQ
  split
  · rename_i hk
    obtain ⟨r, rfl, -⟩ := known_yes hk
    have h1 := h.held job r
    have h2 := h.used r
    omega
  · omega
theorem Inv.freeQ_le (h : Inv U C T) (res : Int) : 0 ≤ freeQ U T res ∧ freeQ U T res ≤ 255 := by
  unfold freeQ
  split
  · rename_i hk
    obtain ⟨r, rfl, -⟩ := known_yes hk
    exact h.free r
  · omega
end
end UN
end Go.Proofs.Ytefagdbdimpcdaa
