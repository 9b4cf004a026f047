/-
  UNITS: plain: a lock, what is nested in it, and its unlock.
-/
import Derived.Test.YtefagdbdimpcdaaUWp
import Derived.Test.YtefagdbdimpcdaaUA
set_option linter.unusedVariables false
set_option linter.unusedSimpArgs false
namespace Go.Proofs.Ytefagdbdimpcdaa
open Go Go.RowKit
namespace UN
section
variable {U C : List Int} {T : List Tk}

theorem cl_cl (n : Int) : cl (cl n) = cl n := by unfold cl; split <;> (try split) <;> (try split) <;> (try split) <;> omega
theorem map_cl2 (us : List Int) : (us.map cl).map cl = us.map cl := by
  rw [List.map_map]
  exact List.map_congr_left fun x _ => cl_cl x
theorem pop_snoc (job : Int) (e : Tk) (he : e.job = job) : ∀ T : List Tk, popT job (T ++ [e]) = T
  | [] => by
    show (if (locksOf [] job).isEmpty then (if e.job = job then [] else [e]) else e :: popT job []) = []
    rw [if_pos (show (locksOf [] job).isEmpty = true from rfl), if_pos he]
  | t :: T => by
    show (if (locksOf (T ++ [e]) job).isEmpty then (if t.job = job then T ++ [e] else t :: (T ++ [e])) else t :: popT job (T ++ [e])) = t :: T
    rw [pop_snoc job e he T, locksOf_snoc, if_pos he, if_neg (by simp)]
theorem snoc_locks {job : Int} {e : Tk} (he : e.job = job) (T : List Tk) : locksOf (T ++ [e]) job = locksOf T job ++ [⟨e.res, e.n⟩] := by rw [locksOf_snoc, if_pos he]
/-- The innermost lock goes. -/
theorem unlock_snoc {job : Int} {e : Tk} (he : e.job = job) (h : Inv U C (T ++ [e])) : unlockE U (T ++ [e]) job e.res = 0 ∧ unlockN U (T ++ [e]) job e.res = e.n ∧ unlockT U (T ++ [e]) job e.res = T := by
  obtain ⟨h1, h2, h3, -⟩ := h.tb e (by simp)
  have h0 : unlockE U (T ++ [e]) job e.res = 0 := (unlockE_iff job e.res).2 ⟨he ▸ h1, decide_eq_true ⟨h2, h3⟩, locksOf T job, ⟨e.res, e.n⟩, snoc_locks he T, rfl⟩
  refine ⟨h0, (unlock_yes h0 (snoc_locks he T)).1, ?_⟩
  unfold unlockT
  rw [if_pos h0, pop_snoc job e he]
/-- An unlock inside. -/
theorem unlock_ext {job res : Int} {E : List Tk} {e : Tk} (he : e.job = job) (h0 : unlockE U (T ++ (E ++ [e])) job res = 0) : unlockT U (T ++ (E ++ [e])) job res = T ++ E := by
  unfold unlockT
  rw [if_pos h0, ← List.append_assoc, pop_snoc job e he]
theorem lock_ext {job res n need : Int} {E : List Tk} (h0 : lockE U (T ++ E) job res n need = 0) : lockT U (T ++ E) job res n need = T ++ (E ++ [⟨job, res, n⟩]) := by
  unfold lockT
  rw [if_pos h0, List.append_assoc]
theorem unlock_none {job res : Int} (h0 : unlockE U T job res ≠ 0) : unlockT U T job res = T := (unlock_not h0).2
/-- The last of a row of locks goes. -/
theorem unlock_take {job : Int} {l : Lk} {ls : List Lk} (h : Inv U C T) (hl : locksOf T job = ls ++ [l]) : unlockE U T job l.res = 0 ∧ unlockN U T job l.res = l.n ∧ dropT job (unlockT U T job l.res) = dropT job T ∧ locksOf (unlockT U T job l.res) job = ls := by
  have hm : l ∈ locksOf T job := by rw [hl]; simp
  unfold locksOf at hm
  obtain ⟨t, ht, rfl⟩ := List.mem_map.1 hm
  obtain ⟨h1, h2⟩ := List.mem_filter.1 ht
  have h2 : t.job = job := by simpa using h2
  obtain ⟨b1, b2, b3, -⟩ := h.tb t h1
  have h0 : unlockE U T job t.res = 0 := (unlockE_iff job t.res).2 ⟨h2 ▸ b1, decide_eq_true ⟨b2, b3⟩, ls, _, hl, rfl⟩
  refine ⟨h0, (unlock_yes h0 hl).1, ?_, ?_⟩
  · unfold unlockT
    rw [if_pos h0, drop_pop]
  · unfold unlockT
    rw [if_pos h0, pop_locks, hl, List.dropLast_concat]
end
end UN
end Go.Proofs.Ytefagdbdimpcdaa
