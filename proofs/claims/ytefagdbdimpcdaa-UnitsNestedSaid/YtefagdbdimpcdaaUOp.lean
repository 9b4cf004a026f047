/-
  UNITS: plain: what a call leaves as it was.
-/
import Derived.Test.YtefagdbdimpcdaaUB
set_option linter.unusedVariables false
set_option linter.unusedSimpArgs false
namespace Go.Proofs.Ytefagdbdimpcdaa
open Go Go.RowKit
namespace UN

theorem act_locks (U : List Int) (T : List Tk) (o : Op5) (job : Int) (hj : job ≠ o.job) : locksOf (actT U T o) job = locksOf T job := by
  unfold actT
  split
  · unfold lockT
    split
    · rw [locksOf_snoc, if_neg (fun e => hj e.symm)]
    · rfl
  · split
    · unfold unlockT
      split
      · exact pop_other _ _ hj _
      · rfl
    · split
      · exact drop_other _ _ hj _
      · rfl
theorem act_held (U : List Int) (T : List Tk) (o : Op5) (job res : Int) (hj : job ≠ o.job) : heldQ U (actT U T o) job res = heldQ U T job res := by
  unfold heldQ heldT
  rw [act_locks U T o job hj]
theorem act_heldR (U : List Int) (T : List Tk) (o : Op5) (res : Int) (hr : res ≠ o.res) (hk : o.kind ≠ 2) (j : Int) : heldT (actT U T o) j res = heldT T j res := by
  by_cases hj : j = o.job
  · subst hj
    unfold actT heldT
    rw [if_neg hk]
    split
    · unfold lockT
      split
      · rw [locksOf_snoc, if_pos rfl, heldL_snoc, if_neg (fun e => hr e.symm), Int.add_zero]
      · rfl
    · split
      · unfold unlockT
        split
        · rename_i he
          rw [pop_locks]
          unfold unlockE at he
          split at he
          · exact absurd he (by decide)
          · split at he
            · exact absurd he (by decide)
            · rename_i l hl
              split at he
              · rename_i hlr
                obtain ⟨ls, hls⟩ := List.getLast?_eq_some_iff.1 hl
                rw [hls, List.dropLast_concat, heldL_snoc, if_neg (fun e => hr (e.symm.trans hlr)), Int.add_zero]
              · exact absurd he (by decide)
        · rfl
      · rfl
  · unfold heldT
    rw [act_locks U T o j hj]
theorem act_holders {U : List Int} {T : List Tk} {o : Op5} {res : Int} (hr : res ≠ o.res) (hk : o.kind ≠ 2) {hs : List Hd} (h : IsH (actT U T o) res hs) : IsH T res hs :=
  ⟨h.1, fun x => by rw [h.2 x, act_heldR U T o res hr hk]⟩
theorem act_cell {U C : List Int} {T : List Tk} {o : Op5} {res : Int} (hr : res ≠ o.res) : cellQ (actC U C T o) res = cellQ C res := by
  unfold actC
  split
  · unfold storeC
    split
    · rename_i he
      obtain ⟨r, h1, -⟩ := cellE_known he
      unfold cellQ unitsOf
      split
      · rw [List.getElem?_set_ne (by omega)]
      · rfl
    · rfl
  · rfl
end UN
end Go.Proofs.Ytefagdbdimpcdaa
