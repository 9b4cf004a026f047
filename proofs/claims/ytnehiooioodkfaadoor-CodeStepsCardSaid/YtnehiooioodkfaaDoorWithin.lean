/-
  KEELBOOK.WITHIN: a number brought into bounds.
-/
import Derived.Test.YtnehiooioodkfaaDoorProg
import Derived.Test.YtnehiooioodkfaaDoorMore
import Derived.Outline
import Derived.Lib.Hide
set_option linter.unusedVariables false
set_option linter.unusedSimpArgs false
namespace Go.Proofs.YtnehiooioodkfaaDoor
open Go Go.RowKit

def WithinP (w : World) (lo hi : Int) (e : Ending) (w' : World) : Prop := ∃ r : Int, e = .returned (.int .i64 r) ∧ lo ≤ r ∧ r ≤ hi ∧ w' = w

set_option maxHeartbeats 1000000 in
theorem within (w : World) (n lo hi : Int) (h1 : lo ≤ hi) (h2 : -1099511627776 ≤ lo) (h3 : hi ≤ 1099511627776) (hn : -9223372036854775808 ≤ n ∧ n ≤ 9223372036854775807) :
    Calls Tryd.prog 23 #[.int .i64 n, .int .i64 lo, .int .i64 hi] w (WithinP w lo hi) := by
  obtain ⟨t, ht⟩ : ∃ t, n.tmod (hi - lo + 1) = t := ⟨_, rfl⟩
  have hm : 0 < hi - lo + 1 := by omega
  have hb1 : t < hi - lo + 1 := by rw [← ht]; exact Int.tmod_lt_of_pos n hm
  have hb2 : -(hi - lo + 1) < t := by rw [← ht]; have h := Int.tmod_lt_of_pos (-n) hm; rw [Int.neg_tmod] at h; omega
  have hne : ¬ hi - lo + 1 = 0 := by omega
  have hne' : (hi - lo + 1 == 0) = false := by simpa using hne
  obtain ⟨hn1, hn2⟩ := hn
  go_enter Tryd.func23, Tryd.ntmps23
  by_cases hneg : t < 0
  · go_wp2
    go_ret
    exact ⟨_, rfl, by omega, by omega, rfl⟩
  · go_wp2
    go_ret
    exact ⟨_, rfl, by omega, by omega, rfl⟩

end Go.Proofs.YtnehiooioodkfaaDoor
