/-
  CODE: the first bytes of a text.
-/
import Derived.Test.YtnehiooioodkfaaDoorK1
set_option linter.unusedVariables false
set_option linter.unusedSimpArgs false
namespace Go.Proofs.YtnehiooioodkfaaDoor
open Go Go.RowKit
namespace CD
/-- The first n bytes. -/
def fewB (s : ByteArray) (n : Nat) : ByteArray := if n < s.size then s.extract 0 n else s
set_option maxHeartbeats 1000000 in
theorem few (w : World) (s : ByteArray) (n : Nat) (hs : s.size ≤ maxLen) (hn : n ≤ 1000000) : Calls Tryd.prog 22 #[.string s, .int .i64 n] w fun e w' => e = .returned (.string (fewB s n)) ∧ w' = w := by
  unfold maxLen at hs
  unfold fewB
  by_cases h : n < s.size
  · rw [if_pos h]
    have h1 : (n : Int) < (s.size : Int) := by omega
    have h2 : (n : Int) ≤ (s.size : Int) := by omega
    go_enter Tryd.func22, Tryd.ntmps22
    go_wp2
    go_ret
    exact ⟨rfl, rfl⟩
  · rw [if_neg h]
    have h1 : ¬ (n : Int) < (s.size : Int) := by omega
    go_enter Tryd.func22, Tryd.ntmps22
    go_wp2
    go_ret
    exact ⟨rfl, rfl⟩
end CD
end Go.Proofs.YtnehiooioodkfaaDoor
