/-
  COPIED of api.Lock.
-/
import Derived.Test.YtefagdbdimpcdaaELk
import Derived.Test.YtefagdbdimpcdaaIter
import Derived.Lib.Hide
import Derived.Outline
set_option linter.unusedVariables false
set_option linter.unusedSimpArgs false
namespace Go.Proofs.Ytefagdbdimpcdaa
open Go Go.RowKit
namespace ELk

set_option maxHeartbeats 400000 in
theorem copied (w : World) (ow : Ow) (q : List Nat) (v : Value) (n : Nat) (xs : List Lk) (hr : Reads w v n (css xs)) (hl : xs.length = n) (hn : n ≤ 1099511627776) :
    Calls Try.prog 82 #[v] w fun e w' => ∃ v' ow', e = .returned v' ∧ Row w' ow' q 51 2 v' n (css xs) ∧ New w ow w' ow' ∧ Fresh w.heap.size v' := by
  obtain ⟨A, c, rfl, hnc⟩ := hr.slice
  have hwl := css_length xs
  go_enter Try.func82, Try.ntmps82
  go_wp2_with (at_make; refine wpList_make_row [1] ow0 rfl _ _ 48 rfl 51 _ 2 16 Try.underlying48 info rfl _ _ _ _ 0 n rfl rfl rfl rfl (by omega) (by omega) (by unfold maxLen; omega) ?_)
  intro v1 w1 ow1 hrow hnew
  go_wp2_with (at_builtin; refine wpList_append_row rfl _ _ 48 48 rfl 51 _ 2 16 Try.underlying48 info rfl rfl hrow rfl ((hr.new_ hnew.below).src Try.underlying48 (by rw [hwl, hl]) (css_one xs)) (by unfold maxLen; omega) (by omega) ?_)
  intro v2 w2 ow2 hrow2 ht
  go_wp2
  go_ret
  have t := (hnew.turn [1]).trans ht
  exact ⟨_, _, rfl, by have := hrow2.ren t ow q; simpa [hl, madeCells] using this, t.new_ ow q, hrow2.fresh t⟩


end ELk
end Go.Proofs.Ytefagdbdimpcdaa
