/-
  FN: a function value is not nil.
-/
import Derived.Test.YtnehiooioodkfaaDoorIter
set_option linter.unusedVariables false
set_option linter.unusedSimpArgs false
namespace Go.Proofs.YtnehiooioodkfaaDoor
open Go Go.RowKit
section
variable {P : Program} (w : World)
theorem run_equalIn_fn (d : Nat) (t : TypeId) (ps rs : Array TypeId) (v : Bool) (f : Fn) (x y : Array Value) (h : P.underlying t = some (.func ps rs v)) : (Op.equalIn (d + 1) t (.func f x y) .nilFunc).run P w = .ok false w := by
  simp [Op.equalIn, run_underlying h]
theorem run_eql_fn (t : TypeId) (ps rs : Array TypeId) (v : Bool) (f : Fn) (x y : Array Value) (h : P.underlying t = some (.func ps rs v)) : (binOp .eql t (.func f x y) .nilFunc).run P w = .ok (.bool false) w := by
  have e : (Op.equal t (.func f x y) .nilFunc).run P w = .ok false w := run_equalIn_fn w 9999 t ps rs v f x y h
  simp only [binOp]
  simp [e]
end
end Go.Proofs.YtnehiooioodkfaaDoor
