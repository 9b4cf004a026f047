/-
  CODE: an operation behind its first word.
-/
import Derived.Test.YtnehiooioodkfaaDoorK9
import Derived.Test.YtnehiooioodkfaaDoorEOq
import Derived.Test.YtnehiooioodkfaaDoorIter
import Derived.LoopN
set_option linter.unusedVariables false
set_option linter.unusedSimpArgs false
namespace Go.Proofs.YtnehiooioodkfaaDoor
open Go Go.RowKit
namespace CD
/-- What one leaves. -/
def OneP (w : World) (ow : Ow) (g : Nat) (s : ByteArray) (k0 : Nat) (opn : Nat) (ops : List Op4) (kind : Int) (e : Ending) (w' : World) : Prop :=
  ∃ (OW : Ow) (a c : Int), e = .returned (.tuple #[.int .i64 a, .int .i64 c]) ∧ Turn [1] w ow w' OW ∧ VO w' OW ∧ (∀ er, oneG s kind opn k0 = .error er → a = er.1 ∧ c = er.2 ∧ c ≠ 0) ∧
    (∀ x, oneG s kind opn k0 = .ok x → a = 0 ∧ c = 0 ∧ ∃ vs, RB w' OW [1, 0] g s x.2.2 vs x.2.1 ∧ Row w' OW [1, 1] 32 4 vs (ops ++ [x.1]).length (EOq.css (ops ++ [x.1])))
theorem brace_toList : (⟨#[123]⟩ : ByteArray).toList = [123] := by rw [ByteArray.toList_eq]

end CD
end Go.Proofs.YtnehiooioodkfaaDoor
