/-
  CALC: one more step of the calculus for regions: an operation that its guard leaves out.
-/
import Derived.Test.YtppikbdeopagkaaIter
set_option linter.unusedVariables false
set_option linter.unusedSimpArgs false
namespace Go.Proofs.Ytppikbdeopagkaa
open Go Go.RowKit
section
variable {P : Program} {ops : Array Oper} {Q : Exit → Act → World → Prop} {md : Region.Mode}
/-- Number i, left out by its guard, first. -/
theorem anyX_takeU {S : World → Prop} {X : List Nat} (i : Nat) {oi : Oper} {d : Tmp} {fuel : Nat} {listed : Array Bool} {tm : Array Value} {ds : List Deferred} {w : World} (hi : ops[i]? = some oi) (hd : oi.dst = some d)
    (hs : Region.noSelect ops = true) (hf : Region.free md ops listed i = true) (hr : (Region.ready md ops listed).contains i = true) (hw : waits md ops X i = true) (hiX : X.contains i = false)
    (hQ : ∀ c a w, Q (.panic c) (a.put oi.dst undef) w → Q (.panic c) a w) (hg : Region.wanted oi (yielded ops tm) = false) (hS : S w)
    (h : ∀ tm', tm.setIfInBounds d undef = tm' → anyX P md ops Q S X fuel (listed.setIfInBounds i true) ⟨tm', ds⟩ w) : anyX P md ops Q S X (fuel + 1) listed ⟨tm, ds⟩ w := by
  refine anyX_take hi hs hf hr hw hiX hQ (.inr ⟨hg, rfl⟩) hS ?_
  have := h _ rfl
  simpa only [Act.put, hd] using this
end
end Go.Proofs.Ytppikbdeopagkaa
