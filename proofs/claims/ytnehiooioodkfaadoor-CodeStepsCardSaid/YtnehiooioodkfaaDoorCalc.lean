/-
  CALC: one more step of the calculus for regions: an operation that its guard leaves out.
-/
import Derived.Test.YtnehiooioodkfaaDoorIter
set_option linter.unusedVariables false
set_option linter.unusedSimpArgs false
namespace Go.Proofs.YtnehiooioodkfaaDoor
open Go Go.RowKit
section
variable {P : Program} {ops : Array Oper} {Q : Exit → Act → World → Prop} {md : Region.Mode}
/-- Number i, left out by its guard, first. -/
theorem anyX_takeU {S : World → Prop} {X : List Nat} (i : Nat) {oi : Oper} {d : Tmp} {fuel : Nat} {listed : Array Bool} {tm : Array Value} {ds : List Deferred} {w : World} (hi : ops[i]? = some oi) (hd : oi.dst = some d)
    (hs : Region.noSelect ops = true) (hf : Region.free md ops listed i = true) (hr : (Region.ready md ops listed).contains i = true) (hw : waits md ops X i = true) (hiX : X.contains i = false)
    (hQ : ∀ c a w, Q (.panic c) (a.put oi.dst undef) w → Q (.panic c) a w) (hg : Region.wanted oi (yielded ops tm) = false) (hS : S w)
    (h : ∀ tm', tm.setIfInBounds d undef = tm' → anyX P md ops Q S X fuel (listed.setIfInBounds i true) ⟨tm', ds⟩ w) : anyX P md ops Q S X (fuel + 1) listed ⟨tm, ds⟩ w := by
  refine anyX_take hi hs hf hr hw hiX hQ (.inr ⟨hg, rfl⟩) hS ?_
  have := h _ rfl
  simpa only [Act.put, hd] using this
/-- The same three, the frame as a list (what turns is reckoned, not rewritten). -/
theorem anyX_takeNL {S : World → Prop} {X : List Nat} (i : Nat) {oi : Oper} {v : Value} {d : Tmp} {fuel : Nat} {listed : Array Bool} {l : List Value} {ds : List Deferred} {w : World} (hi : ops[i]? = some oi) (hd : oi.dst = some d)
    (hs : Region.noSelect ops = true) (hf : Region.free md ops listed i = true) (hr : (Region.ready md ops listed).contains i = true) (hw : waits md ops X i = true) (hiX : X.contains i = false)
    (hQ : ∀ c a w, Q (.panic c) (a.put oi.dst v) w → Q (.panic c) a w) (hg : oi.guard = none) (hy : ∀ w, S w → (execOp (Act.eval ⟨l.toArray, ds⟩) oi).run P w = .ok (.value v) w) (hS : S w)
    (h : ∀ l', l.set d v = l' → anyX P md ops Q S X fuel (listed.setIfInBounds i true) ⟨l'.toArray, ds⟩ w) : anyX P md ops Q S X (fuel + 1) listed ⟨l.toArray, ds⟩ w :=
  anyX_takeN i hi hd hs hf hr hw hiX hQ hg hy hS fun tm' htm => by
    obtain rfl : tm' = (l.set d v).toArray := by rw [← htm]; exact List.setIfInBounds_toArray ..
    exact h _ rfl
theorem anyX_takeWL {S : World → Prop} {X : List Nat} (i : Nat) {oi : Oper} {v : Value} {d : Tmp} {fuel : Nat} {listed : Array Bool} {l : List Value} {ds : List Deferred} {w : World} (hi : ops[i]? = some oi) (hd : oi.dst = some d)
    (hs : Region.noSelect ops = true) (hf : Region.free md ops listed i = true) (hr : (Region.ready md ops listed).contains i = true) (hw : waits md ops X i = true) (hiX : X.contains i = false)
    (hQ : ∀ c a w, Q (.panic c) (a.put oi.dst v) w → Q (.panic c) a w) (hg : Region.wanted oi (yielded ops l.toArray) = true) (hy : ∀ w, S w → (execOp (Act.eval ⟨l.toArray, ds⟩) oi).run P w = .ok (.value v) w) (hS : S w)
    (h : ∀ l', l.set d v = l' → anyX P md ops Q S X fuel (listed.setIfInBounds i true) ⟨l'.toArray, ds⟩ w) : anyX P md ops Q S X (fuel + 1) listed ⟨l.toArray, ds⟩ w :=
  anyX_takeW i hi hd hs hf hr hw hiX hQ hg hy hS fun tm' htm => by
    obtain rfl : tm' = (l.set d v).toArray := by rw [← htm]; exact List.setIfInBounds_toArray ..
    exact h _ rfl
theorem anyX_takeUL {S : World → Prop} {X : List Nat} (i : Nat) {oi : Oper} {d : Tmp} {fuel : Nat} {listed : Array Bool} {l : List Value} {ds : List Deferred} {w : World} (hi : ops[i]? = some oi) (hd : oi.dst = some d)
    (hs : Region.noSelect ops = true) (hf : Region.free md ops listed i = true) (hr : (Region.ready md ops listed).contains i = true) (hw : waits md ops X i = true) (hiX : X.contains i = false)
    (hQ : ∀ c a w, Q (.panic c) (a.put oi.dst undef) w → Q (.panic c) a w) (hg : Region.wanted oi (yielded ops l.toArray) = false) (hS : S w)
    (h : ∀ l', l.set d undef = l' → anyX P md ops Q S X fuel (listed.setIfInBounds i true) ⟨l'.toArray, ds⟩ w) : anyX P md ops Q S X (fuel + 1) listed ⟨l.toArray, ds⟩ w :=
  anyX_takeU i hi hd hs hf hr hw hiX hQ hg hS fun tm' htm => by
    obtain rfl : tm' = (l.set d undef).toArray := by rw [← htm]; exact List.setIfInBounds_toArray ..
    exact h _ rfl
/-- What is known of the world may be said later, where the operations that need it are left. -/
theorem anyX_weaken (S : World → Prop) (X : List Nat) : ∀ (fuel : Nat) (listed : Array Bool) (a : Act) (w : World), anyX P md ops Q S X fuel listed a w → anyX P md ops Q (fun _ => True) [] fuel listed a w
  | 0, _, _, _, h => h
  | fuel + 1, _, _, _, h => ⟨h.1, fun i hi => wpOp_mono (fun a' w' k => ⟨fun _ => trivial, anyX_weaken S X fuel _ a' w' k.2⟩) (h.2 i hi)⟩
end
end Go.Proofs.YtnehiooioodkfaaDoor
