/-
  LAW 5: plain words for the laws; what they share.
-/
import Derived.Test.YtefagdbdimpcdaaUA
import Derived.Test.YtefagdbdimpcdaaUR
import Derived.Test.YtefagdbdimpcdaaEIntS2
import Derived.Test.YtefagdbdimpcdaaELkS
set_option linter.unusedVariables false
set_option linter.unusedSimpArgs false
namespace Go.Proofs.Ytefagdbdimpcdaa
open Go Go.RowKit
/-- What came in, as a source of append. -/
theorem EInt.Cov.src {P : Program} {w : World} {A : Option Addr} {us : List Int} {tx e' : TypeId} (h : EInt.Cov w A (EInt.css us)) (hk : P.underlying tx = some (.slice e')) (c : Nat) : Src P 1 tx (.slice A us.length c) us.length (EInt.css us) w := by
  cases A with
  | none =>
    have hus : us = [] := by
      cases us with
      | nil => rfl
      | cons x us =>
        obtain ⟨b, off, ha, -⟩ := h (by rw [EInt.css_length]; simp)
        cases ha
    subst hus
    exact Src.ofNil w hk c
  | some a =>
    refine Src.ofSlice w hk a _ c _ (by rw [EInt.css_length]) (fun j u hj => ?_) (EInt.css_one us)
    obtain ⟨b, off, ha, hc⟩ := h (by have := (List.getElem?_eq_some_iff.1 hj).1; omega)
    obtain rfl := Option.some.inj ha
    rw [Addr.add_lit]
    exact hc j u hj
namespace UN
theorem nilCov (w : World) : EOp.Cov w none (EOp.css []) := fun h => by simp [EOp.css] at h
section
variable {U C : List Int} {T : List Tk}
theorem cellE_iff (hi : Inv U C T) (job res : Int) : cellE U T job res = 0 ↔ (0 < heldQ U T job res ∧ 0 ≤ job) := by
  unfold cellE heldQ
  by_cases hj : job < 0
  · rw [if_pos (.inl hj)]
    constructor
    · intro h; omega
    · intro h; omega
  · cases hk : known U res with
    | false => rw [if_pos (.inr rfl)]; simp
    | true =>
      obtain ⟨r, rfl, hr, -⟩ := known_yes hk
      rw [if_neg (by simp [hj]), if_pos rfl]
      have := (hi.held job r).1
      by_cases h0 : heldT T job r = 0
      · rw [if_pos h0, h0]
        constructor
        · intro h; omega
        · intro h; omega
      · rw [if_neg h0]
        constructor
        · intro _; exact ⟨by omega, by omega⟩
        · intro _; rfl
theorem cellE_known {job res : Int} (h : cellE U T job res = 0) : ∃ r : Nat, res = r ∧ r < U.length := by
  cases hk : known U res with
  | false => unfold cellE at h; rw [if_pos (.inr hk)] at h; omega
  | true => obtain ⟨r, h1, h2, -⟩ := known_yes hk; exact ⟨r, h1, h2⟩
end
end UN
end Go.Proofs.Ytefagdbdimpcdaa
