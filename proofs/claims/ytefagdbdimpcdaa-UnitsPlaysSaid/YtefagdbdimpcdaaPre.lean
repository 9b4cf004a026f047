/-
  PRE: owners told under 0, so that all that is new can lie under 1.
-/
import Derived.Test.YtefagdbdimpcdaaIter
set_option linter.unusedVariables false
set_option linter.unusedSimpArgs false
namespace Go.Proofs.Ytefagdbdimpcdaa
open Go Go.RowKit

/-- Owners, all under 0. -/
def pre (ow : Ow) : Ow := fun b o => 0 :: ow b o
section
variable {w w' : World} {ow ow' : Ow} {p s : List Nat} {g o T sz n : Nat} {v : Value} {vs cs : List Value}
theorem Cells.pre (h : Cells w ow p g o vs) : Cells w (pre ow) (0 :: p) g o vs := by
  obtain ⟨c, e, hg, hc⟩ := h
  exact ⟨c, e, hg, fun j u hj => ⟨(hc j u hj).1, congrArg (0 :: ·) (hc j u hj).2⟩⟩
theorem Row.pre (h : Row w ow p T sz v n cs) : Row w (pre ow) (0 :: p) T sz v n cs := by
  refine ⟨h.1, ?_⟩
  rcases h.2 with h | ⟨g, off, cap, c, hv, hg, ho, r⟩
  · exact .inl h
  · exact .inr ⟨g, off, cap, c, hv, hg, fun o => congrArg (0 :: ·) (ho o), r⟩
/-- All that is new is q's. -/
def Ow.all (ow : Ow) (B : Nat) (q : List Nat) : Ow := fun b o => if b < B then ow b o else q
theorem Turn.allP (h : Turn [1] w (Go.Proofs.Ytefagdbdimpcdaa.pre ow) w' ow') (q : List Nat) : New w ow w' (ow.all w.heap.size q) :=
  ⟨⟨h.os, h.tape, h.output, h.size, fun k hk => (h.blk k hk).all fun _ => by simp [Go.Proofs.Ytefagdbdimpcdaa.pre]⟩, fun b o hb => by simp [Ow.all, hb]⟩
theorem Row.allP (h : Row w' ow' (1 :: s) T sz v n cs) (ht : Turn [1] w (Go.Proofs.Ytefagdbdimpcdaa.pre ow) w' ow') (q : List Nat) : Row w' (ow.all w.heap.size q) q T sz v n cs := by
  refine ⟨h.1, ?_⟩
  rcases h.2 with h | ⟨g, off, cap, c, hv, hg, ho, r⟩
  · exact .inl h
  · refine .inr ⟨g, off, cap, c, hv, hg, fun o => ?_, r⟩
    have hge : ¬ g < w.heap.size := fun hlt => by have := (ht.own g o hlt).symm.trans (ho o); simp [Go.Proofs.Ytefagdbdimpcdaa.pre] at this
    simp [Ow.all, hge]
theorem Row.freshP (h : Row w' ow' (1 :: s) T sz v n cs) (ht : Turn [1] w (Go.Proofs.Ytefagdbdimpcdaa.pre ow) w' ow') : Fresh w.heap.size v := by
  intro k hk
  rcases h.2 with ⟨rfl, _⟩ | ⟨g, off, cap, c, rfl, hg, ho, r⟩
  · simp [Value.ownBlock] at hk
  · simp [Value.ownBlock] at hk
    subst hk
    rcases Nat.lt_or_ge g w.heap.size with hlt | hge
    · have := (ht.own g 0 hlt).symm.trans (ho 0)
      simp [Go.Proofs.Ytefagdbdimpcdaa.pre] at this
    · exact hge
end

end Go.Proofs.Ytefagdbdimpcdaa
