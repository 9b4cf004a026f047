/-
  BOX: blocks of cells that a call lays for itself; a call's world gets a name.
-/
import Derived.Test.YtnehiooioodkfaaDoorIter
set_option linter.unusedVariables false
set_option linter.unusedSimpArgs false
namespace Go.Proofs.YtnehiooioodkfaaDoor
open Go Go.RowKit
namespace SH

theorem add_cells (w : World) (ow : Ow) (q : List Nat) (cs : List Value) (e : TypeId) : ∃ ow', Cells (w.alloc (.cells cs.toArray e)) ow' q w.heap.size 0 cs ∧ New w ow (w.alloc (.cells cs.toArray e)) ow' ∧ (w.alloc (.cells cs.toArray e)).heap.size = w.heap.size + 1 :=
  ⟨_, Cells.new w ow q cs e, (New.refl _ _).alloc _ _, by simp [World.alloc_eq]⟩
/-- A call's world gets a name. -/
theorem gen_calls {P : Program} {f : FuncId} {xs : Array Value} {Q : Ending → World → Prop} {W : World} (Φ : World → Prop) (hΦ : Φ W) (h : ∀ w', Φ w' → Calls P f xs w' Q) : Calls P f xs W Q := h W hΦ
/-- A new block of two cells, and both are stored into. -/
theorem box2 (w : World) (ow : Ow) (q : List Nat) (z1 z2 u1 u2 : Value) (e : TypeId) : ∃ ow', Cells (((w.alloc (.cells #[z1, z2] e)).setCell ⟨w.heap.size, 0, none⟩ u1).setCell ⟨w.heap.size, 1, none⟩ u2) ow' q w.heap.size 0 [u1, u2] ∧ New w ow (((w.alloc (.cells #[z1, z2] e)).setCell ⟨w.heap.size, 0, none⟩ u1).setCell ⟨w.heap.size, 1, none⟩ u2) ow' := by
  obtain ⟨ow', hc, hn, -⟩ := add_cells w ow q [z1, z2] e
  refine ⟨ow', ?_, ?_⟩
  · have h := (hc.set 0 u1 (by simp)).set 1 u2 (by simp)
    simpa using h
  · exact ⟨bdS (p := ⟨w.heap.size, 1, none⟩) (Nat.le_refl _) (bdS (p := ⟨w.heap.size, 0, none⟩) (Nat.le_refl _) hn.below u1) u2, hn.own⟩

end SH
end Go.Proofs.YtnehiooioodkfaaDoor
