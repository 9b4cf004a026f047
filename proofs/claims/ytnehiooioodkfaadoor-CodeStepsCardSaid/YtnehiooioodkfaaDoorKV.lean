/-
  CODE: the library's variables as they are laid: what strconv reads.
-/
import Derived.Test.YtnehiooioodkfaaDoorShelf
import Derived.Test.YtnehiooioodkfaaDoorKN
import Derived.Test.YtnehiooioodkfaaDoorBox
set_option linter.unusedVariables false
set_option linter.unusedSimpArgs false
namespace Go.Proofs.YtnehiooioodkfaaDoor
open Go Go.RowKit
namespace CD
/-- What strconv reads lies where it was laid: three blocks, which nobody turns. -/
def VL (w : World) : Prop := 5 ≤ w.heap.size ∧ Lib.TabIs Tryd.prog w "internal/strconv.uint64pow10" .u64 Lib.pow10Tab ∧
  (∃ tp pv, w.var? Tryd.prog "strconv.ErrSyntax" = some #[.iface tp pv]) ∧ (∃ tp pv, w.var? Tryd.prog "strconv.ErrRange" = some #[.iface tp pv])
theorem gPow : Tryd.prog.globalNamed "internal/strconv.uint64pow10" = some 0 := by kernel_rfl
theorem gSyn : Tryd.prog.globalNamed "strconv.ErrSyntax" = some 1 := by kernel_rfl
theorem gRan : Tryd.prog.globalNamed "strconv.ErrRange" = some 2 := by kernel_rfl
theorem var_of {w w' : World} {name : String} {i : Nat} (hg : Tryd.prog.globalNamed name = some i) (h : w'.heap[i]? = w.heap[i]?) : w'.var? Tryd.prog name = w.var? Tryd.prog name := by
  unfold World.var?
  rw [hg]
  simp only [Option.bind_some]
  rw [h]
theorem VL.of_heap {w w' : World} (h : VL w) (hs : w.heap.size ≤ w'.heap.size) (hb : ∀ i, i < 5 → w'.heap[i]? = w.heap[i]?) : VL w' := by
  obtain ⟨h1, h2, ⟨t1, v1, h3⟩, ⟨t2, v2, h4⟩⟩ := h
  refine ⟨by omega, ?_, ⟨t1, v1, ?_⟩, ⟨t2, v2, ?_⟩⟩
  · unfold Lib.TabIs at h2 ⊢
    rw [var_of gPow (hb 0 (by omega))]; exact h2
  · rw [var_of gSyn (hb 1 (by omega))]; exact h3
  · rw [var_of gRan (hb 2 (by omega))]; exact h4
theorem VL.below {w w' : World} {B : Nat} (h : VL w) (hB : 5 ≤ B) (b : Below B w w') : VL w' := h.of_heap b.size fun i hi => b.block i (by omega)
theorem VL.nb {w w' : World} (h : VL w) (b : Below w.heap.size w w') : VL w' := h.below h.1 b
/-- .. and a turn of another owner leaves them. -/
def VO (w : World) (ow : Ow) : Prop := VL w ∧ ∀ b o, b < 5 → ow b o = [0]
theorem VO.turn {w w1 : World} {ow ow1 : Ow} {p : List Nat} (h : VO w ow) (t : Turn p w ow w1 ow1) (hp : ¬ p <+: [0]) : VO w1 ow1 := by
  refine ⟨h.1.of_heap t.size fun i hi => ?_, fun b o hb => ?_⟩
  · have h5 := h.1.1
    exact (t.blk i (by omega)).all fun o => by rw [h.2 i o hi]; exact hp
  · have h5 := h.1.1
    rw [t.own b o (by omega)]; exact h.2 b o hb
theorem VO.start {w : World} (h : VL w) : VO w ow0 := ⟨h, fun _ _ _ => rfl⟩
end CD
end Go.Proofs.YtnehiooioodkfaaDoor
