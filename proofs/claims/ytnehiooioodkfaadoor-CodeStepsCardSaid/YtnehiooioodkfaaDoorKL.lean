/-
  CODE: what the rows list as laid gives what strconv reads; the door's own heap meets it.
-/
import Derived.Test.YtnehiooioodkfaaDoorKV
import Derived.Test.YtnehiooioodkfaaDoorRows
import Derived.ProofKit
import Derived.LaidMore
import Derived.OpenShut
import Derived.Stop.Joined
import Derived.LaidLaws
set_option linter.unusedVariables false
set_option linter.unusedSimpArgs false
namespace Go.Proofs.YtnehiooioodkfaaDoor
open Go.ChangeShapes Go.WideShapes Go.ChangeAt Go.RowKit
namespace CD
/-- What every row of this seat lists. -/
def laidL : List (String × DataW Unit) := [("math/bits.deBruijn32tab", Rows.laid_math_bits_deBruijn32tab), ("math/bits.deBruijn64tab", Rows.laid_math_bits_deBruijn64tab), ("internal/strconv.uint64pow10", Rows.laid_internal_strconv_uint64pow10), ("strconv.ErrRange", Rows.laid_strconv_ErrRange), ("strconv.ErrSyntax", Rows.laid_strconv_ErrSyntax)]
theorem g32 : Tryd.prog.globalNamed "math/bits.deBruijn32tab" = some 3 := by kernel_rfl
theorem g64 : Tryd.prog.globalNamed "math/bits.deBruijn64tab" = some 4 := by kernel_rfl
theorem tPow : (Tryd.prog.globals[0]?).map (·.type) = some 128 := by kernel_rfl
theorem tSyn : (Tryd.prog.globals[1]?).map (·.type) = some 79 := by kernel_rfl
theorem tRan : (Tryd.prog.globals[2]?).map (·.type) = some 79 := by kernel_rfl
theorem var_lt {w : World} {n : String} {g : Nat} {cs : Array Value} (hg : Tryd.prog.globalNamed n = some g) (h : w.var? Tryd.prog n = some cs) : g < w.heap.size := by
  unfold World.var? at h
  rw [hg] at h
  simp only [Option.bind_some] at h
  cases hq : w.heap[g]? with
  | none => rw [hq] at h; simp at h
  | some o => exact (Array.getElem?_eq_some_iff.1 hq).1
theorem one_of_list {cs : Array Value} {v : Value} (h : cs.toList = [v]) : cs = #[v] := by
  cases cs with
  | mk l => simp only at h; subst h; rfl
/-- The door's own heap meets the condition. -/
theorem door_met (os : Os) (args : Array Value) : laidMetH Tryd.prog laidL ((World.doorLaid Tryd.prog 400 os).forCall (fun _ _ => 0) ⟨#[], args, []⟩).memory :=
  laidMetH_of_parts3 (fuel := 8) (laidMet_of_run' 8 (by kernel_rfl) (by kernel_rfl)) (by kernel_rfl) (by kernel_rfl)
theorem of_laid {W : World} (h : laidMetH Tryd.prog laidL W) : VL W := by
  rw [MakeChecks.laidMetH_plain _ _ _ (by kernel_rfl)] at h
  obtain ⟨ps, ⟨a0, t0, cs0, f0, p0, q0, hg0, ht0, hv0, hd0, ⟨a1, t1, cs1, f1, p1, q1, hg1, ht1, hv1, hd1, ⟨a2, t2, cs2, f2, p2, q2, hg2, ht2, hv2, hd2, ⟨a3, t3, cs3, f3, p3, q3, hg3, ht3, hv3, hd3, ⟨a4, t4, cs4, f4, p4, q4, hg4, ht4, hv4, hd4, -, -⟩, -⟩, -⟩, -⟩, -⟩, -, -⟩ := h
  have h5 := var_lt g64 hv1
  obtain rfl := Option.some.inj (gPow.symm.trans hg2)
  obtain rfl := Option.some.inj (gRan.symm.trans hg3)
  obtain rfl := Option.some.inj (gSyn.symm.trans hg4)
  obtain rfl := Option.some.inj (tPow.symm.trans ht2)
  obtain rfl := Option.some.inj (tRan.symm.trans ht3)
  obtain rfl := Option.some.inj (tSyn.symm.trans ht4)
  refine ⟨h5, ?_, ?_, ?_⟩
  · unfold Lib.TabIs
    have hz : (Rows.laid_internal_strconv_uint64pow10 : DataW Unit) = Lib.tabData .u64 Lib.pow10Tab := by kernel_rfl
    rw [hz] at hd2
    rw [hv2, ← Lib.cells_of_tab (n := 20) (e := 115) Tryd.underlying128 Tryd.underlying115 (by kernel_rfl) (by kernel_rfl) hd2]
  · obtain ⟨f', u, v, hc, -, -⟩ := iface_of_trod (name := "*errors.errorString") Tryd.underlying79 hd4
    exact ⟨u, v, by rw [hv4, one_of_list hc]⟩
  · obtain ⟨f', u, v, hc, -, -⟩ := iface_of_trod (name := "*errors.errorString") Tryd.underlying79 hd3
    exact ⟨u, v, by rw [hv3, one_of_list hc]⟩
end CD
end Go.Proofs.YtnehiooioodkfaaDoor
