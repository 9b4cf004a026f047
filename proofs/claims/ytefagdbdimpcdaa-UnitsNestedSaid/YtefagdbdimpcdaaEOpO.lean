/-
  ARGUMENTS: one keellaw5.Op.
-/
import Derived.Test.YtefagdbdimpcdaaEOp5P
set_option linter.unusedVariables false
set_option linter.unusedSimpArgs false
namespace Go.Proofs.Ytefagdbdimpcdaa
open Go Go.RowKit
namespace EOp

set_option maxRecDepth 100000 in
open Go.ChangeShapes Go.WideShapes in
theorem one_of_trod {H : Type} {enc : TypeId × Value → H} {w : World} {v : Value} {d : DataW H} {ps : List MemPlace} {r : Reach} {b0 : Nat} (hval : Value.okWide Try.prog w r b0 43 v)
    (h : DataW.Trod enc Try.prog w 0 (fun _ => true) true 43 v d ps) : ∃ o : Op5, v = .agg #[.int .i64 o.kind, .int .i64 o.job, .int .i64 o.res, .int .i64 o.n, .int .i64 o.need, .int .i64 o.v] ∧ Rng o := by
  have cO : Try.prog.cellsOf 43 = 6 := by kernel_rfl
  have cI : Try.prog.cellsOf 3 = 1 := by kernel_rfl
  obtain ⟨cs', rfl, hsz⟩ := okWide_struct Try.underlying43 hval
  obtain ⟨fuel, hf⟩ := h
  rw [cO] at hsz
  obtain ⟨cs⟩ := cs'
  change DataW.trod _ _ _ _ _ _ _ _ cs = _ at hf
  obtain ⟨xs, k, -, -, -, hxl, hfld⟩ := DataW.trod_struct Try.underlying43 hf
  match xs, hxl, cs, hsz with
  | [y0, y1, y2, y3, y4, y5], _, [v0, v1, v2, v3, v4, v5], _ =>
    have g0 := hfld 0 _ rfl
    have g1 := hfld 1 _ rfl
    have g2 := hfld 2 _ rfl
    have g3 := hfld 3 _ rfl
    have g4 := hfld 4 _ rfl
    have g5 := hfld 5 _ rfl
    simp [cI] at g0 g1 g2 g3 g4 g5
    obtain ⟨n0, e0, -, z0⟩ := DataW.trod_int Try.underlying3 g0
    obtain ⟨n1, e1, -, z1⟩ := DataW.trod_int Try.underlying3 g1
    obtain ⟨n2, e2, -, z2⟩ := DataW.trod_int Try.underlying3 g2
    obtain ⟨n3, e3, -, z3⟩ := DataW.trod_int Try.underlying3 g3
    obtain ⟨n4, e4, -, z4⟩ := DataW.trod_int Try.underlying3 g4
    obtain ⟨n5, e5, -, z5⟩ := DataW.trod_int Try.underlying3 g5
    simp only [List.cons.injEq, and_true] at e0 e1 e2 e3 e4 e5
    subst e0 e1 e2 e3 e4 e5
    exact ⟨⟨n0, n1, n2, n3, n4, n5⟩, rfl, wf_i64 z0, wf_i64 z1, wf_i64 z2, wf_i64 z3, wf_i64 z4, wf_i64 z5⟩
end EOp
end Go.Proofs.Ytefagdbdimpcdaa
