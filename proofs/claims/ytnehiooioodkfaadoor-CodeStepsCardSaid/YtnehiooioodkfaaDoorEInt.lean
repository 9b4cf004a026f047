/-
  EInt: elements of type int: their cells.
-/
import Derived.Test.YtnehiooioodkfaaDoorProg
import Derived.Test.YtnehiooioodkfaaDoorOps
set_option linter.unusedVariables false
set_option linter.unusedSimpArgs false
namespace Go.Proofs.YtnehiooioodkfaaDoor
open Go Go.RowKit

namespace EInt
def cs (x : Int) : List Value := [.int .i64 x]
def css (xs : List Int) : List Value := xs.flatMap cs
theorem cs_length (x : Int) : (cs x).length = 1 := rfl
theorem css_length (xs : List Int) : (css xs).length = xs.length * 1 := by
  induction xs with
  | nil => rfl
  | cons x r ih => simp only [css, List.flatMap_cons, List.length_append, List.length_cons, cs_length] at *; omega
theorem cs_one (x : Int) : ∀ u ∈ cs x, u.oneCell' = true := by
  intro u hu
  simp only [cs, List.mem_cons, List.not_mem_nil, or_false] at hu
  subst hu; rfl
theorem css_one (xs : List Int) : ∀ u ∈ css xs, u.oneCell' = true := by
  intro u hu
  obtain ⟨x, _, h⟩ := List.mem_flatMap.1 hu
  exact cs_one x u h
theorem css_nil : css [] = [] := rfl
theorem css_append (xs ys : List Int) : css (xs ++ ys) = css xs ++ css ys := by simp [css]
theorem css_snoc (xs : List Int) (x : Int) : css (xs ++ [x]) = css xs ++ cs x := by simp [css]
theorem css_drop (xs : List Int) (k : Nat) : css (xs.drop k) = (css xs).drop (k * 1) := by
  induction xs generalizing k with
  | nil => simp [css]
  | cons x r ih =>
    cases k with
    | zero => simp
    | succ k =>
      simp only [css, List.flatMap_cons, List.drop_succ_cons] at ih ⊢
      rw [ih, List.drop_append, cs_length, show (k + 1) * 1 - 1 = k * 1 by omega, show (cs x).drop ((k + 1) * 1) = [] from List.drop_eq_nil_of_le (by rw [cs_length]; omega), List.nil_append]
theorem css_take (xs : List Int) (k : Nat) : css (xs.take k) = (css xs).take (k * 1) := by
  induction xs generalizing k with
  | nil => simp [css]
  | cons x r ih =>
    cases k with
    | zero => simp [css]
    | succ k =>
      simp only [css, List.flatMap_cons, List.take_succ_cons] at ih ⊢
      rw [ih, List.take_append, cs_length, show (k + 1) * 1 - 1 = k * 1 by omega, List.take_of_length_le (l := cs x) (by rw [cs_length]; omega)]
theorem css_at (xs : List Int) (k : Nat) (x : Int) (h : xs[k]? = some x) (j : Nat) (u : Value) (hu : (cs x)[j]? = some u) (hj : j < 1) : (css xs)[k * 1 + j]? = some u := by
  induction xs generalizing k with
  | nil => simp at h
  | cons y r ih =>
    cases k with
    | zero =>
      have : y = x := by simpa using h
      subst this
      simp only [css, List.flatMap_cons, Nat.zero_mul, Nat.zero_add]
      rw [List.getElem?_append_left (by rw [cs_length]; omega)]
      exact hu
    | succ k =>
      simp only [css, List.flatMap_cons] at ih ⊢
      rw [List.getElem?_append_right (by rw [cs_length]; omega)]
      have := ih k (by simpa using h)
      rwa [show (k + 1) * 1 + j - (cs y).length = k * 1 + j by rw [cs_length]; omega]
theorem css_set (xs : List Int) (k : Nat) (x : Int) (h : k < xs.length) : css (xs.set k x) = (css xs).take (k * 1) ++ cs x ++ (css xs).drop ((k + 1) * 1) := by
  rw [List.set_eq_take_append_cons_drop, if_pos h, css_append, ← css_take, ← css_drop]
  simp [css]
/-- The cells of element k, set one by one. -/
theorem css_cells (xs : List Int) (k : Nat) (x : Int) : ((css xs).set (k * 1) (.int .i64 x)) = css (xs.set k x) := by
  induction xs generalizing k with
  | nil => simp [css]
  | cons y r ih =>
    cases k with
    | zero => simp [css, cs]
    | succ k =>
      have := ih k
      simp only [css, List.flatMap_cons, List.set_cons_succ] at this ⊢
      rw [← this]
      rw [show (k + 1) * 1 = (cs y).length + k * 1 from by rw [cs_length]; omega, set_behind]
theorem info : (Tryd.prog.info? 3).map (fun i => (i.zero, i.size, i.bytes)) = some (some (.int .i64 0), 1, 8) := by kernel_rfl
end EInt
end Go.Proofs.YtnehiooioodkfaaDoor
