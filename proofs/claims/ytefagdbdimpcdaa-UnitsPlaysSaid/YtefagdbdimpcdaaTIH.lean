/-
  TIH: elements of type shelf.row[int,*keel/units.holder]: their cells.
-/
import Derived.Test.YtefagdbdimpcdaaProg
import Derived.Test.YtefagdbdimpcdaaOps
set_option linter.unusedVariables false
set_option linter.unusedSimpArgs false
namespace Go.Proofs.Ytefagdbdimpcdaa
open Go Go.RowKit

namespace TIH
def cs (x : (Int × Nat)) : List Value := [.int .i64 x.1, .pointer (some ⟨x.2, 0, none⟩)]
def css (xs : List (Int × Nat)) : List Value := xs.flatMap cs
theorem cs_length (x : (Int × Nat)) : (cs x).length = 2 := rfl
theorem css_length (xs : List (Int × Nat)) : (css xs).length = xs.length * 2 := by
  induction xs with
  | nil => rfl
  | cons x r ih => simp only [css, List.flatMap_cons, List.length_append, List.length_cons, cs_length] at *; omega
theorem cs_one (x : (Int × Nat)) : ∀ u ∈ cs x, u.oneCell' = true := by
  intro u hu
  simp only [cs, List.mem_cons, List.not_mem_nil, or_false] at hu
  rcases hu with h | h <;> subst h <;> rfl
theorem css_one (xs : List (Int × Nat)) : ∀ u ∈ css xs, u.oneCell' = true := by
  intro u hu
  obtain ⟨x, _, h⟩ := List.mem_flatMap.1 hu
  exact cs_one x u h
theorem css_nil : css [] = [] := rfl
theorem css_append (xs ys : List (Int × Nat)) : css (xs ++ ys) = css xs ++ css ys := by simp [css]
theorem css_snoc (xs : List (Int × Nat)) (x : (Int × Nat)) : css (xs ++ [x]) = css xs ++ cs x := by simp [css]
theorem css_drop (xs : List (Int × Nat)) (k : Nat) : css (xs.drop k) = (css xs).drop (k * 2) := by
  induction xs generalizing k with
  | nil => simp [css]
  | cons x r ih =>
    cases k with
    | zero => simp
    | succ k =>
      simp only [css, List.flatMap_cons, List.drop_succ_cons] at ih ⊢
      rw [ih, List.drop_append, cs_length, show (k + 1) * 2 - 2 = k * 2 by omega, show (cs x).drop ((k + 1) * 2) = [] from List.drop_eq_nil_of_le (by rw [cs_length]; omega), List.nil_append]
theorem css_take (xs : List (Int × Nat)) (k : Nat) : css (xs.take k) = (css xs).take (k * 2) := by
  induction xs generalizing k with
  | nil => simp [css]
  | cons x r ih =>
    cases k with
    | zero => simp [css]
    | succ k =>
      simp only [css, List.flatMap_cons, List.take_succ_cons] at ih ⊢
      rw [ih, List.take_append, cs_length, show (k + 1) * 2 - 2 = k * 2 by omega, List.take_of_length_le (l := cs x) (by rw [cs_length]; omega)]
theorem css_at (xs : List (Int × Nat)) (k : Nat) (x : (Int × Nat)) (h : xs[k]? = some x) (j : Nat) (u : Value) (hu : (cs x)[j]? = some u) (hj : j < 2) : (css xs)[k * 2 + j]? = some u := by
  induction xs generalizing k with
  | nil => simp at h
  | cons y r ih =>
    cases k with
    | zero =>
      have : y = x := by simpa using h
      subst this
      simp only [css, List.flatMap_cons, Nat.zero_mul, Nat.zero_add]
      rw [List.getElem?_append_left (by rw [cs_length]; omega)]
      exact hu
    | succ k =>
      simp only [css, List.flatMap_cons] at ih ⊢
      rw [List.getElem?_append_right (by rw [cs_length]; omega)]
      have := ih k (by simpa using h)
      rwa [show (k + 1) * 2 + j - (cs y).length = k * 2 + j by rw [cs_length]; omega]
theorem css_set (xs : List (Int × Nat)) (k : Nat) (x : (Int × Nat)) (h : k < xs.length) : css (xs.set k x) = (css xs).take (k * 2) ++ cs x ++ (css xs).drop ((k + 1) * 2) := by
  rw [List.set_eq_take_append_cons_drop, if_pos h, css_append, ← css_take, ← css_drop]
  simp [css]
/-- The cells of element k, set one by one. -/
theorem css_cells (xs : List (Int × Nat)) (k : Nat) (x : (Int × Nat)) : (((css xs).set (k * 2) (.int .i64 x.1)).set (k * 2 + 1) (.pointer (some ⟨x.2, 0, none⟩))) = css (xs.set k x) := by
  induction xs generalizing k with
  | nil => simp [css]
  | cons y r ih =>
    cases k with
    | zero => simp [css, cs]
    | succ k =>
      have := ih k
      simp only [css, List.flatMap_cons, List.set_cons_succ] at this ⊢
      rw [← this]
      rw [show (k + 1) * 2 = (cs y).length + k * 2 from by rw [cs_length]; omega, set_behind, show (cs y).length + k * 2 + 1 = (cs y).length + (k * 2 + 1) from Nat.add_assoc _ _ _, set_behind]
theorem info : (Try.prog.info? 125).map (fun i => (i.zero, i.size, i.bytes)) = some (some (.agg #[.int .i64 0, .pointer none]), 2, 16) := by kernel_rfl
end TIH
end Go.Proofs.Ytefagdbdimpcdaa
