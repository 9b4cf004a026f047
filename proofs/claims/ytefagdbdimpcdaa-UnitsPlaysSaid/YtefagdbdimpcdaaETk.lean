/-
  ETk: elements of type keelref5.Taken: their cells.
-/
import Derived.Test.YtefagdbdimpcdaaProg
import Derived.Test.YtefagdbdimpcdaaOps
import Derived.Test.YtefagdbdimpcdaaUm
set_option linter.unusedVariables false
set_option linter.unusedSimpArgs false
namespace Go.Proofs.Ytefagdbdimpcdaa
open Go Go.RowKit

namespace ETk
def cs (x : Tk) : List Value := [.int .i64 x.job, .int .i64 x.res, .int .i64 x.n]
def css (xs : List Tk) : List Value := xs.flatMap cs
theorem cs_length (x : Tk) : (cs x).length = 3 := rfl
theorem css_length (xs : List Tk) : (css xs).length = xs.length * 3 := by
  induction xs with
  | nil => rfl
  | cons x r ih => simp only [css, List.flatMap_cons, List.length_append, List.length_cons, cs_length] at *; omega
theorem cs_one (x : Tk) : ∀ u ∈ cs x, u.oneCell' = true := by
  intro u hu
  simp only [cs, List.mem_cons, List.not_mem_nil, or_false] at hu
  rcases hu with h | h | h <;> subst h <;> rfl
theorem css_one (xs : List Tk) : ∀ u ∈ css xs, u.oneCell' = true := by
  intro u hu
  obtain ⟨x, _, h⟩ := List.mem_flatMap.1 hu
  exact cs_one x u h
theorem css_nil : css [] = [] := rfl
theorem css_append (xs ys : List Tk) : css (xs ++ ys) = css xs ++ css ys := by simp [css]
theorem css_snoc (xs : List Tk) (x : Tk) : css (xs ++ [x]) = css xs ++ cs x := by simp [css]
theorem css_drop (xs : List Tk) (k : Nat) : css (xs.drop k) = (css xs).drop (k * 3) := by
  induction xs generalizing k with
  | nil => simp [css]
  | cons x r ih =>
    cases k with
    | zero => simp
    | succ k =>
      simp only [css, List.flatMap_cons, List.drop_succ_cons] at ih ⊢
      rw [ih, List.drop_append, cs_length, show (k + 1) * 3 - 3 = k * 3 by omega, show (cs x).drop ((k + 1) * 3) = [] from List.drop_eq_nil_of_le (by rw [cs_length]; omega), List.nil_append]
theorem css_take (xs : List Tk) (k : Nat) : css (xs.take k) = (css xs).take (k * 3) := by
  induction xs generalizing k with
  | nil => simp [css]
  | cons x r ih =>
    cases k with
    | zero => simp [css]
    | succ k =>
      simp only [css, List.flatMap_cons, List.take_succ_cons] at ih ⊢
      rw [ih, List.take_append, cs_length, show (k + 1) * 3 - 3 = k * 3 by omega, List.take_of_length_le (l := cs x) (by rw [cs_length]; omega)]
theorem css_at (xs : List Tk) (k : Nat) (x : Tk) (h : xs[k]? = some x) (j : Nat) (u : Value) (hu : (cs x)[j]? = some u) (hj : j < 3) : (css xs)[k * 3 + j]? = some u := by
  induction xs generalizing k with
  | nil => simp at h
  | cons y r ih =>
    cases k with
    | zero =>
      have : y = x := by simpa using h
      subst this
      simp only [css, List.flatMap_cons, Nat.zero_mul, Nat.zero_add]
      rw [List.getElem?_append_left (by rw [cs_length]; omega)]
      exact hu
    | succ k =>
      simp only [css, List.flatMap_cons] at ih ⊢
      rw [List.getElem?_append_right (by rw [cs_length]; omega)]
      have := ih k (by simpa using h)
      rwa [show (k + 1) * 3 + j - (cs y).length = k * 3 + j by rw [cs_length]; omega]
theorem css_set (xs : List Tk) (k : Nat) (x : Tk) (h : k < xs.length) : css (xs.set k x) = (css xs).take (k * 3) ++ cs x ++ (css xs).drop ((k + 1) * 3) := by
  rw [List.set_eq_take_append_cons_drop, if_pos h, css_append, ← css_take, ← css_drop]
  simp [css]
/-- The cells of element k, set one by one. -/
theorem css_cells (xs : List Tk) (k : Nat) (x : Tk) : ((((css xs).set (k * 3) (.int .i64 x.job)).set (k * 3 + 1) (.int .i64 x.res)).set (k * 3 + 2) (.int .i64 x.n)) = css (xs.set k x) := by
  induction xs generalizing k with
  | nil => simp [css]
  | cons y r ih =>
    cases k with
    | zero => simp [css, cs]
    | succ k =>
      have := ih k
      simp only [css, List.flatMap_cons, List.set_cons_succ] at this ⊢
      rw [← this]
      rw [show (k + 1) * 3 = (cs y).length + k * 3 from by rw [cs_length]; omega, set_behind, show (cs y).length + k * 3 + 1 = (cs y).length + (k * 3 + 1) from Nat.add_assoc _ _ _, set_behind, show (cs y).length + k * 3 + 2 = (cs y).length + (k * 3 + 2) from Nat.add_assoc _ _ _, set_behind]
theorem info : (Try.prog.info? 132).map (fun i => (i.zero, i.size, i.bytes)) = some (some (.agg #[.int .i64 0, .int .i64 0, .int .i64 0]), 3, 24) := by kernel_rfl
end ETk
end Go.Proofs.Ytefagdbdimpcdaa
