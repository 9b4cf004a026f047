/-
  EOq: elements of type api.Op: their cells.
-/
import Derived.Test.YtnehiooioodkfaaDoorProg
import Derived.Test.YtnehiooioodkfaaDoorOps
set_option linter.unusedVariables false
set_option linter.unusedSimpArgs false
namespace Go.Proofs.YtnehiooioodkfaaDoor
open Go Go.RowKit

/-- An operation of a program. -/
structure Op4 where
  kind : Int
  res : Int
  n : Int
  v : Int
theorem Op4.ext_iff_ (a b : Op4) : (a.kind = b.kind ∧ a.res = b.res ∧ a.n = b.n ∧ a.v = b.v) ↔ a = b := by
  cases a; cases b; simp
instance : DecidableEq Op4 := fun a b => decidable_of_iff _ (Op4.ext_iff_ a b)
namespace EOq
def cs (x : Op4) : List Value := [.int .i64 x.kind, .int .i64 x.res, .int .i64 x.n, .int .i64 x.v]
def css (xs : List Op4) : List Value := xs.flatMap cs
theorem cs_length (x : Op4) : (cs x).length = 4 := rfl
theorem css_length (xs : List Op4) : (css xs).length = xs.length * 4 := by
  induction xs with
  | nil => rfl
  | cons x r ih => simp only [css, List.flatMap_cons, List.length_append, List.length_cons, cs_length] at *; omega
theorem cs_one (x : Op4) : ∀ u ∈ cs x, u.oneCell' = true := by
  intro u hu
  simp only [cs, List.mem_cons, List.not_mem_nil, or_false] at hu
  rcases hu with h | h | h | h <;> subst h <;> rfl
theorem css_one (xs : List Op4) : ∀ u ∈ css xs, u.oneCell' = true := by
  intro u hu
  obtain ⟨x, _, h⟩ := List.mem_flatMap.1 hu
  exact cs_one x u h
theorem css_nil : css [] = [] := rfl
theorem css_append (xs ys : List Op4) : css (xs ++ ys) = css xs ++ css ys := by simp [css]
theorem css_snoc (xs : List Op4) (x : Op4) : css (xs ++ [x]) = css xs ++ cs x := by simp [css]
theorem css_drop (xs : List Op4) (k : Nat) : css (xs.drop k) = (css xs).drop (k * 4) := by
  induction xs generalizing k with
  | nil => simp [css]
  | cons x r ih =>
    cases k with
    | zero => simp
    | succ k =>
      simp only [css, List.flatMap_cons, List.drop_succ_cons] at ih ⊢
      rw [ih, List.drop_append, cs_length, show (k + 1) * 4 - 4 = k * 4 by omega, show (cs x).drop ((k + 1) * 4) = [] from List.drop_eq_nil_of_le (by rw [cs_length]; omega), List.nil_append]
theorem css_take (xs : List Op4) (k : Nat) : css (xs.take k) = (css xs).take (k * 4) := by
  induction xs generalizing k with
  | nil => simp [css]
  | cons x r ih =>
    cases k with
    | zero => simp [css]
    | succ k =>
      simp only [css, List.flatMap_cons, List.take_succ_cons] at ih ⊢
      rw [ih, List.take_append, cs_length, show (k + 1) * 4 - 4 = k * 4 by omega, List.take_of_length_le (l := cs x) (by rw [cs_length]; omega)]
theorem css_at (xs : List Op4) (k : Nat) (x : Op4) (h : xs[k]? = some x) (j : Nat) (u : Value) (hu : (cs x)[j]? = some u) (hj : j < 4) : (css xs)[k * 4 + j]? = some u := by
  induction xs generalizing k with
  | nil => simp at h
  | cons y r ih =>
    cases k with
    | zero =>
      have : y = x := by simpa using h
      subst this
      simp only [css, List.flatMap_cons, Nat.zero_mul, Nat.zero_add]
      rw [List.getElem?_append_left (by rw [cs_length]; omega)]
      exact hu
    | succ k =>
      simp only [css, List.flatMap_cons] at ih ⊢
      rw [List.getElem?_append_right (by rw [cs_length]; omega)]
      have := ih k (by simpa using h)
      rwa [show (k + 1) * 4 + j - (cs y).length = k * 4 + j by rw [cs_length]; omega]
theorem css_set (xs : List Op4) (k : Nat) (x : Op4) (h : k < xs.length) : css (xs.set k x) = (css xs).take (k * 4) ++ cs x ++ (css xs).drop ((k + 1) * 4) := by
  rw [List.set_eq_take_append_cons_drop, if_pos h, css_append, ← css_take, ← css_drop]
  simp [css]
/-- The cells of element k, set one by one. -/
theorem css_cells (xs : List Op4) (k : Nat) (x : Op4) : (((((css xs).set (k * 4) (.int .i64 x.kind)).set (k * 4 + 1) (.int .i64 x.res)).set (k * 4 + 2) (.int .i64 x.n)).set (k * 4 + 3) (.int .i64 x.v)) = css (xs.set k x) := by
  induction xs generalizing k with
  | nil => simp [css]
  | cons y r ih =>
    cases k with
    | zero => simp [css, cs]
    | succ k =>
      have := ih k
      simp only [css, List.flatMap_cons, List.set_cons_succ] at this ⊢
      rw [← this]
      rw [show (k + 1) * 4 = (cs y).length + k * 4 from by rw [cs_length]; omega, set_behind, show (cs y).length + k * 4 + 1 = (cs y).length + (k * 4 + 1) from Nat.add_assoc _ _ _, set_behind, show (cs y).length + k * 4 + 2 = (cs y).length + (k * 4 + 2) from Nat.add_assoc _ _ _, set_behind, show (cs y).length + k * 4 + 3 = (cs y).length + (k * 4 + 3) from Nat.add_assoc _ _ _, set_behind]
theorem info : (Tryd.prog.info? 32).map (fun i => (i.zero, i.size, i.bytes)) = some (some (.agg #[.int .i64 0, .int .i64 0, .int .i64 0, .int .i64 0]), 4, 32) := by kernel_rfl
end EOq
end Go.Proofs.YtnehiooioodkfaaDoor
