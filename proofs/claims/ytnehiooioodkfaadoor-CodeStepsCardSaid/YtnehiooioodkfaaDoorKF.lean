/-
  CODE: the steps of a program, in plain words.
-/
import Derived.Test.YtnehiooioodkfaaDoorKP
set_option linter.unusedVariables false
set_option linter.unusedSimpArgs false
namespace Go.Proofs.YtnehiooioodkfaaDoor
open Go Go.RowKit
namespace CD
/-- Steps taken one by one, k steps behind them: which are told, were there too many, may more follow. -/
def runG : List Op4 → Nat → List Op4 × Bool × Bool
  | [], _ => ([], false, true)
  | o :: r, k => if k = 4096 then ([], true, false) else if o.kind = 9 then ([o], false, false) else (o :: (runG r (k + 1)).1, (runG r (k + 1)).2)
/-- .. behind steps that were told. -/
def comb (d : List Op4) (x : List Op4 × Bool × Bool) : List Op4 × Bool × Bool := (d ++ x.1, x.2)
theorem comb_nil (x : List Op4 × Bool × Bool) : comb [] x = x := rfl
theorem comb_comb (a b : List Op4) (x : List Op4 × Bool × Bool) : comb a (comb b x) = comb (a ++ b) x := by simp [comb]
theorem runG_over (o : Op4) (r : List Op4) : runG (o :: r) 4096 = ([], true, false) := by rw [runG, if_pos rfl]
theorem runG_fin (o : Op4) (r : List Op4) (k : Nat) (hk : k ≠ 4096) (h : o.kind = 9) : runG (o :: r) k = ([o], false, false) := by rw [runG, if_neg hk, if_pos h]
theorem runG_one (o : Op4) (r : List Op4) (k : Nat) (hk : k ≠ 4096) (h : o.kind ≠ 9) : runG (o :: r) k = comb [o] (runG r (k + 1)) := by rw [runG, if_neg hk, if_neg h]; rfl
theorem runG_append : ∀ (a b : List Op4) (k : Nat), runG (a ++ b) k = if (runG a k).2.2 = true then comb (runG a k).1 (runG b (k + (runG a k).1.length)) else runG a k
  | [], b, k => by simp [runG, comb]
  | o :: r, b, k => by
    by_cases hk : k = 4096
    · subst hk
      rw [List.cons_append, runG_over, runG_over]
      simp
    · by_cases h9 : o.kind = 9
      · rw [List.cons_append, runG_fin _ _ _ hk h9, runG_fin _ _ _ hk h9]
        simp
      · rw [List.cons_append, runG_one _ _ _ hk h9, runG_one _ _ _ hk h9, runG_append r b (k + 1)]
        by_cases hm : (runG r (k + 1)).2.2 = true
        · rw [if_pos hm]
          have : (comb [o] (runG r (k + 1))).2.2 = true := hm
          rw [if_pos this, comb_comb]
          have e : (comb [o] (runG r (k + 1))).1 = [o] ++ (runG r (k + 1)).1 := rfl
          rw [e, List.length_append, show k + ([o].length + (runG r (k + 1)).1.length) = k + 1 + (runG r (k + 1)).1.length by simp; omega]
        · rw [if_neg hm]
          have : ¬ (comb [o] (runG r (k + 1))).2.2 = true := hm
          rw [if_neg this]
theorem runG_more : ∀ (a : List Op4) (k : Nat), (runG a k).2.2 = true → (runG a k).1 = a ∧ (runG a k).2.1 = false
  | [], _, _ => ⟨rfl, rfl⟩
  | o :: r, k, h => by
    by_cases hk : k = 4096
    · subst hk; rw [runG_over] at h; cases h
    · by_cases h9 : o.kind = 9
      · rw [runG_fin _ _ _ hk h9] at h; cases h
      · rw [runG_one _ _ _ hk h9] at h ⊢
        have := runG_more r (k + 1) h
        exact ⟨by simp [comb, this.1], this.2⟩
theorem runG_len : ∀ (a : List Op4) (k : Nat), k ≤ 4096 → k + (runG a k).1.length ≤ 4096
  | [], k, h => by simpa [runG] using h
  | o :: r, k, h => by
    by_cases hk : k = 4096
    · subst hk; rw [runG_over]; simp
    · by_cases h9 : o.kind = 9
      · rw [runG_fin _ _ _ hk h9]; simp; omega
      · rw [runG_one _ _ _ hk h9]
        have := runG_len r (k + 1) (by omega)
        simp only [comb, List.length_append, List.length_singleton]
        omega
/-- Where each repeat ends: gone through with the open ones, the innermost first. -/
def endsG : List Op4 → Nat → List Nat → List Int → List Int
  | [], _, _, E => E
  | o :: r, i, st, E => if o.kind = 10 then endsG r (i + 1) (i :: st) E else if o.kind = 11 then (match st with
      | t :: st' => endsG r (i + 1) st' (E.set t i)
      | [] => endsG r (i + 1) [] E)
    else endsG r (i + 1) st E
def endsB (xs : List Op4) : List Int := endsG xs 0 [] (List.replicate xs.length 0)
def work1 : Op4 := ⟨5, 0, 1, 0⟩
/-- The steps of a part, whatever a finish says. -/
def segE (xs : List Op4) (E : List Int) : Nat → Nat → Nat → List Op4
  | 0, _, _ => []
  | f + 1, i, j => if j ≤ i then [] else match xs[i]? with
    | none => []
    | some o =>
      if o.kind = 10 then (List.replicate o.n.toNat (segE xs E f (i + 1) ((E[i]?.getD 0).toNat))).flatten ++ segE xs E f ((E[i]?.getD 0).toNat + 1) j
      else if o.kind = 5 then List.replicate o.n.toNat work1 ++ segE xs E f (i + 1) j
      else o :: segE xs E f (i + 1) j
/-- A part is well nested. -/
def NS (xs : List Op4) (E : List Int) : Nat → Nat → Nat → Bool
  | 0, _, _ => false
  | f + 1, i, j => if i = j then true else if j < i then false else match xs[i]? with
    | none => false
    | some o => if o.kind = 10 then decide (0 ≤ o.n) && decide ((i : Int) < E[i]?.getD 0) && decide (E[i]?.getD 0 < (j : Int)) && decide (xs[(E[i]?.getD 0).toNat]?.map Op4.kind = some 11) && NS xs E f (i + 1) ((E[i]?.getD 0).toNat) && NS xs E f ((E[i]?.getD 0).toNat + 1) j
      else decide (o.kind ≠ 11) && decide (o.kind = 5 → 0 ≤ o.n) && NS xs E f (i + 1) j
theorem NS_le (xs : List Op4) (E : List Int) : ∀ (f i j : Nat), NS xs E f i j = true → i ≤ j
  | 0, i, j, h => by cases h
  | f + 1, i, j, h => by
    unfold NS at h
    by_cases e : i = j
    · omega
    · rw [if_neg e] at h
      by_cases l : j < i
      · rw [if_pos l] at h; cases h
      · omega
theorem NS_in {xs : List Op4} {E : List Int} {f i j : Nat} (h : NS xs E f i j = true) (hij : i < j) : ∃ f' o, f = f' + 1 ∧ xs[i]? = some o ∧
    ((o.kind = 10 ∧ 0 ≤ o.n ∧ ∃ e : Nat, E[i]?.getD 0 = (e : Int) ∧ i < e ∧ e < j ∧ NS xs E f' (i + 1) e = true ∧ NS xs E f' (e + 1) j = true ∧
        segE xs E (f' + 1) i j = (List.replicate o.n.toNat (segE xs E f' (i + 1) e)).flatten ++ segE xs E f' (e + 1) j) ∨
     (o.kind = 5 ∧ 0 ≤ o.n ∧ NS xs E f' (i + 1) j = true ∧ segE xs E (f' + 1) i j = List.replicate o.n.toNat work1 ++ segE xs E f' (i + 1) j) ∨
     (o.kind ≠ 10 ∧ o.kind ≠ 5 ∧ o.kind ≠ 11 ∧ NS xs E f' (i + 1) j = true ∧ segE xs E (f' + 1) i j = o :: segE xs E f' (i + 1) j)) := by
  cases f with
  | zero => cases h
  | succ f =>
    unfold NS at h
    rw [if_neg (by omega), if_neg (by omega)] at h
    cases hx : xs[i]? with
    | none => rw [hx] at h; cases h
    | some o =>
      rw [hx] at h
      simp only at h
      refine ⟨f, o, rfl, rfl, ?_⟩
      by_cases h10 : o.kind = 10
      · rw [if_pos h10] at h
        simp only [Bool.and_eq_true, decide_eq_true_eq] at h
        obtain ⟨⟨⟨⟨⟨h1, h2⟩, h3⟩, -⟩, h4⟩, h5⟩ := h
        refine .inl ⟨h10, h1, (E[i]?.getD 0).toNat, by omega, by omega, by omega, h4, h5, ?_⟩
        rw [segE, if_neg (by omega), hx]
        simp only
        rw [if_pos h10]
      · rw [if_neg h10] at h
        simp only [Bool.and_eq_true, decide_eq_true_eq] at h
        obtain ⟨⟨h1, h2⟩, h3⟩ := h
        by_cases h5 : o.kind = 5
        · refine .inr (.inl ⟨h5, h2 h5, h3, ?_⟩)
          rw [segE, if_neg (by omega), hx]
          simp only
          rw [if_neg h10, if_pos h5]
        · refine .inr (.inr ⟨h10, h5, h1, h3, ?_⟩)
          rw [segE, if_neg (by omega), hx]
          simp only
          rw [if_neg h10, if_neg h5]
theorem NS_end {xs : List Op4} {E : List Int} {f i j : Nat} {o : Op4} (h : NS xs E f i j = true) (hij : i < j) (hx : xs[i]? = some o) (h10 : o.kind = 10) : xs[(E[i]?.getD 0).toNat]?.map Op4.kind = some 11 := by
  cases f with
  | zero => cases h
  | succ f =>
    unfold NS at h
    rw [if_neg (by omega), if_neg (by omega), hx] at h
    simp only at h
    rw [if_pos h10] at h
    simp only [Bool.and_eq_true, decide_eq_true_eq] at h
    exact h.1.1.2
theorem segE_nil (xs : List Op4) (E : List Int) (f i : Nat) : segE xs E f i i = [] := by
  cases f with
  | zero => rfl
  | succ f => rw [segE, if_pos (Nat.le_refl _)]
def addT (told : Option (List Op4)) (d : List Op4) : Option (List Op4) := told.map (· ++ d)
theorem addT_nil (told : Option (List Op4)) : addT told [] = told := by cases told <;> simp [addT]
theorem addT_add (told : Option (List Op4)) (a b : List Op4) : addT (addT told a) b = addT told (a ++ b) := by cases told <;> simp [addT]
/-- A program's steps: all that are told, and the finish behind them. -/
def allE (xs : List Op4) : List Op4 × Bool × Bool := runG (segE xs (endsB xs) (xs.length + 1) 0 xs.length) 0
/-- .. how many, at most 4096; and which. -/
def stepsE (xs : List Op4) : List Op4 × Int :=
  if (checkB xs).2 = 0 then
    (if (allE xs).2.2 = true then (if (allE xs).1.length = 4096 then ([], 5) else ((allE xs).1 ++ [⟨9, 0, 0, 0⟩], 0))
     else if (allE xs).2.1 = true then ([], 5) else ((allE xs).1, 0))
  else ([], (checkB xs).2)
end CD
end Go.Proofs.YtnehiooioodkfaaDoor
