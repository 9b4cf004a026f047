/-
  CODE: the document's Parse in plain words is Parse over the words.
-/
import Derived.Test.YtnehiooioodkfaaDoorPC
import Derived.Test.YtnehiooioodkfaaDoorPB
set_option linter.unusedVariables false
set_option linter.unusedSimpArgs false
namespace Go.Proofs.YtnehiooioodkfaaDoor
open Go Go.RowKit
namespace CR
open CD
def setC (c : Nat) (o : Op4) (n : Int) : Op4 := if c = 82 then { o with res := n } else if c = 86 then { o with v := n } else { o with n := n }
/-- What stands behind an operation's word, as its form says. -/
def refF (z : Nat) : List UInt8 → Op4 → List (Nat × List UInt8) → Except (Int × Int) (Op4 × List (Nat × List UInt8))
  | [], o, ts => .ok (o, ts)
  | c :: r, o, [] => .error ((z : Int), 31)
  | c :: r, o, (a, w) :: ts =>
    if c.toNat = 66 then (if w = [123] then refF z r o ts else .error ((a : Int), 30))
    else match numC w with
      | none => .error ((a : Int), 30)
      | some n => if boundB (c.toNat : Int) n = true then refF z r (setC c.toNat o n) ts else .error ((a : Int), 30)
def shR (x : Except (Int × Int) (Op4 × Nat × List (Nat × List UInt8))) : Except (Int × Int) (Op4 × List (Nat × List UInt8)) := match x with
  | .error e => .error e
  | .ok y => .ok (y.1, y.2.2)
theorem fB_RN1 (n : Int) : fieldsB ⟨1, n, 1, 0⟩ = boundB 82 n := by
  show (decide (0 ≤ n) && decide (n < 16) && decide ((1 : Int) ≤ 1) && decide ((1 : Int) ≤ 255) && decide ((0 : Int) = 0)) = (decide (0 ≤ n) && decide (n < 16))
  simp
theorem fB_RN2 (r n : Int) (h : boundB 82 r = true) : fieldsB ⟨1, r, n, 0⟩ = boundB 78 n := by
  show (decide (0 ≤ r) && decide (r < 16) && decide (1 ≤ n) && decide (n ≤ 255) && decide ((0 : Int) = 0)) = (decide (1 ≤ n) && decide (n ≤ 255))
  have h : (decide (0 ≤ r) && decide (r < 16)) = true := h
  rw [h]
  simp
theorem fB_R (k n : Int) (hk : k = 2 ∨ k = 6 ∨ k = 7) : fieldsB ⟨k, n, 0, 0⟩ = boundB 82 n := by
  rcases hk with rfl | rfl | rfl
  all_goals
    show (decide (0 ≤ n) && decide (n < 16) && decide ((0 : Int) = 0) && decide ((0 : Int) = 0)) = (decide (0 ≤ n) && decide (n < 16))
    simp
theorem fB_V (n : Int) : fieldsB ⟨3, 0, 0, n⟩ = true := rfl
theorem fB_S (k n : Int) (hk : k = 5 ∨ k = 10) : fieldsB ⟨k, 0, n, 0⟩ = boundB 83 n := by
  rcases hk with rfl | rfl
  all_goals
    show (decide ((0 : Int) = 0) && decide (1 ≤ n) && decide (n ≤ 4096) && decide ((0 : Int) = 0)) = (decide (1 ≤ n) && decide (n ≤ 4096))
    simp
theorem one_R (z opn : Nat) (k : Int) (hk : k = 2 ∨ k = 6 ∨ k = 7) (ts : List (Nat × List UInt8)) : refF z [82] ⟨k, 0, 0, 0⟩ ts = shR (oneT z k opn ts) := by
  have hf : fieldsOf k = [1] := by rcases hk with rfl | rfl | rfl <;> decide
  have h10 : k ≠ 10 := by omega
  have h11 : k ≠ 11 := by omega
  unfold oneT
  rw [hf]
  cases ts with
  | nil => rfl
  | cons t ts =>
    obtain ⟨a, w⟩ := t
    rw [refF, if_neg (by decide), fieldsT]
    cases numC w with
    | none => rfl
    | some n =>
      simp only
      have hx : fixF (setF ⟨k, 0, 0, 0⟩ 1 n) 1 = ⟨k, n, 0, 0⟩ := by unfold fixF; rw [if_neg (by rintro ⟨h, -⟩; rw [setF_kind] at h; simp only at h; omega)]; rfl
      rw [hx, fB_R k n hk]
      show (if boundB 82 n = true then _ else _) = _
      by_cases hb : boundB 82 n = true
      · rw [if_pos hb, if_pos hb, refF, fieldsT]
        simp only
        rw [if_neg h10, if_neg h11]
        rfl
      · rw [if_neg hb, if_neg hb]
        rfl
theorem one_V (z opn : Nat) (ts : List (Nat × List UInt8)) : refF z [86] ⟨3, 0, 0, 0⟩ ts = shR (oneT z 3 opn ts) := by
  unfold oneT
  rw [show fieldsOf 3 = [3] by decide]
  cases ts with
  | nil => rfl
  | cons t ts =>
    obtain ⟨a, w⟩ := t
    rw [refF, if_neg (by decide), fieldsT]
    cases numC w with
    | none => rfl
    | some n =>
      simp only
      have hx : fixF (setF ⟨3, 0, 0, 0⟩ 3 n) 3 = ⟨3, 0, 0, n⟩ := rfl
      rw [hx, fB_V n]
      rfl
theorem one_S (z opn : Nat) (ts : List (Nat × List UInt8)) : refF z [83] ⟨5, 0, 0, 0⟩ ts = shR (oneT z 5 opn ts) := by
  unfold oneT
  rw [show fieldsOf 5 = [2] by decide]
  cases ts with
  | nil => rfl
  | cons t ts =>
    obtain ⟨a, w⟩ := t
    rw [refF, if_neg (by decide), fieldsT]
    cases numC w with
    | none => rfl
    | some n =>
      simp only
      have hx : fixF (setF ⟨5, 0, 0, 0⟩ 2 n) 2 = ⟨5, 0, n, 0⟩ := rfl
      rw [hx, fB_S 5 n (.inl rfl)]
      show (if boundB 83 n = true then _ else _) = _
      by_cases hb : boundB 83 n = true
      · rw [if_pos hb, if_pos hb, refF, fieldsT]
        rfl
      · rw [if_neg hb, if_neg hb]
        rfl
theorem one_SB (z opn : Nat) (ts : List (Nat × List UInt8)) : refF z [83, 66] ⟨10, 0, 0, 0⟩ ts = shR (oneT z 10 opn ts) := by
  unfold oneT
  rw [show fieldsOf 10 = [2] by decide]
  cases ts with
  | nil => rfl
  | cons t ts =>
    obtain ⟨a, w⟩ := t
    rw [refF, if_neg (by decide), fieldsT]
    cases numC w with
    | none => rfl
    | some n =>
      simp only
      have hx : fixF (setF ⟨10, 0, 0, 0⟩ 2 n) 2 = ⟨10, 0, n, 0⟩ := rfl
      rw [hx, fB_S 10 n (.inr rfl)]
      show (if boundB 83 n = true then _ else _) = _
      by_cases hb : boundB 83 n = true
      · rw [if_pos hb, if_pos hb, fieldsT]
        simp only
        rw [if_pos trivial]
        cases ts with
        | nil => rfl
        | cons t ts =>
          obtain ⟨b, v⟩ := t
          rw [refF, if_pos (by decide)]
          simp only
          by_cases hv : v = [123]
          · rw [if_pos hv, if_pos hv, refF]
            rfl
          · rw [if_neg hv, if_neg hv]
            rfl
      · rw [if_neg hb, if_neg hb]
        rfl
theorem one_RN (z opn : Nat) (ts : List (Nat × List UInt8)) : refF z [82, 78] ⟨1, 0, 0, 0⟩ ts = shR (oneT z 1 opn ts) := by
  unfold oneT
  rw [show fieldsOf 1 = [1, 2] by decide]
  cases ts with
  | nil => rfl
  | cons t ts =>
    obtain ⟨a, w⟩ := t
    rw [refF, if_neg (by decide), fieldsT]
    cases numC w with
    | none => rfl
    | some n =>
      simp only
      have hx : fixF (setF ⟨1, 0, 0, 0⟩ 1 n) 1 = ⟨1, n, 1, 0⟩ := rfl
      rw [hx, fB_RN1 n]
      show (if boundB 82 n = true then _ else _) = _
      by_cases hb : boundB 82 n = true
      · rw [if_pos hb, if_pos hb]
        cases ts with
        | nil => rfl
        | cons t ts =>
          obtain ⟨b, v⟩ := t
          rw [refF, if_neg (by decide), fieldsT]
          cases numC v with
          | none => rfl
          | some m =>
            simp only
            have hy : fixF (setF (setF ⟨1, 0, 0, 0⟩ 1 n) 2 m) 2 = ⟨1, n, m, 0⟩ := rfl
            rw [hy, fB_RN2 n m hb]
            show (if boundB 78 m = true then _ else _) = _
            by_cases hc : boundB 78 m = true
            · rw [if_pos hc, if_pos hc, refF, fieldsT]
              rfl
            · rw [if_neg hc, if_neg hc]
              rfl
      · rw [if_neg hb, if_neg hb]
        rfl
theorem one_no (z opn : Nat) (k : Int) (hk : k = 4 ∨ k = 8 ∨ k = 9 ∨ k = 11) (ts : List (Nat × List UInt8)) : refF z [] ⟨k, 0, 0, 0⟩ ts = shR (oneT z k opn ts) := by
  have hf : fieldsOf k = [] := by rcases hk with rfl | rfl | rfl | rfl <;> decide
  have h10 : k ≠ 10 := by omega
  unfold oneT
  rw [hf, refF, fieldsT]
  simp only
  rw [if_neg h10]
  by_cases h11 : k = 11
  · rw [if_pos h11]; rfl
  · rw [if_neg h11]; rfl
theorem ref_one (z opn m : Nat) (hm : 1 ≤ m ∧ m ≤ 11) (ts : List (Nat × List UInt8)) : refF z (formB m).data.toList ⟨(m : Int), 0, 0, 0⟩ ts = shR (oneT z (m : Int) opn ts) := by
  have h11 : m = 1 ∨ m = 2 ∨ m = 3 ∨ m = 4 ∨ m = 5 ∨ m = 6 ∨ m = 7 ∨ m = 8 ∨ m = 9 ∨ m = 10 ∨ m = 11 := by omega
  rcases h11 with rfl | rfl | rfl | rfl | rfl | rfl | rfl | rfl | rfl | rfl | rfl
  · exact one_RN z opn ts
  · exact one_R z opn 2 (.inl rfl) ts
  · exact one_V z opn ts
  · exact one_no z opn 4 (.inl rfl) ts
  · exact one_S z opn ts
  · exact one_R z opn 6 (.inr (.inl rfl)) ts
  · exact one_R z opn 7 (.inr (.inr rfl)) ts
  · exact one_no z opn 8 (.inr (.inl rfl)) ts
  · exact one_no z opn 9 (.inr (.inr (.inl rfl))) ts
  · exact one_SB z opn ts
  · exact one_no z opn 11 (.inr (.inr (.inr rfl))) ts
/-- A word's kind is its word's. -/
theorem kindF_word (s : ByteArray) : ∀ (f k : Nat), kindF s f k ≠ 0 → wordOf (kindF s f k) = s
  | 0, k, h => absurd rfl h
  | f + 1, k, h => by
    rw [kindF] at h ⊢
    by_cases e : wordOf (k : Int) = s
    · rw [if_pos e]; exact e
    · rw [if_neg e] at h ⊢
      exact kindF_word s f (k + 1) h
theorem kindC_word {w : List UInt8} (h : kindC w ≠ 0) : wordOf (kindC w) = ⟨w.toArray⟩ := kindF_word _ _ _ h
theorem word_kind {w : List UInt8} {k : Nat} (hk : 1 ≤ k ∧ k ≤ 11) (h : wordOf (k : Int) = ⟨w.toArray⟩) : kindC w = (k : Int) := by
  have := (word_facts (k := (k : Int)) (by omega)).2.2
  rw [h] at this
  exact this
end CR
end Go.Proofs.YtnehiooioodkfaaDoor
