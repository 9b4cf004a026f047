/-
  CODE: a repeat is its inside so often (plain).
-/
import Derived.Test.YtnehiooioodkfaaDoorJA
set_option linter.unusedVariables false
set_option linter.unusedSimpArgs false
namespace Go.Proofs.YtnehiooioodkfaaDoor
open Go Go.RowKit
namespace CD
/-- How many repeats are open behind operations; none: one of them is wrong. -/
def opG : List Op4 → Nat → Option Nat
  | [], op => some op
  | o :: r, op => if fieldsB o = false then none else if o.kind = 10 then (if op = 4 then none else opG r (op + 1)) else if o.kind = 11 then (if op = 0 then none else opG r (op - 1)) else opG r op
theorem opG_check : ∀ (xs : List Op4) (i op : Nat), checkG xs i op = (0, 0) ↔ opG xs op = some 0
  | [], i, op => by
    rw [opG]
    constructor
    · intro h
      unfold checkG at h
      split at h
      · simp at h
      · rename_i h0; rw [show op = 0 by omega]
    · intro h
      injection h with h
      subst h
      unfold checkG
      rw [if_neg (by omega)]
  | o :: r, i, op => by
    rw [opG, checkG]
    by_cases hf : fieldsB o = false
    · rw [if_pos hf, if_pos hf]
      simp
    · rw [if_neg hf, if_neg hf]
      by_cases h10 : o.kind = 10
      · rw [if_pos h10, if_pos h10]
        by_cases h4 : op = 4
        · rw [if_pos h4, if_pos h4]; simp
        · rw [if_neg h4, if_neg h4]; exact opG_check r _ _
      · rw [if_neg h10, if_neg h10]
        by_cases h11 : o.kind = 11
        · rw [if_pos h11, if_pos h11]
          by_cases h0 : op = 0
          · rw [if_pos h0, if_pos h0]; simp
          · rw [if_neg h0, if_neg h0]; exact opG_check r _ _
        · rw [if_neg h11, if_neg h11]; exact opG_check r _ _
theorem opG_append : ∀ (a b : List Op4) (op : Nat), opG (a ++ b) op = (opG a op).bind fun m => opG b m
  | [], b, op => rfl
  | o :: r, b, op => by
    rw [List.cons_append, opG, opG]
    by_cases hf : fieldsB o = false
    · rw [if_pos hf, if_pos hf]; rfl
    · rw [if_neg hf, if_neg hf]
      by_cases h10 : o.kind = 10
      · rw [if_pos h10, if_pos h10]
        by_cases h4 : op = 4
        · rw [if_pos h4, if_pos h4]; rfl
        · rw [if_neg h4, if_neg h4]; exact opG_append r b _
      · rw [if_neg h10, if_neg h10]
        by_cases h11 : o.kind = 11
        · rw [if_pos h11, if_pos h11]
          by_cases h0 : op = 0
          · rw [if_pos h0, if_pos h0]; rfl
          · rw [if_neg h0, if_neg h0]; exact opG_append r b _
        · rw [if_neg h11, if_neg h11]; exact opG_append r b _
/-- Deeper in, the same, unless it is too deep. -/
theorem opG_deep : ∀ (a : List Op4) (op m d n : Nat), opG a op = some m → opG a (op + d) = some n → n = m + d
  | [], op, m, d, n, h, k => by simp only [opG, Option.some.injEq] at h k; omega
  | o :: r, op, m, d, n, h, k => by
    rw [opG] at h k
    by_cases hf : fieldsB o = false
    · rw [if_pos hf] at h; cases h
    · rw [if_neg hf] at h k
      by_cases h10 : o.kind = 10
      · rw [if_pos h10] at h k
        by_cases h4 : op = 4
        · rw [if_pos h4] at h; cases h
        · rw [if_neg h4] at h
          by_cases h4' : op + d = 4
          · rw [if_pos h4'] at k; cases k
          · rw [if_neg h4'] at k
            exact opG_deep r (op + 1) m d n h (by rw [show op + 1 + d = op + d + 1 by omega]; exact k)
      · rw [if_neg h10] at h k
        by_cases h11 : o.kind = 11
        · rw [if_pos h11] at h k
          by_cases h0 : op = 0
          · rw [if_pos h0] at h; cases h
          · rw [if_neg h0] at h
            rw [if_neg (by omega)] at k
            exact opG_deep r (op - 1) m d n h (by rw [show op - 1 + d = op + d - 1 by omega]; exact k)
        · rw [if_neg h11] at h k
          exact opG_deep r op m d n h k
def manyL (n : Nat) (p : List Op4) : List Op4 := (List.replicate n p).flatten
theorem checkB_op {xs : List Op4} : (checkB xs).2 = 0 ↔ xs.length ≤ 256 ∧ opG xs 0 = some 0 := by
  constructor
  · intro h
    obtain ⟨h1, h2⟩ := checkB_zero h
    exact ⟨h1, (opG_check _ _ _).1 h2⟩
  · intro ⟨h1, h2⟩
    unfold checkB
    rw [if_neg (by omega), (opG_check _ 0 _).2 h2]
theorem many_op (p : List Op4) (h : opG p 0 = some 0) : ∀ n, opG (manyL n p) 0 = some 0
  | 0 => rfl
  | n + 1 => by
    unfold manyL
    rw [List.replicate_succ, List.flatten_cons, opG_append, h]
    exact many_op p h n
theorem many_whole {f : Nat} {p S : List Op4} (h : Whole f p S) : ∀ n, ∃ g, Whole g (manyL n p) (List.replicate n S).flatten
  | 0 => ⟨0, rfl, rfl⟩
  | n + 1 => by
    obtain ⟨g, hg⟩ := many_whole h n
    refine ⟨f + g, ?_⟩
    unfold manyL
    rw [List.replicate_succ, List.flatten_cons, List.replicate_succ, List.flatten_cons]
    exact h.append hg
/-- A repeat is as good as its inside so many times. -/
theorem repeats {ahead p : List Op4} {n : Nat} (hl : ahead.length + n * p.length ≤ 256) (hp : (checkB p).2 = 0) (ha : (checkB (ahead ++ ⟨10, 0, (n : Int), 0⟩ :: (p ++ [⟨11, 0, 0, 0⟩]))).2 = 0) :
    listB (ahead ++ manyL n p) = listB (ahead ++ ⟨10, 0, (n : Int), 0⟩ :: (p ++ [⟨11, 0, 0, 0⟩])) := by
  obtain ⟨-, hpo⟩ := checkB_op.1 hp
  obtain ⟨-, hao⟩ := checkB_op.1 ha
  have hah : opG ahead 0 = some 0 := by
    rw [opG_append] at hao
    cases hs : opG ahead 0 with
    | none => rw [hs] at hao; cases hao
    | some s =>
      rw [hs] at hao
      simp only [Option.bind_some] at hao
      rw [opG] at hao
      split at hao
      · cases hao
      · rw [if_pos rfl] at hao
        split at hao
        · cases hao
        · rw [opG_append] at hao
          cases hm : opG p (s + 1) with
          | none => rw [hm] at hao; cases hao
          | some m =>
            rw [hm] at hao
            have e := opG_deep p 0 0 (s + 1) m hpo (by rw [Nat.zero_add]; exact hm)
            simp only [Option.bind_some] at hao
            rw [opG] at hao
            split at hao
            · cases hao
            · rw [if_neg (by simp), if_pos rfl] at hao
              split at hao
              · cases hao
              · rw [opG] at hao
                injection hao with hao
                rw [show s = 0 by omega]
  have hlen : (ahead ++ manyL n p).length ≤ 256 := by
    unfold manyL
    rw [List.length_append, List.length_flatten, List.map_replicate, List.sum_replicate_nat]
    exact hl
  have hb : (checkB (ahead ++ manyL n p)).2 = 0 := checkB_op.2 ⟨hlen, by rw [opG_append, hah]; exact many_op p hpo n⟩
  have hal : (checkB ahead).2 = 0 := checkB_op.2 ⟨by rw [List.length_append] at hlen; omega, hah⟩
  obtain ⟨g, hg⟩ := many_whole (whole_of_check hp) n
  have w1 := (whole_of_check hal).append hg
  have hrep : Whole (p.length + 1 + 1) (⟨10, 0, (n : Int), 0⟩ :: (p ++ ⟨11, 0, 0, 0⟩ :: [])) ((List.replicate (n : Int).toNat (segB p)).flatten ++ []) :=
    .inr (.inl ⟨⟨10, 0, (n : Int), 0⟩, p, ⟨11, 0, 0, 0⟩, [], segB p, [], rfl, rfl, rfl, rfl, whole_of_check hp, .inl ⟨rfl, rfl⟩⟩)
  have w2 := (whole_of_check hal).append hrep
  rw [Int.toNat_natCast, List.append_nil] at w2
  rw [listB_res hb, listB_res ha, (whole_of_check hb).uniq w1, (whole_of_check ha).uniq w2]
end CD
end Go.Proofs.YtnehiooioodkfaaDoor
