/-
  CODE: numbers in their one form.
-/
import Derived.Test.YtnehiooioodkfaaDoorKP
set_option linter.unusedVariables false
set_option linter.unusedSimpArgs false
namespace Go.Proofs.YtnehiooioodkfaaDoor
open Go Go.RowKit
namespace CD
def isD (c : UInt8) : Prop := 48 ≤ c.toNat ∧ c.toNat ≤ 57
instance (c : UInt8) : Decidable (isD c) := inferInstanceAs (Decidable (48 ≤ c.toNat ∧ c.toNat ≤ 57))
/-- What digits spell. -/
def digs : List UInt8 → Nat → Option Nat
  | [], acc => some acc
  | c :: r, acc => if isD c then digs r (acc * 10 + (c.toNat - 48)) else none
/-- A number in its one form, read. -/
def numC : List UInt8 → Option Int
  | [] => none
  | c :: r =>
    if c.toNat = 45 then
      match r with
      | [] => none
      | d :: t => if d.toNat = 48 then none else match digs (d :: t) 0 with
        | some u => if u ≤ 9223372036854775808 then some (-(u : Int)) else none
        | none => none
    else if c.toNat = 48 then (if r = [] then some 0 else none)
    else match digs (c :: r) 0 with
      | some u => if u < 9223372036854775808 then some (u : Int) else none
      | none => none

theorem digs_le : ∀ (l : List UInt8) (acc u : Nat), digs l acc = some u → acc ≤ u
  | [], acc, u, h => by simp only [digs, Option.some.injEq] at h; omega
  | c :: r, acc, u, h => by
    simp only [digs] at h
    split at h
    · have := digs_le r _ u h
      omega
    · cases h
theorem digs_parse : ∀ (l : List UInt8) (acc u : Nat), digs l acc = some u → u < 18446744073709551616 → Lib.parseUint10 acc l = .ok u
  | [], acc, u, h, _ => by simp only [digs, Option.some.injEq] at h; rw [h]; rfl
  | c :: r, acc, u, h, hu => by
    simp only [digs] at h
    split at h
    · rename_i hd
      have hle := digs_le r _ u h
      have hd' : 48 ≤ c.toNat ∧ c.toNat ≤ 57 := hd
      unfold Lib.parseUint10
      rw [if_pos hd', if_neg (by omega), if_neg (by omega)]
      exact digs_parse r _ u h hu
    · cases h
theorem digs_append : ∀ (l m : List UInt8) (acc u : Nat), digs l acc = some u → digs (l ++ m) acc = digs m u
  | [], m, acc, u, h => by simp only [digs, Option.some.injEq] at h; rw [h]; rfl
  | c :: r, m, acc, u, h => by
    simp only [digs] at h
    split at h
    · rename_i hd
      rw [List.cons_append, digs, if_pos hd]
      exact digs_append r m _ u h
    · cases h
theorem digs_app_some : ∀ (l m : List UInt8) (acc u : Nat), digs (l ++ m) acc = some u → ∃ v, digs l acc = some v ∧ digs m v = some u
  | [], m, acc, u, h => ⟨acc, rfl, h⟩
  | c :: r, m, acc, u, h => by
    rw [List.cons_append, digs] at h
    split at h
    · rename_i hd
      obtain ⟨v, h1, h2⟩ := digs_app_some r m _ u h
      exact ⟨v, by rw [digs, if_pos hd]; exact h1, h2⟩
    · cases h
theorem dig_nat (d : Nat) (h : d < 10) : (UInt8.ofNat (48 + d)).toNat = 48 + d := by
  rw [UInt8.toNat_ofNat']; omega
theorem dec_digs (u : Nat) : digs (Lib.decDigits u) 0 = some u ∧ (∃ c r, Lib.decDigits u = c :: r ∧ (1 ≤ u → c.toNat ≠ 48) ∧ isD c) := by
  induction u using Nat.strongRecOn with
  | _ u ih =>
    rw [Lib.decDigits]
    by_cases h : u < 10
    · rw [dif_pos h]
      have e := dig_nat u h
      have hd : isD (UInt8.ofNat (48 + u)) := by unfold isD; rw [e]; omega
      refine ⟨?_, _, _, rfl, fun h1 => by rw [e]; omega, hd⟩
      rw [digs, if_pos hd, e, digs]
      simp
    · rw [dif_neg h]
      have e := dig_nat (u % 10) (by omega)
      have hd : isD (UInt8.ofNat (48 + u % 10)) := by unfold isD; rw [e]; omega
      obtain ⟨h1, c, r, h2, h3, h4⟩ := ih (u / 10) (by omega)
      refine ⟨?_, c, r ++ [UInt8.ofNat (48 + u % 10)], by rw [h2]; rfl, fun _ => h3 (by omega), h4⟩
      rw [digs_append _ _ _ _ h1, digs, if_pos hd, e, digs]
      congr 1
      omega
theorem ofNat_toNat (c : UInt8) (h : isD c) : UInt8.ofNat (48 + (c.toNat - 48)) = c := by
  unfold isD at h
  rw [show 48 + (c.toNat - 48) = c.toNat by omega]
  exact UInt8.ofNat_toNat
theorem digs_dec (c : UInt8) (hc : c.toNat ≠ 48) : ∀ (n : Nat) (r : List UInt8) (u : Nat), r.length = n → digs (c :: r) 0 = some u → 1 ≤ u ∧ Lib.decDigits u = c :: r
  | 0, r, u, hr, h => by
    obtain rfl := List.length_eq_zero_iff.1 hr
    simp only [digs] at h
    split at h
    · rename_i hd
      simp only [Nat.zero_mul, Nat.zero_add, Option.some.injEq] at h
      subst h
      have hd' := hd
      unfold isD at hd'
      refine ⟨by omega, ?_⟩
      rw [Lib.decDigits, dif_pos (by omega), ofNat_toNat c hd]
    · cases h
  | n + 1, r, u, hr, h => by
    have hne : r ≠ [] := fun h0 => by rw [h0] at hr; cases hr
    obtain ⟨r', d, rfl⟩ : ∃ r' d, r = r' ++ [d] := ⟨r.dropLast, r.getLast hne, (List.dropLast_concat_getLast hne).symm⟩
    rw [← List.cons_append] at h
    obtain ⟨v, h1, h2⟩ := digs_app_some _ _ _ _ h
    obtain ⟨i1, i2⟩ := digs_dec c hc n r' v (by simpa using hr) h1
    simp only [digs] at h2
    split at h2
    · rename_i hd
      simp only [Option.some.injEq] at h2
      have hd' := hd
      unfold isD at hd'
      refine ⟨by omega, ?_⟩
      rw [Lib.decDigits, dif_neg (by omega), show u / 10 = v by omega, show u % 10 = d.toNat - 48 by omega, i2, ofNat_toNat d hd]
      rfl
    · cases h2
/-- What Itoa writes is read. -/
theorem numC_itoa (v : Int) (h0 : -9223372036854775808 ≤ v) (h1 : v ≤ 9223372036854775807) : numC (Lib.itoa v) = some v := by
  unfold Lib.itoa
  by_cases hn : v < 0
  · rw [if_pos hn]
    obtain ⟨d1, c, r, d2, d3, d4⟩ := dec_digs v.natAbs
    have e := d3 (by omega)
    rw [d2]
    unfold numC
    dsimp only
    rw [if_pos (by rfl), if_neg e, ← d2, d1]
    dsimp only
    rw [if_pos (by omega)]
    congr 1
    omega
  · rw [if_neg hn]
    obtain ⟨d1, c, r, d2, d3, d4⟩ := dec_digs v.toNat
    by_cases hz : v = 0
    · subst hz
      have : Lib.decDigits (0 : Int).toNat = [48] := by rw [show (0 : Int).toNat = 0 from rfl, Lib.decDigits, dif_pos (by omega)]; rfl
      rw [this]; rfl
    · have e := d3 (by omega)
      have d4' := d4
      unfold isD at d4'
      rw [d2]
      unfold numC
      dsimp only
      rw [if_neg (by omega), if_neg e, ← d2, d1]
      dsimp only
      rw [if_pos (by omega)]
      congr 1
      omega
/-- What is read so, Atoi reads, and Itoa writes it. -/
theorem numC_some (l : List UInt8) (v : Int) (h : numC l = some v) : Lib.atoiAll l = .ok v ∧ Lib.itoa v = l := by
  unfold numC at h
  split at h
  · cases h
  · rename_i c r
    split at h
    · rename_i h45
      split at h
      · cases h
      · rename_i d t
        split at h
        · cases h
        · rename_i h48
          split at h
          · rename_i u hu
            split at h
            · rename_i hle
              simp only [Option.some.injEq] at h
              subst h
              obtain ⟨k1, k2⟩ := digs_dec d h48 _ t u rfl hu
              obtain rfl : c = 45 := UInt8.toNat_inj.1 h45
              refine ⟨?_, ?_⟩
              · rw [Lib.atoiAll_minus, Lib.parseMag, if_neg (by simp), digs_parse _ _ _ hu (by omega)]
                simp only [Lib.signed]
                rw [if_neg (by omega)]
              · rw [Lib.itoa, if_pos (by omega), show (-(u : Int)).natAbs = u by omega, k2]
            · cases h
          · cases h
    · rename_i h45
      split at h
      · rename_i h48
        split at h
        · rename_i hr
          subst hr
          simp only [Option.some.injEq] at h
          subst h
          obtain rfl : c = 48 := UInt8.toNat_inj.1 h48
          refine ⟨by rfl, ?_⟩
          rw [Lib.itoa, if_neg (by omega), show (0 : Int).toNat = 0 from rfl, Lib.decDigits, dif_pos (by omega)]
          rfl
        · cases h
      · rename_i h48
        split at h
        · rename_i u hu
          split at h
          · rename_i hlt
            simp only [Option.some.injEq] at h
            subst h
            obtain ⟨k1, k2⟩ := digs_dec c h48 _ r u rfl hu
            have hd : isD c := by
              rw [digs] at hu
              split at hu
              · assumption
              · cases hu
            have hd' := hd
            unfold isD at hd'
            refine ⟨?_, ?_⟩
            · rw [Lib.atoiAll_plain c r (by omega) h45, Lib.parseMag, if_neg (by simp), digs_parse _ _ _ hu (by omega)]
              simp only [Lib.signless]
              rw [if_neg (by omega)]
            · rw [Lib.itoa, if_neg (by omega), show (u : Int).toNat = u by omega, k2]
          · cases h
        · cases h
theorem numB_eq (w : ByteArray) : numB w = numC w.data.toList := by
  unfold numB
  cases hc : numC w.data.toList with
  | some v =>
    obtain ⟨h1, h2⟩ := numC_some _ v hc
    rw [h1]
    simp only
    rw [if_pos h2]
  | none =>
    split
    · rename_i v ha
      by_cases hi : Lib.itoa v = w.data.toList
      · have hb := Lib.atoiAll_bounds ha
        have := numC_itoa v hb.1 hb.2
        rw [hi, hc] at this
        cases this
      · rw [if_neg hi]
    · rfl
theorem numB_bounds (w : ByteArray) (v : Int) (h : numB w = some v) : -9223372036854775808 ≤ v ∧ v ≤ 9223372036854775807 := by
  rw [numB_eq] at h
  exact Lib.atoiAll_bounds (numC_some _ v h).1
end CD
end Go.Proofs.YtnehiooioodkfaaDoor
