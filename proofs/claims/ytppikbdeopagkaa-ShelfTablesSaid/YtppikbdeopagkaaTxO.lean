/-
  TEXT: the texts of numbers stand in the numbers' order.
-/
import Derived.Test.YtppikbdeopagkaaTx
import Derived.Laws.Strings
set_option linter.unusedVariables false
set_option linter.unusedSimpArgs false
namespace Go.Proofs.Ytppikbdeopagkaa
open Go Go.RowKit
namespace Tx

/-- c digits of N to the base 256, the greatest first. -/
def dn (N : Nat) : Nat → List UInt8
  | 0 => []
  | c + 1 => UInt8.ofNat (N / 256 ^ c % 256) :: dn N c
theorem u8_lt (a b : Nat) (ha : a < 256) (hb : b < 256) : decide (UInt8.ofNat a < UInt8.ofNat b) = decide (a < b) := by
  rw [decide_eq_decide, UInt8.lt_iff_toNat_lt, UInt8.toNat_ofNat', UInt8.toNat_ofNat']
  rw [Nat.mod_eq_of_lt (by omega), Nat.mod_eq_of_lt (by omega)]
theorem u8_eq (a b : Nat) (ha : a < 256) (hb : b < 256) : (UInt8.ofNat a == UInt8.ofNat b) = decide (a = b) := by
  by_cases h : a = b
  · subst h; simp
  · rw [decide_eq_false h]
    refine beq_eq_false_iff_ne.2 fun e => h ?_
    have := congrArg UInt8.toNat e
    rw [UInt8.toNat_ofNat', UInt8.toNat_ofNat', Nat.mod_eq_of_lt (by omega), Nat.mod_eq_of_lt (by omega)] at this
    exact this
theorem dn_less (M N : Nat) : ∀ c, Op.bytesLess (dn M c) (dn N c) = decide (M % 256 ^ c < N % 256 ^ c)
  | 0 => by simp [dn, Op.bytesLess, Nat.mod_one]
  | c + 1 => by
    have hP : 0 < 256 ^ c := Nat.pow_pos (by omega)
    have hM : M % 256 ^ (c + 1) = M % 256 ^ c + 256 ^ c * (M / 256 ^ c % 256) := by rw [Nat.pow_succ, Nat.mod_mul]
    have hN : N % 256 ^ (c + 1) = N % 256 ^ c + 256 ^ c * (N / 256 ^ c % 256) := by rw [Nat.pow_succ, Nat.mod_mul]
    have hu := Nat.mod_lt M hP
    have hv := Nat.mod_lt N hP
    have ha : M / 256 ^ c % 256 < 256 := Nat.mod_lt _ (by omega)
    have hb : N / 256 ^ c % 256 < 256 := Nat.mod_lt _ (by omega)
    rw [dn, dn, Op.bytesLess, dn_less M N c, hM, hN]
    rw [u8_lt _ _ ha hb, u8_eq _ _ ha hb]
    generalize M / 256 ^ c % 256 = a at *
    generalize N / 256 ^ c % 256 = b at *
    generalize M % 256 ^ c = u at *
    generalize N % 256 ^ c = v at *
    generalize 256 ^ c = P at *
    rcases Nat.lt_trichotomy a b with h | h | h
    · have : P * (a + 1) ≤ P * b := Nat.mul_le_mul_left P h
      rw [Nat.mul_add, Nat.mul_one] at this
      rw [decide_eq_true h, decide_eq_true (show u + P * a < v + P * b by omega)]; rfl
    · subst h
      simp
    · have : P * (b + 1) ≤ P * a := Nat.mul_le_mul_left P h
      rw [Nat.mul_add, Nat.mul_one] at this
      rw [decide_eq_false (show ¬ a < b by omega), decide_eq_false (show ¬ a = b by omega), decide_eq_false (show ¬ u + P * a < v + P * b by omega)]; rfl
theorem be_dn (N : Nat) : (be (N : Int)).map (fun n => UInt8.ofNat n.toNat) = dn N 8 := by
  have h : ∀ k : Nat, ((N : Int) / 2 ^ k % 256).toNat = N / 2 ^ k % 256 := fun k => by
    have : ((N : Int) / 2 ^ k % 256) = ((N / 2 ^ k % 256 : Nat) : Int) := by simp only [Int.natCast_emod, Int.natCast_ediv, Int.natCast_pow]; rfl
    rw [this, Int.toNat_natCast]
  simp only [be, byteAt, List.map_map, Function.comp_def, h]
  rfl
theorem tx_list (n : Int) (h : 0 ≤ n + 9223372036854775808) : (tx n).data.toList = dn (n + 9223372036854775808).toNat 8 := by
  rw [tx, strOfNums_data, ← be_dn, Int.toNat_of_nonneg h]
theorem ba_toList (s : ByteArray) : s.toList = s.data.toList := by
  rw [ByteArray.toList_eq]
theorem tx_less (m n : Int) (hm : -9223372036854775808 ≤ m ∧ m ≤ 9223372036854775807) (hn : -9223372036854775808 ≤ n ∧ n ≤ 9223372036854775807) : Op.bytesLess (tx m).toList (tx n).toList = decide (m < n) := by
  rw [ba_toList, ba_toList, tx_list m (by omega), tx_list n (by omega), dn_less, decide_eq_decide]
  rw [Nat.mod_eq_of_lt (show (m + 9223372036854775808).toNat < 256 ^ 8 by omega), Nat.mod_eq_of_lt (show (n + 9223372036854775808).toNat < 256 ^ 8 by omega)]
  omega
theorem tx_eq (m n : Int) (hm : -9223372036854775808 ≤ m ∧ m ≤ 9223372036854775807) (hn : -9223372036854775808 ≤ n ∧ n ≤ 9223372036854775807) : ((tx m).toList == (tx n).toList) = decide (m = n) := by
  by_cases h : m = n
  · subst h; simp
  · rw [decide_eq_false h]
    refine beq_eq_false_iff_ne.2 fun e => h ?_
    have h1 := tx_less m n hm hn
    have h2 := tx_less n m hn hm
    have h3 := tx_less n n hn hn
    rw [e, h3] at h1
    rw [e, h3] at h2
    simp only [decide_eq_decide] at h1 h2
    omega
end Tx
end Go.Proofs.Ytppikbdeopagkaa
