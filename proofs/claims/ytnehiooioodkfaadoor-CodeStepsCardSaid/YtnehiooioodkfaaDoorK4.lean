/-
  CODE: the kind of a word.
-/
import Derived.Test.YtnehiooioodkfaaDoorK2
import Derived.LoopTactic
import Derived.Deep.LoopGhost
set_option linter.unusedVariables false
set_option linter.unusedSimpArgs false
namespace Go.Proofs.YtnehiooioodkfaaDoor
open Go Go.RowKit
namespace CD
def koR (w : World) (s : ByteArray) (gn : Nat) (i : Value) (wr : World) : Prop := ∃ k : Nat, gn = 12 - k ∧ 1 ≤ k ∧ k ≤ 12 ∧ i = .int .i64 (k : Int) ∧ kindF s (12 - k) k = kindW s ∧ Below w.heap.size w wr
set_option maxHeartbeats 2000000 in
theorem kindOf (w : World) (s : ByteArray) : Calls Tryd.prog 38 #[.string s] w fun e w' => e = .returned (.int .i64 (kindW s)) ∧ Below w.heap.size w w' := by
  have hrow := rowOf
  have Hrow := Lib.hid hrow
  clear hrow
  obtain ⟨K, hK⟩ : ∃ K, kindW s = K := ⟨_, rfl⟩
  rw [hK]
  have HK := Lib.hid hK
  clear hK
  go_enter Tryd.func38, Tryd.ntmps38
  go_wp2
  go_loopg [3] 11 (fun gn i wr => koR w s gn i wr)
  case atStart => exact ⟨1, rfl, by omega, by omega, rfl, rfl, Below.refl _ _⟩
  case round =>
    obtain ⟨k, hgk, hk1, hk2, rfl, hkf, bd⟩ := hrel
    have Hgk := Lib.hid hgk
    have Hkf := Lib.hid hkf
    clear hgk hkf
    by_cases hlt : k ≤ 11
    · have i0 : (k : Int) ≤ 11 := by omega
      have hcall := (Hrow.out wr (k : Int))
      have hkb : kindB (k : Int) = true := decide_eq_true ⟨by omega, by omega⟩
      rw [hkb] at hcall
      clear hkb
      have Hc := Lib.hid hcall
      clear hcall
      go_wp2_with fail
      refine Hc.out.mono ?_
      rintro e w1 ⟨rfl, b1⟩
      have bd1 := bd.trans (b1.mono bd.size)
      clear b1 bd Hc
      by_cases hq : wordOf (k : Int) = s
      · have hz : kindF s (12 - k) k = (k : Int) := by rw [show 12 - k = (11 - k) + 1 by omega, kindF, if_pos hq]
        go_wp2
        go_ret
        have hkK : (k : Int) = K := by rw [← HK.out, ← Hkf.out, hz]
        exact ⟨by rw [← hkK]; rfl, bdA bd1.size bd1 _⟩
      · have hb := str_ne hq
        go_wp2
        go_roundg (12 - (k + 1))
        case measure => have := Hgk.out; omega
        case rel => exact ⟨k + 1, rfl, by omega, by omega, by go_num, by rw [← Hkf.out, show 12 - k = (11 - k) + 1 by omega, kindF, if_neg hq, show 12 - (k + 1) = 11 - k by omega], bdA bd1.size bd1 _⟩
    · obtain rfl : k = 12 := by omega
      have hy : K = 0 := by rw [← HK.out, ← Hkf.out]; rfl
      subst hy
      go_wp2
      go_ret
      exact ⟨rfl, bd⟩
end CD
end Go.Proofs.YtnehiooioodkfaaDoor
