/-
  CODE: blanks, names.
-/
import Derived.Test.YtnehiooioodkfaaDoorProg
import Derived.Test.YtnehiooioodkfaaDoorIter
import Derived.Lib.Hide
import Derived.Outline
import Derived.LoopTactic
import Derived.Deep.LoopGhost
set_option linter.unusedVariables false
set_option linter.unusedSimpArgs false
namespace Go.Proofs.YtnehiooioodkfaaDoor
open Go Go.RowKit
namespace CD

def blankC (c : Int) : Bool := c == 9 || c == 10 || c == 13 || c == 32 || c == 59

set_option maxHeartbeats 1000000 in
theorem blank (w : World) (c : Int) : Calls Tryd.prog 60 #[.int .u8 c] w fun e w' => e = .returned (.bool (blankC c)) ∧ w' = w := by
  unfold blankC
  cases h1 : (c == 9) with
  | true =>
    go_enter Tryd.func60, Tryd.ntmps60
    go_wp2
    go_ret
    exact ⟨rfl, rfl⟩
  | false =>
    cases h2 : (c == 10) with
    | true =>
      go_enter Tryd.func60, Tryd.ntmps60
      go_wp2
      go_ret
      exact ⟨rfl, rfl⟩
    | false =>
      cases h3 : (c == 13) with
      | true =>
        go_enter Tryd.func60, Tryd.ntmps60
        go_wp2
        go_ret
        exact ⟨rfl, rfl⟩
      | false =>
        cases h4 : (c == 32) with
        | true =>
          go_enter Tryd.func60, Tryd.ntmps60
          go_wp2
          go_ret
          exact ⟨rfl, rfl⟩
        | false =>
          go_enter Tryd.func60, Tryd.ntmps60
          go_wp2
          go_ret
          exact ⟨rfl, rfl⟩

/-- May a byte stand in a name? -/
def okName (first : Bool) (c : Int) : Bool := (decide (97 ≤ c) && decide (c ≤ 122)) || (!first && (c == 45 || (decide (48 ≤ c) && decide (c ≤ 57))))
def legalB (s : ByteArray) : Bool := decide (1 ≤ s.size) && decide (s.size ≤ 32) && decide (∀ k, (h : k < s.size) → okName (k == 0) (s[k].toNat : Int) = true)
theorem legalB_iff (s : ByteArray) : legalB s = true ↔ (1 ≤ s.size ∧ s.size ≤ 32 ∧ ∀ k, (h : k < s.size) → okName (k == 0) (s[k].toNat : Int) = true) := by
  unfold legalB
  simp only [Bool.and_eq_true, decide_eq_true_eq]
  exact ⟨fun ⟨⟨a, b⟩, c⟩ => ⟨a, b, c⟩, fun ⟨a, b, c⟩ => ⟨⟨a, b⟩, c⟩⟩
theorem legalB_no (s : ByteArray) (k : Nat) (h : k < s.size) (hb : okName (k == 0) (s[k].toNat : Int) = false) : legalB s = false := by
  cases hl : legalB s with
  | false => rfl
  | true => rw [((legalB_iff s).1 hl).2.2 k h] at hb; cases hb

def lgR (w : World) (s : ByteArray) (gn : Nat) (i : Value) (wr : World) : Prop :=
  ∃ k : Nat, gn = s.size - k ∧ k ≤ s.size ∧ i = .int .i64 (k : Int) ∧ (∀ j, (h : j < s.size) → j < k → okName (j == 0) (s[j].toNat : Int) = true) ∧ wr = w
theorem lgR_next (s : ByteArray) (k : Nat) (hk : k < s.size) (h : ∀ j, (h : j < s.size) → j < k → okName (j == 0) (s[j].toNat : Int) = true) (hb : okName (k == 0) (s[k].toNat : Int) = true) : ∀ j, (h : j < s.size) → j < k + 1 → okName (j == 0) (s[j].toNat : Int) = true := fun j hj hjk => by
  by_cases e : j = k
  · subst e; exact hb
  · exact h j hj (by omega)

set_option maxHeartbeats 4000000 in
theorem legal (w : World) (s : ByteArray) (hs : s.size ≤ maxLen) : Calls Tryd.prog 21 #[.string s] w fun e w' => e = .returned (.bool (legalB s)) ∧ w' = w := by
  unfold maxLen at hs
  by_cases h1 : s.size < 1
  · have hno : legalB s = false := by
      cases hl : legalB s with
      | false => rfl
      | true => have := ((legalB_iff s).1 hl).1; omega
    rw [hno]
    have r1 : (s.size : Int) < 1 := by omega
    clear hno
    go_enter Tryd.func21, Tryd.ntmps21
    go_wp2
    go_ret
    exact ⟨rfl, rfl⟩
  have r1 : ¬ (s.size : Int) < 1 := by omega
  by_cases h2 : 32 < s.size
  · have hno : legalB s = false := by
      cases hl : legalB s with
      | false => rfl
      | true => have := ((legalB_iff s).1 hl).2.1; omega
    rw [hno]
    have r2 : (32 : Int) < (s.size : Int) := by omega
    clear hno
    go_enter Tryd.func21, Tryd.ntmps21
    go_wp2
    go_ret
    exact ⟨rfl, rfl⟩
  have r2 : ¬ (32 : Int) < (s.size : Int) := by omega
  obtain ⟨L, hL⟩ : ∃ L, legalB s = L := ⟨_, rfl⟩
  rw [hL]
  have HL := Lib.hid hL
  clear hL
  go_enter Tryd.func21, Tryd.ntmps21
  go_wp2
  go_loopg [15] s.size (fun gn i wr => lgR w s gn i wr)
  case atStart => exact ⟨0, rfl, Nat.zero_le _, rfl, fun j _ hj => by omega, rfl⟩
  case round =>
    obtain ⟨k, hgk, hk, rfl, hok, rfl⟩ := hrel
    have Hgk := Lib.hid hgk
    have Hok := Lib.hid hok
    clear hgk hok
    by_cases hlt : k < s.size
    · have i0 : (k : Int) < (s.size : Int) := by omega
      by_cases q1 : 97 ≤ s[k].toNat ∧ s[k].toNat ≤ 122
      · obtain ⟨q1, q2⟩ := q1
        have r1 : (97 : Int) ≤ (s[k].toNat : Int) := by omega
        have r2 : (s[k].toNat : Int) ≤ 122 := by omega
        have hst := lgR_next s k hlt Hok.out (by unfold okName; rw [decide_eq_true r1, decide_eq_true r2]; rfl)
        have Hst := Lib.hid hst
        clear hst
        go_wp2
        go_roundg (s.size - (k + 1))
        case measure => have := Hgk.out; omega
        case rel => exact ⟨k + 1, rfl, by omega, by go_num, Hst.out, rfl⟩
      · have hl : (decide ((97 : Int) ≤ (s[k].toNat : Int)) && decide ((s[k].toNat : Int) ≤ 122)) = false := by
          cases hd : (decide ((97 : Int) ≤ (s[k].toNat : Int)) && decide ((s[k].toNat : Int) ≤ 122)) with
          | false => rfl
          | true => simp only [Bool.and_eq_true, decide_eq_true_eq] at hd; omega
        have Hl := Lib.hid hl
        clear hl
        by_cases hk0 : k = 0
        · subst hk0
          have hno := legalB_no s 0 hlt (by unfold okName; rw [Hl.out]; rfl)
          have Hno := Lib.hid hno
          clear hno
          by_cases q2 : 97 ≤ s[0].toNat
          · have r1 : (97 : Int) ≤ (s[0].toNat : Int) := by omega
            have q3 : ¬ s[0].toNat ≤ 122 := by omega
            have r2 : ¬ (s[0].toNat : Int) ≤ 122 := by omega
            clear q1
            go_wp2
            go_ret
            exact ⟨by rw [← HL.out, Hno.out]; rfl, rfl⟩
          · have r1 : ¬ (97 : Int) ≤ (s[0].toNat : Int) := by omega
            clear q1
            go_wp2
            go_ret
            exact ⟨by rw [← HL.out, Hno.out]; rfl, rfl⟩
        · have hkb : (k == 0) = false := beq_eq_false_iff_ne.2 hk0
          have hki : ((k : Int) == 0) = false := beq_eq_false_iff_ne.2 (by omega)
          by_cases q3 : s[k].toNat = 45
          · have b3 : ((s[k].toNat : Int) == 45) = true := beq_iff_eq.2 (by omega)
            have b4 : ((s[k].toNat : Int) != 45) = false := by simp [bne, b3]
            have hst := lgR_next s k hlt Hok.out (by unfold okName; rw [Hl.out, hkb, b3]; rfl)
            have Hst := Lib.hid hst
            have q4 : ¬ 97 ≤ s[k].toNat := by omega
            have r4 : ¬ (97 : Int) ≤ (s[k].toNat : Int) := by omega
            clear hst q1 q3
            go_wp2
            go_roundg (s.size - (k + 1))
            case measure => have := Hgk.out; omega
            case rel => exact ⟨k + 1, rfl, by omega, by go_num, Hst.out, rfl⟩
          · have b3 : ((s[k].toNat : Int) == 45) = false := beq_eq_false_iff_ne.2 (by omega)
            have b4 : ((s[k].toNat : Int) != 45) = true := by simp [bne, b3]
            by_cases q5 : 48 ≤ s[k].toNat ∧ s[k].toNat ≤ 57
            · obtain ⟨q5, q6⟩ := q5
              have r5 : (48 : Int) ≤ (s[k].toNat : Int) := by omega
              have r6 : (s[k].toNat : Int) ≤ 57 := by omega
              have hst := lgR_next s k hlt Hok.out (by unfold okName; rw [Hl.out, hkb, b3, decide_eq_true r5, decide_eq_true r6]; rfl)
              have Hst := Lib.hid hst
              have q4 : ¬ 97 ≤ s[k].toNat := by omega
              have r4 : ¬ (97 : Int) ≤ (s[k].toNat : Int) := by omega
              clear hst q1 q3
              go_wp2
              go_roundg (s.size - (k + 1))
              case measure => have := Hgk.out; omega
              case rel => exact ⟨k + 1, rfl, by omega, by go_num, Hst.out, rfl⟩
            · have hd : (decide ((48 : Int) ≤ (s[k].toNat : Int)) && decide ((s[k].toNat : Int) ≤ 57)) = false := by
                cases hd : (decide ((48 : Int) ≤ (s[k].toNat : Int)) && decide ((s[k].toNat : Int) ≤ 57)) with
                | false => rfl
                | true => simp only [Bool.and_eq_true, decide_eq_true_eq] at hd; omega
              have hno := legalB_no s k hlt (by unfold okName; rw [Hl.out, hkb, b3, hd]; rfl)
              have Hno := Lib.hid hno
              clear hno hd
              by_cases q6 : 97 ≤ s[k].toNat
              · have r1 : (97 : Int) ≤ (s[k].toNat : Int) := by omega
                have q7 : ¬ s[k].toNat ≤ 122 := by omega
                have r7 : ¬ (s[k].toNat : Int) ≤ 122 := by omega
                have q8 : ¬ s[k].toNat < 48 := by omega
                have r8 : ¬ (s[k].toNat : Int) < 48 := by omega
                have q9 : 57 < s[k].toNat := by omega
                have r9 : (57 : Int) < (s[k].toNat : Int) := by omega
                clear q1 q3 q5
                go_wp2
                go_ret
                exact ⟨by rw [← HL.out, Hno.out]; rfl, rfl⟩
              · have r1 : ¬ (97 : Int) ≤ (s[k].toNat : Int) := by omega
                by_cases q8 : s[k].toNat < 48
                · have r8 : (s[k].toNat : Int) < 48 := by omega
                  clear q1 q3 q5
                  go_wp2
                  go_ret
                  exact ⟨by rw [← HL.out, Hno.out]; rfl, rfl⟩
                · have r8 : ¬ (s[k].toNat : Int) < 48 := by omega
                  have q9 : 57 < s[k].toNat := by omega
                  have r9 : (57 : Int) < (s[k].toNat : Int) := by omega
                  clear q1 q3 q5
                  go_wp2
                  go_ret
                  exact ⟨by rw [← HL.out, Hno.out]; rfl, rfl⟩
    · obtain rfl : k = s.size := by omega
      have hy : L = true := by rw [← HL.out]; exact (legalB_iff s).2 ⟨by omega, by omega, fun j hj => Hok.out j hj hj⟩
      subst hy
      clear hlt Hgk
      go_wp2
      go_ret
      exact ⟨rfl, rfl⟩

set_option maxHeartbeats 4000000 in
theorem rlegal (w : World) (s : ByteArray) (hs : s.size ≤ maxLen) : Calls Tryd.prog 35 #[.string s] w fun e w' => e = .returned (.bool (legalB s)) ∧ w' = w := by
  unfold maxLen at hs
  obtain ⟨L, hL⟩ : ∃ L, legalB s = L := ⟨_, rfl⟩
  rw [hL]
  have HL := Lib.hid hL
  clear hL
  go_enter Tryd.func35, Tryd.ntmps35
  go_wp2
  go_loopg [3] s.size (fun gn i wr => lgR w s gn i wr)
  case atStart => exact ⟨0, rfl, Nat.zero_le _, rfl, fun j _ hj => by omega, rfl⟩
  case round =>
    obtain ⟨k, hgk, hk, rfl, hok, rfl⟩ := hrel
    have Hgk := Lib.hid hgk
    have Hok := Lib.hid hok
    clear hgk hok
    by_cases hlt : k < s.size
    · have i0 : (k : Int) < (s.size : Int) := by omega
      by_cases q1 : 97 ≤ s[k].toNat ∧ s[k].toNat ≤ 122
      · obtain ⟨q1, q2⟩ := q1
        have r1 : (97 : Int) ≤ (s[k].toNat : Int) := by omega
        have r2 : (s[k].toNat : Int) ≤ 122 := by omega
        have hst := lgR_next s k hlt Hok.out (by unfold okName; rw [decide_eq_true r1, decide_eq_true r2]; rfl)
        have Hst := Lib.hid hst
        clear hst
        go_wp2
        go_roundg (s.size - (k + 1))
        case measure => have := Hgk.out; omega
        case rel => exact ⟨k + 1, rfl, by omega, by go_num, Hst.out, rfl⟩
      · have hl : (decide ((97 : Int) ≤ (s[k].toNat : Int)) && decide ((s[k].toNat : Int) ≤ 122)) = false := by
          cases hd : (decide ((97 : Int) ≤ (s[k].toNat : Int)) && decide ((s[k].toNat : Int) ≤ 122)) with
          | false => rfl
          | true => simp only [Bool.and_eq_true, decide_eq_true_eq] at hd; omega
        have Hl := Lib.hid hl
        clear hl
        by_cases hk0 : k = 0
        · subst hk0
          have hno := legalB_no s 0 hlt (by unfold okName; rw [Hl.out]; rfl)
          have Hno := Lib.hid hno
          clear hno
          by_cases q2 : 97 ≤ s[0].toNat
          · have r1 : (97 : Int) ≤ (s[0].toNat : Int) := by omega
            have q3 : ¬ s[0].toNat ≤ 122 := by omega
            have r2 : ¬ (s[0].toNat : Int) ≤ 122 := by omega
            clear q1
            go_wp2
            go_ret
            exact ⟨by rw [← HL.out, Hno.out]; rfl, rfl⟩
          · have r1 : ¬ (97 : Int) ≤ (s[0].toNat : Int) := by omega
            clear q1
            go_wp2
            go_ret
            exact ⟨by rw [← HL.out, Hno.out]; rfl, rfl⟩
        · have hkb : (k == 0) = false := beq_eq_false_iff_ne.2 hk0
          have hki : ((k : Int) == 0) = false := beq_eq_false_iff_ne.2 (by omega)
          by_cases q3 : s[k].toNat = 45
          · have b3 : ((s[k].toNat : Int) == 45) = true := beq_iff_eq.2 (by omega)
            have b4 : ((s[k].toNat : Int) != 45) = false := by simp [bne, b3]
            have hst := lgR_next s k hlt Hok.out (by unfold okName; rw [Hl.out, hkb, b3]; rfl)
            have Hst := Lib.hid hst
            have q4 : ¬ 97 ≤ s[k].toNat := by omega
            have r4 : ¬ (97 : Int) ≤ (s[k].toNat : Int) := by omega
            clear hst q1 q3
            go_wp2
            go_roundg (s.size - (k + 1))
            case measure => have := Hgk.out; omega
            case rel => exact ⟨k + 1, rfl, by omega, by go_num, Hst.out, rfl⟩
          · have b3 : ((s[k].toNat : Int) == 45) = false := beq_eq_false_iff_ne.2 (by omega)
            have b4 : ((s[k].toNat : Int) != 45) = true := by simp [bne, b3]
            by_cases q5 : 48 ≤ s[k].toNat ∧ s[k].toNat ≤ 57
            · obtain ⟨q5, q6⟩ := q5
              have r5 : (48 : Int) ≤ (s[k].toNat : Int) := by omega
              have r6 : (s[k].toNat : Int) ≤ 57 := by omega
              have hst := lgR_next s k hlt Hok.out (by unfold okName; rw [Hl.out, hkb, b3, decide_eq_true r5, decide_eq_true r6]; rfl)
              have Hst := Lib.hid hst
              have q4 : ¬ 97 ≤ s[k].toNat := by omega
              have r4 : ¬ (97 : Int) ≤ (s[k].toNat : Int) := by omega
              clear hst q1 q3
              go_wp2
              go_roundg (s.size - (k + 1))
              case measure => have := Hgk.out; omega
              case rel => exact ⟨k + 1, rfl, by omega, by go_num, Hst.out, rfl⟩
            · have hd : (decide ((48 : Int) ≤ (s[k].toNat : Int)) && decide ((s[k].toNat : Int) ≤ 57)) = false := by
                cases hd : (decide ((48 : Int) ≤ (s[k].toNat : Int)) && decide ((s[k].toNat : Int) ≤ 57)) with
                | false => rfl
                | true => simp only [Bool.and_eq_true, decide_eq_true_eq] at hd; omega
              have hno := legalB_no s k hlt (by unfold okName; rw [Hl.out, hkb, b3, hd]; rfl)
              have Hno := Lib.hid hno
              clear hno hd
              by_cases q6 : 97 ≤ s[k].toNat
              · have r1 : (97 : Int) ≤ (s[k].toNat : Int) := by omega
                have q7 : ¬ s[k].toNat ≤ 122 := by omega
                have r7 : ¬ (s[k].toNat : Int) ≤ 122 := by omega
                have q8 : ¬ s[k].toNat < 48 := by omega
                have r8 : ¬ (s[k].toNat : Int) < 48 := by omega
                have q9 : 57 < s[k].toNat := by omega
                have r9 : (57 : Int) < (s[k].toNat : Int) := by omega
                clear q1 q3 q5
                go_wp2
                go_ret
                exact ⟨by rw [← HL.out, Hno.out]; rfl, rfl⟩
              · have r1 : ¬ (97 : Int) ≤ (s[k].toNat : Int) := by omega
                by_cases q8 : s[k].toNat < 48
                · have r8 : (s[k].toNat : Int) < 48 := by omega
                  clear q1 q3 q5
                  go_wp2
                  go_ret
                  exact ⟨by rw [← HL.out, Hno.out]; rfl, rfl⟩
                · have r8 : ¬ (s[k].toNat : Int) < 48 := by omega
                  have q9 : 57 < s[k].toNat := by omega
                  have r9 : (57 : Int) < (s[k].toNat : Int) := by omega
                  clear q1 q3 q5
                  go_wp2
                  go_ret
                  exact ⟨by rw [← HL.out, Hno.out]; rfl, rfl⟩
    · obtain rfl : k = s.size := by omega
      by_cases h1 : 1 ≤ s.size
      · have r1 : (1 : Int) ≤ (s.size : Int) := by omega
        by_cases h2 : s.size ≤ 32
        · have r2 : (s.size : Int) ≤ 32 := by omega
          have hy : L = true := by rw [← HL.out]; exact (legalB_iff s).2 ⟨by omega, by omega, fun j hj => Hok.out j hj hj⟩
          subst hy
          clear hlt Hgk
          go_wp2
          go_ret
          exact ⟨rfl, rfl⟩
        · have r2 : ¬ (s.size : Int) ≤ 32 := by omega
          have hy : L = false := by
            rw [← HL.out]
            cases hl : legalB s with
            | false => rfl
            | true => have := ((legalB_iff s).1 hl).2.1; omega
          subst hy
          clear hlt Hgk
          go_wp2
          go_ret
          exact ⟨rfl, rfl⟩
      · have r1 : ¬ (1 : Int) ≤ (s.size : Int) := by omega
        have hy : L = false := by
          rw [← HL.out]
          cases hl : legalB s with
          | false => rfl
          | true => have := ((legalB_iff s).1 hl).1; omega
        subst hy
        clear hlt Hgk
        go_wp2
        go_ret
        exact ⟨rfl, rfl⟩
end CD
end Go.Proofs.YtnehiooioodkfaaDoor
