/-
  SHELF.TABLE[int, *keel/units.holder]: its rows, and where a key's row stands.
-/
import Derived.Test.YtefagdbdimpcdaaTIH
import Derived.Test.YtefagdbdimpcdaaTab0
import Derived.Outline
import Derived.Lib.Hide
import Derived.Deep.Light
import Derived.Deep.RegionWith
import Derived.LoopTactic
import Derived.Deep.LoopGhost
import Derived.WalkLawsBesides
set_option linter.unusedVariables false
set_option linter.unusedSimpArgs false
namespace Go.Proofs.Ytefagdbdimpcdaa
open Go Go.RowKit
namespace TIH

abbrev R := (Int × Nat)
/-- What comparing answers. -/
def cmpI (a b : Int) : Int := if a < b then -1 else if b < a then 1 else 0

set_option maxHeartbeats 400000 in
theorem cmp (w : World) (r : R) (k : Int) : Calls Try.prog 87 #[.agg #[.int .i64 r.1, .pointer (some ⟨r.2, 0, none⟩)], .int .i64 k] w fun e w' => e = .returned (.int .i64 (cmpI r.1 k)) ∧ Below w.heap.size w w' := by
  unfold cmpI
  by_cases h1 : r.1 < k
  · rw [if_pos h1]
    go_enter Try.func87, Try.ntmps87
    go_wp2
    go_ret
    refine ⟨rfl, ?_⟩
    repeat (first | (with_reducible assumption) | (with_reducible exact Below.refl _ _) | (with_reducible refine Below.drew ?_) | (with_reducible refine bdN ?_ _) | ((with_reducible refine bdS ?_ ?_ _); · first | (simp; done) | omega | (simp; omega)) | ((with_reducible refine bdA ?_ ?_ _); · first | (simp; done) | omega | (simp; omega)))
  · rw [if_neg h1]
    by_cases h2 : k < r.1
    · rw [if_pos h2]
      go_enter Try.func87, Try.ntmps87
      go_wp2
      go_ret
      refine ⟨rfl, ?_⟩
      repeat (first | (with_reducible assumption) | (with_reducible exact Below.refl _ _) | (with_reducible refine Below.drew ?_) | (with_reducible refine bdN ?_ _) | ((with_reducible refine bdS ?_ ?_ _); · first | (simp; done) | omega | (simp; omega)) | ((with_reducible refine bdA ?_ ?_ _); · first | (simp; done) | omega | (simp; omega)))
    · rw [if_neg h2]
      go_enter Try.func87, Try.ntmps87
      go_wp2
      go_ret
      refine ⟨rfl, ?_⟩
      repeat (first | (with_reducible assumption) | (with_reducible exact Below.refl _ _) | (with_reducible refine Below.drew ?_) | (with_reducible refine bdN ?_ _) | ((with_reducible refine bdS ?_ ?_ _); · first | (simp; done) | omega | (simp; omega)) | ((with_reducible refine bdA ?_ ?_ _); · first | (simp; done) | omega | (simp; omega)))

/-- i is the place of k: the rows ahead of it have less, the others have not. -/
def Pos (rows : List R) (k : Int) (i : Nat) : Prop :=
  i ≤ rows.length ∧ (∀ (t : Nat) (r : R), rows[t]? = some r → t < i → r.1 < k) ∧ (∀ (t : Nat) (r : R), rows[t]? = some r → i ≤ t → k ≤ r.1)
def foundB (rows : List R) (k : Int) (i : Nat) : Bool := match rows[i]? with
  | some r => decide (r.1 = k)
  | none => false

/-- What the search's loop keeps. -/
def bsRel (w : World) (n i : Nat) (a b : Value) (wr : World) : Prop := ∃ x y : Nat, x ≤ i ∧ i ≤ y ∧ y ≤ n ∧ a = .int .i64 (x : Int) ∧ b = .int .i64 (y : Int) ∧ Below w.heap.size w wr

set_option maxRecDepth 100000 in
set_option maxHeartbeats 2000000 in
theorem bsf (w : World) (v : Value) (rows : List R) (k : Int) (i : Nat) (hr : Reads w v rows.length (css rows)) (hP : Pos rows k i) (hn : rows.length ≤ 1099511627776) :
    Calls Try.prog 86 #[v, .int .i64 k, .func (.func 87) #[] #[]] w fun e w' => e = .returned (.tuple #[.int .i64 (i : Int), .bool (foundB rows k i)]) ∧ Below w.heap.size w w' := by
  obtain ⟨A, c, rfl, rd⟩ : ∃ A c, v = .slice A rows.length c ∧ (0 < rows.length → ∃ g off, A = some ⟨g, off, none⟩ ∧ ∀ j u, (css rows)[j]? = some u → w.cell? ⟨g, off + j, none⟩ = some u) := by
    rcases hr with ⟨rfl, h0, -⟩ | ⟨g, off, cap, rfl, -, hc⟩
    · exact ⟨none, 0, by rw [h0], fun h => by omega⟩
    · exact ⟨_, cap, rfl, fun _ => ⟨g, off, rfl, hc⟩⟩
  obtain ⟨hi, hP1, hP2⟩ := hP
  have Rd := Lib.hid rd
  have HP1 := Lib.hid hP1
  have HP2 := Lib.hid hP2
  clear rd hr hP1 hP2
  go_enter Try.func86, Try.ntmps86
  go_wp2
  go_loopw [9, 10] (fun a b wr => bsRel w rows.length i a b wr) (fun a b _ => (intOf b).toNat - (intOf a).toNat)
  case atStart => exact ⟨0, rows.length, Nat.zero_le _, hi, Nat.le_refl _, rfl, rfl, Below.refl _ _⟩
  case round =>
    obtain ⟨x, y, hx, hy, hyn, rfl, rfl, hb⟩ := hrel
    by_cases hlt : x < y
    · obtain ⟨r, hrow⟩ : ∃ r, rows[(x + y) / 2]? = some r := ⟨_, List.getElem?_eq_getElem (by omega)⟩
      obtain ⟨h, hh, hxh, hhy, hrow⟩ : ∃ h : Nat, ((x : Int) + (y : Int)) / 2 = (h : Int) ∧ x ≤ h ∧ h < y ∧ rows[h]? = some r := ⟨(x + y) / 2, by omega, by omega, by omega, hrow⟩
      obtain ⟨g, off, rfl, hcell⟩ := Rd.out (by omega)
      have e0 := (hb.cell (World.block_lt_of_cell? w _ (hcell (h * 2 + 0) _ (css_at rows h r hrow 0 _ rfl (by omega))))).trans (hcell (h * 2 + 0) _ (css_at rows h r hrow 0 _ rfl (by omega)))
      have e1 := (hb.cell (World.block_lt_of_cell? w _ (hcell (h * 2 + 1) _ (css_at rows h r hrow 1 _ rfl (by omega))))).trans (hcell (h * 2 + 1) _ (css_at rows h r hrow 1 _ rfl (by omega)))
      simp only [Nat.add_zero, ← Nat.add_assoc] at e0 e1
      have i0 : (h : Int) < (rows.length : Int) := by omega
      clear hcell
      by_cases hl : r.1 < k
      · have hhi : h < i := by
          rcases Nat.lt_or_ge h i with c | c
          · exact c
          · exact absurd hl (by have := HP2.out h r hrow c; omega)
        have hcmp := cmp wr r k
        rw [cmpI, if_pos hl] at hcmp
        have Hcmp := Lib.hid hcmp
        have Hl := Lib.hid hl
        have Hrow := Lib.hid hrow
        clear hl hcmp hrow
        go_wp2_with fail
        refine Hcmp.out.mono ?_
        rintro e w2 ⟨rfl, hb2⟩
        have hb3 := hb.trans (hb2.mono hb.size)
        go_wp2
        exact ⟨⟨h + 1, y, by omega, hy, hyn, by go_num, rfl, hb3⟩, by simp only [intOf]; omega⟩
      · have hhi : i ≤ h := by
          rcases Nat.lt_or_ge h i with c | c
          · exact absurd (HP1.out h r hrow c) hl
          · exact c
        have hcmp := cmp wr r k
        have hge : ¬ cmpI r.1 k < 0 := by
          rw [cmpI, if_neg hl]
          split <;> omega
        have Hcmp := Lib.hid hcmp
        have Hrow := Lib.hid hrow
        clear hl hcmp hrow
        go_wp2_with fail
        refine Hcmp.out.mono ?_
        rintro e w2 ⟨rfl, hb2⟩
        have hb3 := hb.trans (hb2.mono hb.size)
        go_wp2
        exact ⟨⟨x, h, hx, hhi, by omega, rfl, rfl, hb3⟩, by simp only [intOf]; omega⟩
    · obtain rfl : x = i := by omega
      obtain rfl : y = x := by omega
      by_cases hin : y < rows.length
      · obtain ⟨r, hrow⟩ : ∃ r, rows[y]? = some r := ⟨_, List.getElem?_eq_getElem hin⟩
        obtain ⟨g, off, rfl, hcell⟩ := Rd.out (by omega)
        have e0 := (hb.cell (World.block_lt_of_cell? w _ (hcell (y * 2 + 0) _ (css_at rows y r hrow 0 _ rfl (by omega))))).trans (hcell (y * 2 + 0) _ (css_at rows y r hrow 0 _ rfl (by omega)))
        have e1 := (hb.cell (World.block_lt_of_cell? w _ (hcell (y * 2 + 1) _ (css_at rows y r hrow 1 _ rfl (by omega))))).trans (hcell (y * 2 + 1) _ (css_at rows y r hrow 1 _ rfl (by omega)))
        simp only [Nat.add_zero, ← Nat.add_assoc] at e0 e1
        have i0 : (y : Int) < (rows.length : Int) := by omega
        have hge := HP2.out y r hrow (Nat.le_refl _)
        have hf : foundB rows k y = (cmpI r.1 k == 0) := by
          unfold foundB cmpI
          rw [hrow, if_neg (show ¬ (r.1 < k) by omega)]
          by_cases h2 : k < r.1
          · rw [if_pos h2]
            simp only [Int.reduceBEq]
            exact decide_eq_false (by omega)
          · rw [if_neg h2]
            simp only [beq_self_eq_true]
            exact decide_eq_true (by omega)
        have hcmp := cmp wr r k
        have Hcmp := Lib.hid hcmp
        have Hf := Lib.hid hf
        clear hcmp hcell hrow hf hge
        go_wp2_with fail
        refine Hcmp.out.mono ?_
        rintro e w2 ⟨rfl, hb2⟩
        have hb3 := hb.trans (hb2.mono hb.size)
        go_wp2
        go_ret2
        exact ⟨by rw [Hf.out]; rfl, hb3⟩
      · have hf : foundB rows k y = false := by
          unfold foundB
          rw [List.getElem?_eq_none (by omega)]
        have i0 : ¬ (y : Int) < (rows.length : Int) := by omega
        have Hf := Lib.hid hf
        clear hf
        go_wp2
        go_ret2
        exact ⟨by rw [Hf.out]; rfl, hb⟩

end TIH
end Go.Proofs.Ytefagdbdimpcdaa
