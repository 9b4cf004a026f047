/-
  KEELREF1.ROWS: Keys: the keys, sorted.
-/
import Derived.Test.YtppikbdeopagkaaRW2
set_option linter.unusedVariables false
set_option linter.unusedSimpArgs false
namespace Go.Proofs.Ytppikbdeopagkaa
open Go Go.RowKit
namespace RW
open EInt

/-- Sorted up to place i, but for what stands at place j. -/
def Hole (zs : List Int) (i j : Nat) : Prop := ∀ a b x y, a < b → b ≤ i → b ≠ j → zs[a]? = some x → zs[b]? = some y → x ≤ y
def Srt (zs : List Int) (i : Nat) : Prop := ∀ a b x y, a < b → b < i → zs[a]? = some x → zs[b]? = some y → x ≤ y
theorem Srt.hole {zs : List Int} {i : Nat} (h : Srt zs i) : Hole zs i i := fun a b x y hab hbi hbj hx hy => h a b x y hab (by omega) hx hy
theorem Hole.zero {zs : List Int} {i : Nat} (h : Hole zs i 0) : Srt zs (i + 1) := fun a b x y hab hbi hx hy => h a b x y hab (by omega) (by omega) hx hy
theorem Hole.stop {zs : List Int} {i j : Nat} {u v : Int} (h : Hole zs i (j + 1)) (hu : zs[j]? = some u) (hv : zs[j + 1]? = some v) (hle : u ≤ v) (hj : j + 1 ≤ i) : Srt zs (i + 1) := fun a b x y hab hbi hx hy => by
  by_cases e : b = j + 1
  · subst e
    rw [hv] at hy
    obtain rfl := Option.some.inj hy
    by_cases e2 : a = j
    · subst e2
      rw [hu] at hx
      obtain rfl := Option.some.inj hx
      exact hle
    · have := h a j x u (by omega) (by omega) (by omega) hx hu
      omega
  · exact h a b x y hab (by omega) e hx hy
/-- Places j and j + 1 change their contents. -/
def swp (zs : List Int) (j : Nat) (u v : Int) : List Int := (zs.set (j + 1) u).set j v
theorem swp_get (zs : List Int) (j : Nat) (u v : Int) (hj : j + 1 < zs.length) (a : Nat) : (swp zs j u v)[a]? = if a = j then some v else if a = j + 1 then some u else zs[a]? := by
  unfold swp
  by_cases e : a = j
  · subst e
    rw [if_pos rfl, List.getElem?_set_self (by rw [List.length_set]; omega)]
  · rw [if_neg e, List.getElem?_set_ne (Ne.symm e)]
    by_cases e2 : a = j + 1
    · subst e2; rw [if_pos rfl, List.getElem?_set_self (by omega)]
    · rw [if_neg e2, List.getElem?_set_ne (Ne.symm e2)]
theorem Hole.swap {zs : List Int} {i j : Nat} {u v : Int} (h : Hole zs i (j + 1)) (hu : zs[j]? = some u) (hv : zs[j + 1]? = some v) (hlt : v < u) (hj : j + 1 ≤ i) : Hole (swp zs j u v) i j := fun a b x y hab hbi hbj hx hy => by
  have hl := (List.getElem?_eq_some_iff.1 hv).1
  rw [swp_get zs j u v hl] at hx hy
  rw [if_neg hbj] at hy
  by_cases e : b = j + 1
  · rw [if_pos e] at hy
    obtain rfl := Option.some.inj hy
    by_cases e2 : a = j
    · rw [if_pos e2] at hx
      obtain rfl := Option.some.inj hx
      omega
    · rw [if_neg e2, if_neg (by omega)] at hx
      exact h a j x _ (by omega) (by omega) (by omega) hx hu
  · rw [if_neg e] at hy
    by_cases e2 : a = j
    · rw [if_pos e2] at hx
      obtain rfl := Option.some.inj hx
      exact h (j + 1) b _ y (by omega) hbi e hv hy
    · rw [if_neg e2] at hx
      by_cases e3 : a = j + 1
      · rw [if_pos e3] at hx
        obtain rfl := Option.some.inj hx
        exact h j b _ y (by omega) hbi e hu hy
      · rw [if_neg e3] at hx
        exact h a b x y hab hbi e hx hy
theorem swp_perm (zs : List Int) (j : Nat) (u v : Int) (hu : zs[j]? = some u) (hv : zs[j + 1]? = some v) : (swp zs j u v).Perm zs := by
  have hl := (List.getElem?_eq_some_iff.1 hv).1
  have e : zs = zs.take j ++ u :: v :: zs.drop (j + 2) := by
    have h1 : zs.drop j = u :: zs.drop (j + 1) := by
      rw [List.drop_eq_getElem_cons (by omega)]
      have := (List.getElem?_eq_some_iff.1 hu).2
      rw [this]
    have h2 : zs.drop (j + 1) = v :: zs.drop (j + 2) := by
      rw [List.drop_eq_getElem_cons hl]
      have := (List.getElem?_eq_some_iff.1 hv).2
      rw [this]
    rw [← h2, ← h1, List.take_append_drop]
  have e2 : swp zs j u v = zs.take j ++ v :: u :: zs.drop (j + 2) := by
    apply List.ext_getElem?
    intro a
    rw [swp_get zs j u v hl]
    have hlen : (zs.take j).length = j := by rw [List.length_take]; omega
    by_cases h1 : a < j
    · rw [if_neg (by omega), if_neg (by omega), List.getElem?_append_left (by omega), List.getElem?_take, if_pos h1]
    · rw [List.getElem?_append_right (by omega), hlen]
      by_cases h2 : a = j
      · subst h2; simp
      · by_cases h3 : a = j + 1
        · subst h3; simp
        · obtain ⟨c, rfl⟩ : ∃ c, a = j + 2 + c := ⟨a - (j + 2), by omega⟩
          rw [if_neg h2, if_neg h3, show j + 2 + c - j = c + 2 by omega]
          simp [List.getElem?_drop]
  rw [e2]
  conv => rhs; rw [e]
  exact List.Perm.append_left _ (List.Perm.swap _ _ _)
theorem swp_length (zs : List Int) (j : Nat) (u v : Int) : (swp zs j u v).length = zs.length := by simp [swp]
end RW
end Go.Proofs.Ytppikbdeopagkaa
