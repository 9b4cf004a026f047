/-
  SHELF.TABLE[int, *keel/units.holder], in plain words: rows whose keys rise.
-/
import Derived.Test.YtefagdbdimpcdaaTIHF
set_option linter.unusedVariables false
set_option linter.unusedSimpArgs false
namespace Go.Proofs.Ytefagdbdimpcdaa
open Go Go.RowKit
namespace TIH

/-- The keys rise. -/
def Rise (rows : List R) : Prop := rows.Pairwise fun a b => a.1 < b.1
/-- The place of k. -/
def posN (k : Int) : List R → Nat
  | [] => 0
  | r :: rs => if r.1 < k then posN k rs + 1 else 0
theorem posN_pos (k : Int) : ∀ (rows : List R), Rise rows → Pos rows k (posN k rows)
  | [], _ => ⟨Nat.le_refl _, fun t r h => by simp at h, fun t r h => by simp at h⟩
  | r :: rs, h => by
    obtain ⟨h1, h2⟩ := List.pairwise_cons.1 h
    obtain ⟨i1, i2, i3⟩ := posN_pos k rs h2
    by_cases hk : r.1 < k
    · rw [posN, if_pos hk]
      refine ⟨by simp only [List.length_cons]; omega, fun t x ht hlt => ?_, fun t x ht hle => ?_⟩
      · cases t with
        | zero => obtain rfl : r = x := by simpa using ht
                  exact hk
        | succ t => exact i2 t x (by simpa using ht) (by omega)
      · cases t with
        | zero => omega
        | succ t => exact i3 t x (by simpa using ht) (by omega)
    · rw [posN, if_neg hk]
      refine ⟨Nat.zero_le _, fun t x ht hlt => by omega, fun t x ht _ => ?_⟩
      cases t with
      | zero => obtain rfl : r = x := by simpa using ht
                omega
      | succ t =>
        have := h1 x (List.mem_of_getElem? (i := t) (by simpa using ht))
        omega
/-- Has k something? -/
def has (rows : List R) (k : Int) : Bool := foundB rows k (posN k rows)
theorem has_iff (rows : List R) (h : Rise rows) (k : Int) : has rows k = true ↔ ∃ r ∈ rows, r.1 = k := by
  constructor
  · intro hf
    obtain ⟨r, hr, hk⟩ := foundB_some hf
    exact ⟨r, List.mem_of_getElem? hr, hk⟩
  · rintro ⟨r, hr, hk⟩
    obtain ⟨t, ht⟩ := List.mem_iff_getElem?.1 hr
    obtain ⟨i1, i2, i3⟩ := posN_pos k rows h
    have h1 : ¬ t < posN k rows := fun hlt => by have := i2 t r ht hlt; omega
    have h2 : ¬ posN k rows < t := fun hlt => by
      have htl := (List.getElem?_eq_some_iff.1 ht).1
      have hp : rows[posN k rows]? = some rows[posN k rows] := List.getElem?_eq_getElem (by omega)
      have := i3 _ _ hp (Nat.le_refl _)
      have h4 := List.pairwise_iff_getElem.1 h _ t (by omega) htl hlt
      have h5 : rows[t] = r := (List.getElem?_eq_some_iff.1 ht).2
      rw [h5] at h4
      omega
    have h3 : t = posN k rows := by omega
    exact foundB_yes (h3 ▸ ht) hk
/-- Set. -/
def setT (rows : List R) (k : Int) (v : Nat) : List R := if has rows k = true then rows.set (posN k rows) (k, v) else insR rows (posN k rows) (k, v)
/-- Delete. -/
def delT (rows : List R) (k : Int) : List R := if has rows k = true then rows.eraseIdx (posN k rows) else rows
theorem setT_length (rows : List R) (h : Rise rows) (k : Int) (v : Nat) : (setT rows k v).length = rows.length + if has rows k = true then 0 else 1 := by
  unfold setT
  split
  · rw [List.length_set]; omega
  · rw [insR_length _ _ _ (posN_pos k rows h).1]
theorem delT_length (rows : List R) (k : Int) : (delT rows k).length ≤ rows.length := by
  unfold delT
  split
  · rw [List.length_eraseIdx]; split <;> omega
  · exact Nat.le_refl _
theorem setT_keys (rows : List R) (h : Rise rows) (k : Int) (v : Nat) (hf : has rows k = true) : (setT rows k v).map (·.1) = rows.map (·.1) := by
  unfold setT
  rw [if_pos hf, List.map_set]
  obtain ⟨r, hr, hk⟩ := foundB_some hf
  refine set_same _ _ _ ?_
  rw [List.getElem?_map, hr, ← hk]; rfl
theorem rise_map (rows : List R) : Rise rows ↔ (rows.map (·.1)).Pairwise (· < ·) := by
  unfold Rise
  rw [List.pairwise_map]
theorem setT_rise (rows : List R) (h : Rise rows) (k : Int) (v : Nat) : Rise (setT rows k v) := by
  by_cases hf : has rows k = true
  · rw [rise_map, setT_keys rows h k v hf, ← rise_map]; exact h
  · unfold setT
    rw [if_neg hf]
    obtain ⟨i1, i2, i3⟩ := posN_pos k rows h
    have hno : ∀ r ∈ rows, r.1 ≠ k := fun r hr e => hf ((has_iff rows h k).2 ⟨r, hr, e⟩)
    unfold insR Rise
    rw [List.append_assoc, List.pairwise_append, List.pairwise_append]
    have hP : (rows.take (posN k rows) ++ rows.drop (posN k rows)).Pairwise fun a b => a.1 < b.1 := by rw [List.take_append_drop]; exact h
    obtain ⟨q1, q2, q3⟩ := List.pairwise_append.1 hP
    refine ⟨q1, ⟨List.pairwise_singleton _ _, q2, ?_⟩, ?_⟩
    · intro a ha b hb
      rw [List.mem_singleton.1 ha]
      obtain ⟨t, ht⟩ := List.mem_iff_getElem?.1 hb
      rw [List.getElem?_drop] at ht
      have := i3 _ b ht (by omega)
      have := hno b (List.mem_of_mem_drop hb)
      simp only; omega
    · intro a ha b hb
      rcases List.mem_append.1 hb with hb | hb
      · rw [List.mem_singleton.1 hb]
        obtain ⟨t, ht⟩ := List.mem_iff_getElem?.1 ha
        rw [List.getElem?_take] at ht
        split at ht
        · exact i2 t a ht (by assumption)
        · cases ht
      · exact q3 a ha b hb
theorem setT_has (rows : List R) (h : Rise rows) (k k' : Int) (v : Nat) : has (setT rows k v) k' = (decide (k' = k) || has rows k') := by
  have key : has (setT rows k v) k' = true ↔ k' = k ∨ has rows k' = true := by
    rw [has_iff _ (setT_rise rows h k v), has_iff rows h]
    unfold setT
    split
    · rename_i hf
      obtain ⟨r, hr, hk⟩ := foundB_some hf
      constructor
      · rintro ⟨x, hx, rfl⟩
        rcases List.mem_or_eq_of_mem_set hx with hx | rfl
        · exact .inr ⟨x, hx, rfl⟩
        · exact .inl rfl
      · rintro (rfl | ⟨x, hx, rfl⟩)
        · exact ⟨(k', v), List.mem_set (List.getElem?_eq_some_iff.1 hr).1 _, rfl⟩
        · have hm : x.1 ∈ (rows.set (posN k rows) (k, v)).map (·.1) := by
            have := setT_keys rows h k v hf
            unfold setT at this
            rw [if_pos hf] at this
            rw [this]
            exact List.mem_map_of_mem hx
          obtain ⟨y, hy, he⟩ := List.mem_map.1 hm
          exact ⟨y, hy, he⟩
    · constructor
      · rintro ⟨x, hx, rfl⟩
        unfold insR at hx
        rcases List.mem_append.1 hx with hx | hx
        · rcases List.mem_append.1 hx with hx | hx
          · exact .inr ⟨x, List.mem_of_mem_take hx, rfl⟩
          · rw [List.mem_singleton.1 hx]; exact .inl rfl
        · exact .inr ⟨x, List.mem_of_mem_drop hx, rfl⟩
      · rintro (rfl | ⟨x, hx, rfl⟩)
        · exact ⟨(k', v), by simp [insR], rfl⟩
        · refine ⟨x, ?_, rfl⟩
          rw [← List.take_append_drop (posN k rows) rows] at hx
          unfold insR
          rcases List.mem_append.1 hx with hx | hx
          · exact List.mem_append.2 (.inl (List.mem_append.2 (.inl hx)))
          · exact List.mem_append.2 (.inr hx)
  by_cases e : k' = k
  · rw [key.2 (.inl e), decide_eq_true e]; rfl
  · rw [decide_eq_false e, Bool.false_or, Bool.eq_iff_iff, key]
    simp [e]
theorem delT_rise (rows : List R) (h : Rise rows) (k : Int) : Rise (delT rows k) := by
  unfold delT
  split
  · exact h.sublist (List.eraseIdx_sublist _ _)
  · exact h

theorem setQ (w : World) (ow : Ow) (p : List Nat) (g o : Nat) (rows : List R) (k : Int) (v : Nat) (h : TbP w ow p g o rows) (hR : Rise rows) (hn : rows.length ≤ 1099511627776) :
    Calls Try.prog 50 #[.pointer (some ⟨g, o, none⟩), .int .i64 k, .pointer (some ⟨v, 0, none⟩)] w (TbL w ow p g o (.bool (!has rows k)) (setT rows k v)) := by
  have hP := posN_pos k rows hR
  unfold setT
  by_cases hf : has rows k = true
  · rw [if_pos hf, hf]
    obtain ⟨r, hr, hk⟩ := foundB_some hf
    have := t_set_old w ow p g o rows k v _ r h hP hr hk hn
    rw [hk] at this
    exact this
  · rw [if_neg hf, Bool.eq_false_iff.2 hf]
    exact t_set_new w ow p g o rows k v _ h hP (Bool.eq_false_iff.2 hf) hn
theorem delQ (w : World) (ow : Ow) (p : List Nat) (g o : Nat) (rows : List R) (k : Int) (h : TbP w ow p g o rows) (hR : Rise rows) (hn : rows.length ≤ 1099511627776) :
    Calls Try.prog 81 #[.pointer (some ⟨g, o, none⟩), .int .i64 k] w (TbL w ow p g o (.bool (has rows k)) (delT rows k)) := by
  have hP := posN_pos k rows hR
  unfold delT
  by_cases hf : has rows k = true
  · rw [if_pos hf, hf]
    obtain ⟨r, hr, hk⟩ := foundB_some hf
    exact t_delete_yes w ow p g o rows k _ r h hP hr hk hn
  · rw [if_neg hf, Bool.eq_false_iff.2 hf]
    exact (t_delete_no w ow p g o rows k _ h hP (Bool.eq_false_iff.2 hf) hn).mono fun e w' ⟨he, hb⟩ => ⟨ow, he, h.new_ (hb.nw ow), (hb.nw ow).turn p⟩
end TIH
end Go.Proofs.Ytefagdbdimpcdaa
