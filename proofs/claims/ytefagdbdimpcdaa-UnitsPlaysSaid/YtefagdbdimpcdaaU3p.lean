/-
  UNITS.TABLE: plain words for what turns it.
-/
import Derived.Test.YtefagdbdimpcdaaU2
set_option linter.unusedVariables false
set_option linter.unusedSimpArgs false
namespace Go.Proofs.Ytefagdbdimpcdaa
open Go Go.RowKit
namespace UN

theorem perm_at {α : Type} {l : List α} {b : Nat} {y : α} (h : l[b]? = some y) : l.Perm (y :: l.eraseIdx b) := by
  obtain ⟨h1, rfl⟩ := List.getElem?_eq_some_iff.1 h
  rw [List.eraseIdx_eq_take_drop_succ]
  conv => lhs; rw [← List.take_append_drop b l, List.drop_eq_getElem_cons h1]
  exact List.perm_middle
theorem keys_nodup {rows : List (Int × Nat)} (h : TIH.Rise rows) : (rows.map (·.1)).Nodup := ((TIH.rise_map rows).1 h).imp fun hab => Int.ne_of_lt hab
/-- What is left when a row goes. -/
theorem erase_mem {rows : List (Int × Nat)} (h : TIH.Rise rows) {i : Nat} {r0 : Int × Nat} (hr : rows[i]? = some r0) (r : Int × Nat) : r ∈ rows.eraseIdx i ↔ r ∈ rows ∧ r.1 ≠ r0.1 := by
  have hp := perm_at hr
  have hn : ((r0 :: rows.eraseIdx i).map (·.1)).Nodup := (hp.map (·.1)).nodup_iff.1 (keys_nodup h)
  rw [List.map_cons] at hn
  obtain ⟨h1, -⟩ := List.nodup_cons.1 hn
  constructor
  · intro hm
    exact ⟨hp.mem_iff.2 (List.mem_cons_of_mem _ hm), fun e => h1 (e ▸ List.mem_map.2 ⟨r, hm, rfl⟩)⟩
  · rintro ⟨hm, hne⟩
    rcases List.mem_cons.1 (hp.mem_iff.1 hm) with rfl | hm
    · exact absurd rfl hne
    · exact hm
/-- A row that comes. -/
theorem ins_mem (rows : List (Int × Nat)) (i : Nat) (x r : Int × Nat) : r ∈ TIH.insR rows i x ↔ r = x ∨ r ∈ rows := by
  have e : TIH.insR rows i x = rows.take i ++ x :: rows.drop i := by simp [TIH.insR]
  rw [e]
  have h := List.perm_middle (a := x) (l₁ := rows.take i) (l₂ := rows.drop i)
  rw [h.mem_iff, List.take_append_drop, List.mem_cons]
theorem ins_nodup (rows : List (Int × Nat)) (i : Nat) (k : Int) (G : Nat) (h : (rows.map (·.2)).Nodup) (hG : G ∉ rows.map (·.2)) : ((TIH.insR rows i (k, G)).map (·.2)).Nodup := by
  have e : TIH.insR rows i (k, G) = rows.take i ++ (k, G) :: rows.drop i := by simp [TIH.insR]
  rw [e]
  have hp := List.perm_middle (a := ((k, G) : Int × Nat)) (l₁ := rows.take i) (l₂ := rows.drop i)
  rw [List.take_append_drop] at hp
  refine (hp.map (·.2)).nodup_iff.2 ?_
  rw [List.map_cons]
  exact List.nodup_cons.2 ⟨hG, h⟩
theorem same_G {rows : List (Int × Nat)} (hn : (rows.map (·.2)).Nodup) {a b : Int × Nat} (ha : a ∈ rows) (hb : b ∈ rows) (e : a.2 = b.2) : a = b := by
  induction rows with
  | nil => cases ha
  | cons x rows ih =>
    rw [List.map_cons] at hn
    obtain ⟨h1, h2⟩ := List.nodup_cons.1 hn
    rcases List.mem_cons.1 ha with rfl | ha' <;> rcases List.mem_cons.1 hb with rfl | hb'
    · rfl
    · exact absurd (List.mem_map.2 ⟨b, hb', e.symm⟩) h1
    · exact absurd (List.mem_map.2 ⟨a, ha', e⟩) h1
    · exact ih h2 ha' hb'
theorem same_key {rows : List (Int × Nat)} (h : TIH.Rise rows) {a b : Int × Nat} (ha : a ∈ rows) (hb : b ∈ rows) (e : a.1 = b.1) : a = b := by
  have hn := keys_nodup h
  induction rows with
  | nil => cases ha
  | cons x rows ih =>
    rw [List.map_cons] at hn
    obtain ⟨h1, h2⟩ := List.nodup_cons.1 hn
    rcases List.mem_cons.1 ha with rfl | ha' <;> rcases List.mem_cons.1 hb with rfl | hb'
    · rfl
    · exact absurd (List.mem_map.2 ⟨b, hb', e.symm⟩) h1
    · exact absurd (List.mem_map.2 ⟨a, ha', e⟩) h1
    · exact ih (List.pairwise_cons.1 h).2 ha' hb' h2

/-- All holders but the one in G. -/
def Oth (w : World) (ow : Ow) (p : List Nat) (G : Nat) (T : List Tk) (rows : List (Int × Nat)) : Prop := ∀ r ∈ rows, r.2 ≠ G → Hl w ow p r.2 (locksOf T r.1)
section
variable {w w1 : World} {ow ow1 : Ow} {p q : List Nat} {g G : Nat} {U C : List Int} {T : List Tk} {rows : List (Int × Nat)}
theorem Oth.keep (h : Oth w ow p G T rows) (t : Turn q w ow w1 ow1) (hq : ∀ k H s, (k = 5 ∨ k = 6) → H ≠ G → ¬ q <+: p ++ k :: H :: s) : Oth w1 ow1 p G T rows := fun r hr hG => by
  obtain ⟨h1, h2⟩ := h r hr hG
  exact ⟨h1.keep t (by simpa using hq 5 r.2 [0] (.inl rfl) hG) (by simpa using hq 5 r.2 [1] (.inl rfl) hG), h2.keep t (by simpa using hq 6 r.2 [] (.inr rfl) hG)⟩
theorem Oth.new_ (h : Oth w ow p G T rows) (t : New w ow w1 ow1) : Oth w1 ow1 p G T rows := fun r hr hG => (h r hr hG).new_ t
theorem Hl.keepK {k : Nat} {s : List Nat} {ls : List Lk} (h : Hl w ow p G ls) (t : Turn (p ++ k :: s) w ow w1 ow1) (hk : k ≠ 5 ∧ k ≠ 6) : Hl w1 ow1 p G ls :=
  ⟨h.1.keep t (by simp [hk.1]) (by simp [hk.1]), h.2.keep t (by simp [hk.2])⟩
theorem css_cells1 (xs : List Int) (k x : Int) (r : Nat) : (EInt.css xs).set r (.int .i64 x) = EInt.css (xs.set r x) := by
  have := EInt.css_cells xs r x
  simpa only [Nat.mul_one] using this
end
theorem hl_all {w : World} {ow : Ow} {p : List Nat} {G : Nat} {job : Int} {T T' : List Tk} {rows : List (Int × Nat)} (h6 : TIH.Rise rows) (h7 : (rows.map (·.2)).Nodup) (hG : (job, G) ∈ rows) (hO : Oth w ow p G T rows) (hg : Hl w ow p G (locksOf T' job))
    (ho : ∀ j, j ≠ job → locksOf T' j = locksOf T j) : ∀ r ∈ rows, Hl w ow p r.2 (locksOf T' r.1) := fun r hr => by
  by_cases e : r.2 = G
  · have := same_G h7 hr hG e
    rw [this]; exact hg
  · have hj : r.1 ≠ job := fun e2 => e (by rw [same_key h6 hr hG e2])
    rw [ho _ hj]
    exact hO r hr e
theorem has_all {job : Int} {G : Nat} {T T' : List Tk} {rows : List (Int × Nat)} (h6 : TIH.Rise rows) (h8 : ∀ j, TIH.has rows j = true ↔ locksOf T j ≠ []) (hG : (job, G) ∈ rows) (hn : locksOf T' job ≠ [])
    (ho : ∀ j, j ≠ job → locksOf T' j = locksOf T j) : ∀ j, TIH.has rows j = true ↔ locksOf T' j ≠ [] := fun j => by
  by_cases e : j = job
  · subst e
    exact ⟨fun _ => hn, fun _ => (TIH.has_iff rows h6 j).2 ⟨_, hG, rfl⟩⟩
  · rw [ho j e]; exact h8 j
theorem hl_erase {w : World} {ow : Ow} {p : List Nat} {G i : Nat} {job : Int} {T T' : List Tk} {rows : List (Int × Nat)} (h6 : TIH.Rise rows) (h7 : (rows.map (·.2)).Nodup) (hr : rows[i]? = some (job, G)) (hO : Oth w ow p G T rows)
    (ho : ∀ j, j ≠ job → locksOf T' j = locksOf T j) : ∀ r ∈ rows.eraseIdx i, Hl w ow p r.2 (locksOf T' r.1) := fun r hm => by
  obtain ⟨hm, hj⟩ := (erase_mem h6 hr r).1 hm
  simp only at hj
  rw [ho _ hj]
  exact hO r hm fun e => hj (by rw [same_G h7 hm (List.mem_of_getElem? hr) e])
theorem has_erase {G i : Nat} {job : Int} {T T' : List Tk} {rows : List (Int × Nat)} (h6 : TIH.Rise rows) (h8 : ∀ j, TIH.has rows j = true ↔ locksOf T j ≠ []) (hr : rows[i]? = some (job, G)) (hn : locksOf T' job = [])
    (ho : ∀ j, j ≠ job → locksOf T' j = locksOf T j) : ∀ j, TIH.has (rows.eraseIdx i) j = true ↔ locksOf T' j ≠ [] := fun j => by
  have h6' : TIH.Rise (rows.eraseIdx i) := h6.sublist (List.eraseIdx_sublist _ _)
  rw [TIH.has_iff _ h6' j]
  by_cases e : j = job
  · subst e
    constructor
    · rintro ⟨r, hm, hk⟩
      exact absurd hk ((erase_mem h6 hr r).1 hm).2
    · intro h; exact absurd hn h
  · rw [ho j e, ← h8 j, TIH.has_iff rows h6 j]
    constructor
    · rintro ⟨r, hm, hk⟩
      exact ⟨r, ((erase_mem h6 hr r).1 hm).1, hk⟩
    · rintro ⟨r, hm, hk⟩
      exact ⟨r, (erase_mem h6 hr r).2 ⟨hm, by rw [hk]; exact e⟩, hk⟩
end UN
end Go.Proofs.Ytefagdbdimpcdaa
