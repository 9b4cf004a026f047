/-
  LAW 1: ShelfLevels, in plain words: the queues of the levels are the document's list, level by level.
-/
import Derived.Test.YtppikbdeopagkaaRL3
import Derived.Test.YtppikbdeopagkaaEIntLI
import Derived.Test.YtppikbdeopagkaaST
set_option linter.unusedVariables false
set_option linter.unusedSimpArgs false
namespace Go.Proofs.Ytppikbdeopagkaa
open Go Go.RowKit
namespace RL
open EInt

theorem first_exists (ys : List (Int × Int)) : ∀ m, 0 < m → m ≤ ys.length → ∃ b, FrTo ys m b
  | 0, h, _ => by omega
  | m + 1, _, hm => by
    obtain ⟨x, hx⟩ : ∃ x, ys[m]? = some x := ⟨_, List.getElem?_eq_getElem (by omega)⟩
    by_cases h0 : m = 0
    · subst h0; exact ⟨0, FrTo.one hx⟩
    · obtain ⟨b, hb⟩ := first_exists ys m (by omega) (by omega)
      obtain ⟨y, hy⟩ : ∃ y, ys[b]? = some y := ⟨_, List.getElem?_eq_getElem (by have := hb.1; omega)⟩
      by_cases h : y.1 < x.1
      · exact ⟨m, hb.next hx hy h⟩
      · exact ⟨b, hb.same hx hy (by omega)⟩
theorem FrTo.uniq {ys : List (Int × Int)} {m b c : Nat} (h : FrTo ys m b) (k : FrTo ys m c) : b = c := by
  obtain ⟨h1, h2, h3, h4⟩ := h
  obtain ⟨k1, k2, k3, k4⟩ := k
  obtain ⟨x, hx⟩ : ∃ x, ys[b]? = some x := ⟨_, List.getElem?_eq_getElem (by omega)⟩
  obtain ⟨y, hy⟩ : ∃ y, ys[c]? = some y := ⟨_, List.getElem?_eq_getElem (by omega)⟩
  rcases Nat.lt_trichotomy b c with h | h | h
  · have := k4 b x y h hx hy; have := h3 c y x k1 hy hx; omega
  · exact h
  · have := h4 c y x h hy hx; have := k3 b x y h1 hx hy; omega
theorem split_at (ys : List (Int × Int)) (b : Nat) (x : Int × Int) (hx : ys[b]? = some x) : ys = ys.take b ++ x :: ys.drop (b + 1) := by
  have hlt := (List.getElem?_eq_some_iff.1 hx).1
  have he := (List.getElem?_eq_some_iff.1 hx).2
  rw [← he, ← List.drop_eq_getElem_cons hlt, List.take_append_drop]
theorem atLv_append (xs ys : List (Int × Int)) (lv : Int) : atLv (xs ++ ys) lv = atLv xs lv ++ atLv ys lv := List.filter_append ..
theorem atLv_cons (x : Int × Int) (ys : List (Int × Int)) (lv : Int) : atLv (x :: ys) lv = if x.1 = lv then x :: atLv ys lv else atLv ys lv := by
  by_cases h : x.1 = lv <;> simp [atLv, h]
theorem atLv_mem {ys : List (Int × Int)} {lv : Int} {y : Int × Int} (h : y ∈ atLv ys lv) : y ∈ ys ∧ y.1 = lv := by simpa [atLv] using h

/-- The queues of the levels, and the document's list. -/
def Same (n : Nat) (qs : List (List Int)) (ys : List (Int × Int)) : Prop :=
  qs.length = n ∧ (∀ (i : Nat) l, qs[i]? = some l → l = (atLv ys ((i : Int) + 1)).map (·.2)) ∧ (∀ y ∈ ys, 1 ≤ y.1 ∧ y.1 ≤ n) ∧ total qs = ys.length
theorem Same.nil (n : Nat) : Same n (List.replicate n []) [] := by
  refine ⟨by simp, fun i l hl => ?_, (fun y hy => by cases hy), SH.total_nil n⟩
  have hlt : i < n := by have := (List.getElem?_eq_some_iff.1 hl).1; simpa using this
  have : l = [] := by simpa [hlt] using hl.symm
  subst this
  rfl
theorem Same.put {n : Nat} {qs : List (List Int)} {ys : List (Int × Int)} {i : Nat} {l : List Int} {x lv : Int} (h : Same n qs ys) (hi : qs[i]? = some l) (hlv : lv = (i : Int) + 1) : Same n (qs.set i (l ++ [x])) (ys ++ [(lv, x)]) := by
  obtain ⟨h1, h2, h3, h4⟩ := h
  have hlt := (List.getElem?_eq_some_iff.1 hi).1
  refine ⟨by rw [List.length_set]; exact h1, fun j m hm => ?_, fun y hy => ?_, ?_⟩
  · rw [atLv_append, atLv_cons]
    by_cases e : j = i
    · subst e
      have : m = l ++ [x] := by simpa [hlt] using hm.symm
      rw [this, if_pos hlv, List.map_append, ← h2 j l hi]
      rfl
    · rw [List.getElem?_set_ne (Ne.symm e)] at hm
      rw [if_neg (show ¬ lv = (j : Int) + 1 by omega), h2 j m hm]
      simp [atLv]
  · rcases List.mem_append.1 hy with hy | hy
    · exact h3 y hy
    · have : y = (lv, x) := by simpa using hy
      subst this
      exact ⟨by show 1 ≤ lv; omega, by show lv ≤ n; omega⟩
  · have := SH.total_set (l ++ [x]) l qs i hi
    rw [List.length_append, List.length_cons, List.length_nil] at this ⊢
    omega
theorem Same.empty_ {n : Nat} {qs : List (List Int)} (h : Same n qs []) : hiTo qs qs.length = 0 := by
  rcases SH.hi_cases qs qs.length (Nat.le_refl _) with ⟨i, x, l, -, -, h3, -⟩ | ⟨h, -⟩
  · have := h.2.1 i _ h3
    simp [atLv] at this
  · exact h
theorem Same.first_ {n : Nat} {qs : List (List Int)} {ys : List (Int × Int)} {b : Nat} {x : Int × Int} (h : Same n qs ys) (hF : FrTo ys ys.length b) (hx : ys[b]? = some x) :
    ∃ (i : Nat) (l : List Int), hiTo qs qs.length = i + 1 ∧ x.1 = (i : Int) + 1 ∧ qs[i]? = some (x.2 :: l) ∧ Same n (qs.set i l) (ys.eraseIdx b) := by
  obtain ⟨h1, h2, h3, h4⟩ := h
  obtain ⟨f1, f2, f3, f4⟩ := hF
  have hxm := List.mem_of_getElem? hx
  have hsp := split_at ys b x hx
  have hbef : atLv (ys.take b) x.1 = [] := by
    rw [List.eq_nil_iff_forall_not_mem]
    intro y hy
    obtain ⟨hy1, hy2⟩ := atLv_mem hy
    obtain ⟨j, hj, he⟩ := List.mem_take_iff_getElem.1 hy1
    have hjb : j < b := by omega
    have := f4 j y x hjb (by rw [← he]; exact List.getElem?_eq_getElem (by omega)) hx
    omega
  have hat : atLv ys x.1 = x :: atLv (ys.drop (b + 1)) x.1 := by
    rw [hsp, atLv_append, atLv_cons, if_pos rfl]
    have e1 : (ys.take b ++ x :: ys.drop (b + 1)).drop (b + 1) = ys.drop (b + 1) := by rw [← hsp]
    rw [e1, hbef]; rfl
  obtain ⟨g1, g2⟩ := h3 x hxm
  obtain ⟨k, hk⟩ : ∃ k : Nat, x.1 = (k : Int) + 1 := ⟨(x.1 - 1).toNat, by omega⟩
  obtain ⟨q, hq⟩ : ∃ q, qs[k]? = some q := ⟨_, List.getElem?_eq_getElem (by omega)⟩
  have hq2 := h2 k q hq
  rw [← hk, hat, List.map_cons] at hq2
  subst hq2
  have her : ys.eraseIdx b = ys.take b ++ ys.drop (b + 1) := List.eraseIdx_eq_take_drop_succ ..
  refine ⟨k, _, ?_, hk, hq, by rw [List.length_set]; exact h1, fun j m hm => ?_, fun y hy => h3 y (List.mem_of_mem_eraseIdx hy), ?_⟩
  · rcases SH.hi_cases qs qs.length (Nat.le_refl _) with ⟨i, z, l, e1, e2, e3, e4⟩ | ⟨e1, e2⟩
    · rw [e1]
      have hz := h2 i _ e3
      obtain ⟨y, hy, -⟩ : ∃ y, y ∈ atLv ys ((i : Int) + 1) ∧ y.2 = z := by
        have : z ∈ (atLv ys ((i : Int) + 1)).map (·.2) := by rw [← hz]; exact List.mem_cons_self
        simpa using List.mem_map.1 this
      obtain ⟨hy1, hy2⟩ := atLv_mem hy
      obtain ⟨j, hj⟩ := List.getElem?_of_mem hy1
      have hle := f3 j y x (List.getElem?_eq_some_iff.1 hj).1 hj hx
      by_cases hki : i < k
      · have := e4 k hki (by omega)
        rw [hq] at this
        cases this
      · omega
    · have := e2 k (by omega)
      rw [hq] at this
      cases this
  · rw [her, atLv_append]
    by_cases e : j = k
    · subst e
      have hlt := (List.getElem?_eq_some_iff.1 hq).1
      have : m = (atLv (ys.drop (b + 1)) x.1).map (·.2) := by simpa [hlt] using hm.symm
      rw [this, ← hk, hbef]; rfl
    · rw [List.getElem?_set_ne (Ne.symm e)] at hm
      rw [h2 j m hm]
      conv => lhs; rw [hsp]
      rw [atLv_append, atLv_cons, if_neg (show ¬ x.1 = (j : Int) + 1 by omega)]
  · have := SH.total_set ((atLv (ys.drop (b + 1)) x.1).map (·.2)) _ qs k hq
    rw [List.length_cons] at this
    rw [List.length_eraseIdx, if_pos f1]
    omega
theorem Same.count_out {n : Nat} {qs : List (List Int)} {ys : List (Int × Int)} {lv : Int} (h : Same n qs ys) (hlv : lv < 1 ∨ (n : Int) < lv) : (atLv ys lv).length = 0 := by
  rw [List.length_eq_zero_iff, List.eq_nil_iff_forall_not_mem]
  intro y hy
  obtain ⟨hy1, hy2⟩ := atLv_mem hy
  have := h.2.2.1 y hy1
  omega
theorem Same.count_in {n : Nat} {qs : List (List Int)} {ys : List (Int × Int)} {i : Nat} {l : List Int} (h : Same n qs ys) (hi : qs[i]? = some l) : l.length = (atLv ys ((i : Int) + 1)).length := by
  have := h.2.1 i l hi
  rw [this, List.length_map]
theorem Same.all {n : Nat} {qs : List (List Int)} {ys : List (Int × Int)} (h : Same n qs ys) : ∀ c, c ≤ n → allTo ys n c = (lpre qs (n - c)).map fun y => ((y.1 : Int), y.2)
  | 0, _ => by rw [Nat.sub_zero, ← h.1, lpre_top]; rfl
  | c + 1, hc => by
    obtain ⟨l, hl⟩ : ∃ l, qs[n - (c + 1)]? = some l := ⟨_, List.getElem?_eq_getElem (by have := h.1; omega)⟩
    have hst := lpre_step qs (n - (c + 1)) l hl
    rw [show n - (c + 1) + 1 = n - c by omega] at hst
    rw [allTo_succ, hst, List.map_append, ← h.all c (by omega), h.2.1 _ l hl]
    congr 1
    have hcast : ((n - (c + 1) : Nat) : Int) + 1 = (n : Int) - (c : Int) := by omega
    rw [hcast, List.map_map, List.map_map]
    have hcast2 : ((n - c : Nat) : Int) = (n : Int) - (c : Int) := by omega
    conv => lhs; rw [← List.map_id (atLv ys ((n : Int) - (c : Int)))]
    refine List.map_congr_left fun y hy => ?_
    obtain ⟨-, hy2⟩ := atLv_mem hy
    simp only [Function.comp, id, hcast2, ← hy2]
end RL
end Go.Proofs.Ytppikbdeopagkaa
