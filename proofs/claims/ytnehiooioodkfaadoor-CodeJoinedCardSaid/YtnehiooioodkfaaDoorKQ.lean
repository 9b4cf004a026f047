/-
  CODE: a right program is well nested.
-/
import Derived.Test.YtnehiooioodkfaaDoorKI
set_option linter.unusedVariables false
set_option linter.unusedSimpArgs false
namespace Go.Proofs.YtnehiooioodkfaaDoor
open Go Go.RowKit
namespace CD
theorem fieldsB_n {o : Op4} (h : fieldsB o = true) : o.n ≤ 4096 ∧ 0 ≤ o.n ∧ 1 ≤ o.kind ∧ o.kind ≤ 11 := by
  unfold fieldsB at h
  split at h
  · cases h
  · rename_i hk
    have hk2 : kindB o.kind = true := by simpa using hk
    have hk3 := of_decide_eq_true hk2
    split at h
    · simp only [Bool.and_eq_true, decide_eq_true_eq] at h; omega
    · split at h
      · simp only [Bool.and_eq_true, decide_eq_true_eq] at h; omega
      · split at h
        · simp only [Bool.and_eq_true, decide_eq_true_eq] at h; omega
        · split at h
          · simp only [Bool.and_eq_true, decide_eq_true_eq] at h; omega
          · simp only [Bool.and_eq_true, decide_eq_true_eq] at h; omega
theorem endsG_len : ∀ (r : List Op4) (k : Nat) (st : List Nat) (E : List Int), (endsG r k st E).length = E.length
  | [], _, _, _ => rfl
  | o :: r, k, st, E => by
    obtain ⟨kind, res, nn, vv⟩ := o
    by_cases h10 : kind = 10
    · subst h10; rw [endsG_rep]; exact endsG_len r _ _ _
    · by_cases h11 : kind = 11
      · subst h11
        cases st with
        | nil => simp only [endsG]; exact endsG_len r _ _ _
        | cons t st => rw [endsG_end, endsG_len r, List.length_set]
      · rw [endsG_other h10 h11]; exact endsG_len r _ _ _
theorem endsG_old : ∀ (r : List Op4) (k : Nat) (st : List Nat) (E : List Int) (t : Nat), t < k → t ∉ st → (endsG r k st E)[t]? = E[t]?
  | [], _, _, _, _, _, _ => rfl
  | o :: r, k, st, E, t, hk, hn => by
    obtain ⟨kind, res, nn, vv⟩ := o
    by_cases h10 : kind = 10
    · subst h10; rw [endsG_rep]; exact endsG_old r _ _ _ t (by omega) (by simp only [List.mem_cons, not_or]; exact ⟨by omega, hn⟩)
    · by_cases h11 : kind = 11
      · subst h11
        cases st with
        | nil => simp only [endsG]; exact endsG_old r _ _ _ t (by omega) hn
        | cons s st =>
          simp only [List.mem_cons, not_or] at hn
          rw [endsG_end, endsG_old r _ _ _ t (by omega) hn.2, List.getElem?_set_ne (by omega)]
      · rw [endsG_other h10 h11]; exact endsG_old r _ _ _ t (by omega) hn
theorem NS_mono {xs : List Op4} {E : List Int} : ∀ {f f' i j : Nat}, NS xs E f i j = true → f ≤ f' → NS xs E f' i j = true
  | 0, _, _, _, h, _ => by cases h
  | f + 1, 0, _, _, _, hf => by omega
  | f + 1, f' + 1, i, j, h, hf => by
    unfold NS at h ⊢
    by_cases e : i = j
    · rw [if_pos e]
    · rw [if_neg e] at h ⊢
      by_cases l : j < i
      · rw [if_pos l] at h; cases h
      · rw [if_neg l] at h ⊢
        cases hx : xs[i]? with
        | none => rw [hx] at h; cases h
        | some o =>
          rw [hx] at h
          simp only at h ⊢
          by_cases h10 : o.kind = 10
          · rw [if_pos h10] at h ⊢
            simp only [Bool.and_eq_true] at h ⊢
            exact ⟨⟨h.1.1, NS_mono h.1.2 (by omega)⟩, NS_mono h.2 (by omega)⟩
          · rw [if_neg h10] at h ⊢
            simp only [Bool.and_eq_true] at h ⊢
            exact ⟨h.1, NS_mono h.2 (by omega)⟩
theorem NS_rep {xs : List Op4} {E : List Int} {f i j e : Nat} {o : Op4} (hx : xs[i]? = some o) (h10 : o.kind = 10) (hn : 0 ≤ o.n) (he : E[i]?.getD 0 = (e : Int)) (h1 : i < e) (h2 : e < j) (h11 : xs[e]?.map Op4.kind = some 11) (a : NS xs E f (i + 1) e = true) (b : NS xs E f (e + 1) j = true) : NS xs E (f + 1) i j = true := by
  unfold NS
  rw [if_neg (by omega), if_neg (by omega), hx]
  simp only
  rw [if_pos h10, he, Int.toNat_natCast, a, b]
  simp only [Option.map_eq_some_iff] at h11
  obtain ⟨y, hy, hy2⟩ := h11
  simp [hn, h1, h2, hy, hy2]
theorem NS_one {xs : List Op4} {E : List Int} {f i j : Nat} {o : Op4} (hx : xs[i]? = some o) (h10 : o.kind ≠ 10) (h11 : o.kind ≠ 11) (hn : 0 ≤ o.n) (hij : i < j) (a : NS xs E f (i + 1) j = true) : NS xs E (f + 1) i j = true := by
  unfold NS
  rw [if_neg (by omega), if_neg (by omega), hx]
  simp only
  rw [if_neg h10, a]
  simp [h11, hn]
/-- What the scan finds from a place on: up to the end, or up to where the innermost open repeat ends. -/
theorem scan_nested (xs : List Op4) (EF : List Int) (hEF : EF.length = xs.length) : ∀ (m k : Nat) (st : List Nat) (E : List Int), xs.length - k = m → k ≤ xs.length → E.length = xs.length → st.Pairwise (· > ·) → (∀ t ∈ st, t < k) →
    checkG (xs.drop k) k st.length = (0, 0) → endsG (xs.drop k) k st E = EF →
    (st = [] → NS xs EF (xs.length - k + 1) k xs.length = true) ∧
    (∀ t st', st = t :: st' → ∃ (e : Nat) (E' : List Int), EF[t]?.getD 0 = (e : Int) ∧ k ≤ e ∧ e < xs.length ∧ xs[e]?.map Op4.kind = some 11 ∧ NS xs EF (xs.length - k + 1) k e = true ∧ E'.length = xs.length ∧
      checkG (xs.drop (e + 1)) (e + 1) st'.length = (0, 0) ∧ endsG (xs.drop (e + 1)) (e + 1) st' E' = EF) := by
  intro m
  induction m using Nat.strongRecOn with
  | _ m ih =>
    intro k st E hm hk hE hpw hlt hcg hen
    by_cases hkl : k < xs.length
    · obtain ⟨x, hx⟩ : ∃ x, xs[k]? = some x := ⟨_, List.getElem?_eq_getElem hkl⟩
      rw [drop_cons hx] at hcg hen
      have hf : fieldsB x = true := by simpa using checkG_fok hcg
      have hfn := fieldsB_n hf
      obtain ⟨kind, res, nn, vv⟩ := x
      simp only at hfn
      by_cases h10 : kind = 10
      · subst h10
        have hcg2 := checkG_rep hcg
        rw [endsG_rep] at hen
        obtain ⟨-, h2⟩ := ih (xs.length - (k + 1)) (by omega) (k + 1) (k :: st) E rfl (by omega) hE (List.pairwise_cons.2 ⟨fun t ht => hlt t ht, hpw⟩) (fun t ht => by rcases List.mem_cons.1 ht with rfl | ht; exact Nat.lt_succ_self _; have := hlt t ht; omega) hcg2 hen
        obtain ⟨e, E', he, he1, he2, hk11, hns, hE', hcg3, hen3⟩ := h2 k st rfl
        obtain ⟨h3, h4⟩ := ih (xs.length - (e + 1)) (by omega) (e + 1) st E' rfl (by omega) hE' hpw (fun t ht => by have := hlt t ht; omega) hcg3 hen3
        have ha : NS xs EF (xs.length - k) (k + 1) e = true := NS_mono hns (by omega)
        refine ⟨fun h0 => ?_, fun t st' hst => ?_⟩
        · exact NS_rep hx rfl hfn.2.1 he (by omega) (by omega) hk11 ha (NS_mono (h3 h0) (by omega))
        · obtain ⟨e2, E2, q1, q2, q3, qk, q4, q5, q6, q7⟩ := h4 t st' hst
          exact ⟨e2, E2, q1, by omega, q3, qk, NS_rep hx rfl hfn.2.1 he (by omega) (by omega) hk11 ha (NS_mono q4 (by omega)), q5, q6, q7⟩
      · by_cases h11 : kind = 11
        · subst h11
          obtain ⟨hne, hcg2⟩ := checkG_end hcg
          cases st with
          | nil => exact absurd rfl hne
          | cons t st' =>
            rw [endsG_end] at hen
            refine ⟨(fun h => by cases h), fun t2 st2 hst => ?_⟩
            injection hst with e1 e2
            subst e1; subst e2
            have htk := hlt t (List.mem_cons_self ..)
            have hnt : t ∉ st' := fun ht => by
              have := (List.pairwise_cons.1 hpw).1 t ht
              omega
            have hv : EF[t]? = some (k : Int) := by
              rw [← hen, endsG_old _ _ _ _ t (by omega) hnt, List.getElem?_set_self (by omega)]
            refine ⟨k, E.set t k, by rw [hv]; rfl, Nat.le_refl _, hkl, by rw [hx]; rfl, ?_, by rw [List.length_set]; exact hE, by simpa using hcg2, hen⟩
            rw [show xs.length - k + 1 = (xs.length - k) + 1 from rfl]
            unfold NS
            rw [if_pos rfl]
        · have hcg2 : checkG (xs.drop (k + 1)) (k + 1) st.length = (0, 0) := by rw [← checkG_other h10 h11 hcg]; exact hcg
          rw [endsG_other h10 h11] at hen
          obtain ⟨h1, h2⟩ := ih (xs.length - (k + 1)) (by omega) (k + 1) st E rfl (by omega) hE hpw (fun t ht => by have := hlt t ht; omega) hcg2 hen
          refine ⟨fun h0 => NS_one hx h10 h11 hfn.2.1 hkl (NS_mono (h1 h0) (by omega)), fun t st' hst => ?_⟩
          obtain ⟨e2, E2, q1, q2, q3, qk, q4, q5, q6, q7⟩ := h2 t st' hst
          exact ⟨e2, E2, q1, by omega, q3, qk, NS_one hx h10 h11 hfn.2.1 (by omega) (NS_mono q4 (by omega)), q5, q6, q7⟩
    · obtain rfl : k = xs.length := by omega
      rw [List.drop_eq_nil_of_le (Nat.le_refl _)] at hcg
      unfold checkG at hcg
      split at hcg
      · simp at hcg
      · rename_i h0
        have hst0 : st = [] := List.length_eq_zero_iff.1 (by omega)
        subst hst0
        refine ⟨fun _ => ?_, fun t st' h => by cases h⟩
        rw [Nat.sub_self]
        unfold NS
        rw [if_pos rfl]
theorem checkG_all : ∀ (xs : List Op4) (i op : Nat), checkG xs i op = (0, 0) → ∀ o ∈ xs, fieldsB o = true
  | [], _, _, _, o, ho => by cases ho
  | x :: r, i, op, h, o, ho => by
    have hf := checkG_fok h
    have hx : fieldsB x = true := by simpa using hf
    rcases List.mem_cons.1 ho with rfl | ho'
    · exact hx
    · obtain ⟨kind, res, nn, vv⟩ := x
      by_cases h10 : kind = 10
      · subst h10; exact checkG_all r _ _ (checkG_rep h) o ho'
      · by_cases h11 : kind = 11
        · subst h11; exact checkG_all r _ _ (checkG_end h).2 o ho'
        · exact checkG_all r _ _ (by rw [← checkG_other h10 h11 h]; exact h) o ho'
theorem nested_of_check {xs : List Op4} (h : (checkB xs).2 = 0) : Nested xs := by
  have hcg : checkG xs 0 0 = (0, 0) := by
    unfold checkB at h
    split at h
    · cases h
    · exact checkG_zero _ _ _ h
  have hlen : (endsB xs).length = xs.length := by unfold endsB; rw [endsG_len, List.length_replicate]
  have hfi : ∀ o ∈ xs, fieldsB o = true := by
    intro o ho
    obtain ⟨i, hi⟩ := List.mem_iff_getElem?.1 ho
    exact checkG_all xs 0 0 hcg o ho
  obtain ⟨h1, -⟩ := scan_nested xs (endsB xs) hlen (xs.length - 0) 0 [] (List.replicate xs.length 0) rfl (Nat.zero_le _) (by simp) List.Pairwise.nil (by simp) (by simpa using hcg) (by simp [endsB])
  exact ⟨by simpa using h1 rfl, hlen, fun o ho => by have := (fieldsB_n (hfi o ho)).1; omega⟩
end CD
end Go.Proofs.YtnehiooioodkfaaDoor
