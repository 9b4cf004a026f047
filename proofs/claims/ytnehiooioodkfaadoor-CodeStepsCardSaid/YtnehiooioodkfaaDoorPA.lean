import Derived.Test.YtnehiooioodkfaaDoorKI
/-
  CODE: a right program is well nested.
-/
set_option linter.unusedVariables false
set_option linter.unusedSimpArgs false
namespace Go.Proofs.YtnehiooioodkfaaDoor
open Go Go.RowKit
namespace CD
theorem fieldsB_n {o : Op4} (h : fieldsB o = true) : o.n ≤ 4096 ∧ 0 ≤ o.n ∧ 1 ≤ o.kind ∧ o.kind ≤ 11 := by
  unfold fieldsB at h
  split at h
  · cases h
  · rename_i hk
    have hk2 : kindB o.kind = true := by simpa using hk
    have hk3 := of_decide_eq_true hk2
    split at h
    · simp only [Bool.and_eq_true, decide_eq_true_eq] at h; omega
    · split at h
      · simp only [Bool.and_eq_true, decide_eq_true_eq] at h; omega
      · split at h
        · simp only [Bool.and_eq_true, decide_eq_true_eq] at h; omega
        · split at h
          · simp only [Bool.and_eq_true, decide_eq_true_eq] at h; omega
          · simp only [Bool.and_eq_true, decide_eq_true_eq] at h; omega
theorem endsG_len : ∀ (r : List Op4) (k : Nat) (st : List Nat) (E : List Int), (endsG r k st E).length = E.length
  | [], _, _, _ => rfl
  | o :: r, k, st, E => by
    obtain ⟨kind, res, nn, vv⟩ := o
    by_cases h10 : kind = 10
    · subst h10; rw [endsG_rep]; exact endsG_len r _ _ _
    · by_cases h11 : kind = 11
      · subst h11
        cases st with
        | nil => simp only [endsG]; exact endsG_len r _ _ _
        | cons t st => rw [endsG_end, endsG_len r, List.length_set]
      · rw [endsG_other h10 h11]; exact endsG_len r _ _ _
theorem endsG_old : ∀ (r : List Op4) (k : Nat) (st : List Nat) (E : List Int) (t : Nat), t < k → t ∉ st → (endsG r k st E)[t]? = E[t]?
  | [], _, _, _, _, _, _ => rfl
  | o :: r, k, st, E, t, hk, hn => by
    obtain ⟨kind, res, nn, vv⟩ := o
    by_cases h10 : kind = 10
    · subst h10; rw [endsG_rep]; exact endsG_old r _ _ _ t (by omega) (by simp only [List.mem_cons, not_or]; exact ⟨by omega, hn⟩)
    · by_cases h11 : kind = 11
      · subst h11
        cases st with
        | nil => simp only [endsG]; exact endsG_old r _ _ _ t (by omega) hn
        | cons s st =>
          simp only [List.mem_cons, not_or] at hn
          rw [endsG_end, endsG_old r _ _ _ t (by omega) hn.2, List.getElem?_set_ne (by omega)]
      · rw [endsG_other h10 h11]; exact endsG_old r _ _ _ t (by omega) hn
theorem NS_mono {xs : List Op4} {E : List Int} : ∀ {f f' i j : Nat}, NS xs E f i j = true → f ≤ f' → NS xs E f' i j = true
  | 0, _, _, _, h, _ => by cases h
  | f + 1, 0, _, _, _, hf => by omega
  | f + 1, f' + 1, i, j, h, hf => by
    unfold NS at h ⊢
    by_cases e : i = j
    · rw [if_pos e]
    · rw [if_neg e] at h ⊢
      by_cases l : j < i
      · rw [if_pos l] at h; cases h
      · rw [if_neg l] at h ⊢
        cases hx : xs[i]? with
        | none => rw [hx] at h; cases h
        | some o =>
          rw [hx] at h
          simp only at h ⊢
          by_cases h10 : o.kind = 10
          · rw [if_pos h10] at h ⊢
            simp only [Bool.and_eq_true] at h ⊢
            exact ⟨⟨h.1.1, NS_mono h.1.2 (by omega)⟩, NS_mono h.2 (by omega)⟩
          · rw [if_neg h10] at h ⊢
            simp only [Bool.and_eq_true] at h ⊢
            exact ⟨h.1, NS_mono h.2 (by omega)⟩
theorem NS_rep {xs : List Op4} {E : List Int} {f i j e : Nat} {o : Op4} (hx : xs[i]? = some o) (h10 : o.kind = 10) (hn : 0 ≤ o.n) (he : E[i]?.getD 0 = (e : Int)) (h1 : i < e) (h2 : e < j) (h11 : xs[e]?.map Op4.kind = some 11) (a : NS xs E f (i + 1) e = true) (b : NS xs E f (e + 1) j = true) : NS xs E (f + 1) i j = true := by
  unfold NS
  rw [if_neg (by omega), if_neg (by omega), hx]
  simp only
  rw [if_pos h10, he, Int.toNat_natCast, a, b]
  simp only [Option.map_eq_some_iff] at h11
  obtain ⟨y, hy, hy2⟩ := h11
  simp [hn, h1, h2, hy, hy2]
theorem NS_one {xs : List Op4} {E : List Int} {f i j : Nat} {o : Op4} (hx : xs[i]? = some o) (h10 : o.kind ≠ 10) (h11 : o.kind ≠ 11) (hn : 0 ≤ o.n) (hij : i < j) (a : NS xs E f (i + 1) j = true) : NS xs E (f + 1) i j = true := by
  unfold NS
  rw [if_neg (by omega), if_neg (by omega), hx]
  simp only
  rw [if_neg h10, a]
  simp [h11, hn]
/-- What the scan finds from a place on: up to the end, or up to where the innermost open repeat ends. -/
theorem scan_nested (xs : List Op4) (EF : List Int) (hEF : EF.length = xs.length) : ∀ (m k : Nat) (st : List Nat) (E : List Int), xs.length - k = m → k ≤ xs.length → E.length = xs.length → st.Pairwise (· > ·) → (∀ t ∈ st, t < k) →
    checkG (xs.drop k) k st.length = (0, 0) → endsG (xs.drop k) k st E = EF →
    (st = [] → NS xs EF (xs.length - k + 1) k xs.length = true) ∧
    (∀ t st', st = t :: st' → ∃ (e : Nat) (E' : List Int), EF[t]?.getD 0 = (e : Int) ∧ k ≤ e ∧ e < xs.length ∧ xs[e]?.map Op4.kind = some 11 ∧ NS xs EF (xs.length - k + 1) k e = true ∧ E'.length = xs.length ∧
      checkG (xs.drop (e + 1)) (e + 1) st'.length = (0, 0) ∧ endsG (xs.drop (e + 1)) (e + 1) st' E' = EF) := by
  intro m
  induction m using Nat.strongRecOn with
  | _ m ih =>
    intro k st E hm hk hE hpw hlt hcg hen
    by_cases hkl : k < xs.length
    · obtain ⟨x, hx⟩ : ∃ x, xs[k]? = some x := ⟨_, List.getElem?_eq_getElem hkl⟩
      rw [drop_cons hx] at hcg hen
      have hf : fieldsB x = true := by simpa using checkG_fok hcg
      have hfn := fieldsB_n hf
      obtain ⟨kind, res, nn, vv⟩ := x
      simp only at hfn
      by_cases h10 : kind = 10
      · subst h10
        have hcg2 := checkG_rep hcg
        rw [endsG_rep] at hen
        obtain ⟨-, h2⟩ := ih (xs.length - (k + 1)) (by omega) (k + 1) (k :: st) E rfl (by omega) hE (List.pairwise_cons.2 ⟨fun t ht => hlt t ht, hpw⟩) (fun t ht => by rcases List.mem_cons.1 ht with rfl | ht; exact Nat.lt_succ_self _; have := hlt t ht; omega) hcg2 hen
        obtain ⟨e, E', he, he1, he2, hk11, hns, hE', hcg3, hen3⟩ := h2 k st rfl
        obtain ⟨h3, h4⟩ := ih (xs.length - (e + 1)) (by omega) (e + 1) st E' rfl (by omega) hE' hpw (fun t ht => by have := hlt t ht; omega) hcg3 hen3
        have ha : NS xs EF (xs.length - k) (k + 1) e = true := NS_mono hns (by omega)
        refine ⟨fun h0 => ?_, fun t st' hst => ?_⟩
        · exact NS_rep hx rfl hfn.2.1 he (by omega) (by omega) hk11 ha (NS_mono (h3 h0) (by omega))
        · obtain ⟨e2, E2, q1, q2, q3, qk, q4, q5, q6, q7⟩ := h4 t st' hst
          exact ⟨e2, E2, q1, by omega, q3, qk, NS_rep hx rfl hfn.2.1 he (by omega) (by omega) hk11 ha (NS_mono q4 (by omega)), q5, q6, q7⟩
      · by_cases h11 : kind = 11
        · subst h11
          obtain ⟨hne, hcg2⟩ := checkG_end hcg
          cases st with
          | nil => exact absurd rfl hne
          | cons t st' =>
            rw [endsG_end] at hen
            refine ⟨(fun h => by cases h), fun t2 st2 hst => ?_⟩
            injection hst with e1 e2
            subst e1; subst e2
            have htk := hlt t (List.mem_cons_self ..)
            have hnt : t ∉ st' := fun ht => by
              have := (List.pairwise_cons.1 hpw).1 t ht
              omega
            have hv : EF[t]? = some (k : Int) := by
              rw [← hen, endsG_old _ _ _ _ t (by omega) hnt, List.getElem?_set_self (by omega)]
            refine ⟨k, E.set t k, by rw [hv]; rfl, Nat.le_refl _, hkl, by rw [hx]; rfl, ?_, by rw [List.length_set]; exact hE, by simpa using hcg2, hen⟩
            rw [show xs.length - k + 1 = (xs.length - k) + 1 from rfl]
            unfold NS
            rw [if_pos rfl]
        · have hcg2 : checkG (xs.drop (k + 1)) (k + 1) st.length = (0, 0) := by rw [← checkG_other h10 h11 hcg]; exact hcg
          rw [endsG_other h10 h11] at hen
          obtain ⟨h1, h2⟩ := ih (xs.length - (k + 1)) (by omega) (k + 1) st E rfl (by omega) hE hpw (fun t ht => by have := hlt t ht; omega) hcg2 hen
          refine ⟨fun h0 => NS_one hx h10 h11 hfn.2.1 hkl (NS_mono (h1 h0) (by omega)), fun t st' hst => ?_⟩
          obtain ⟨e2, E2, q1, q2, q3, qk, q4, q5, q6, q7⟩ := h2 t st' hst
          exact ⟨e2, E2, q1, by omega, q3, qk, NS_one hx h10 h11 hfn.2.1 (by omega) (NS_mono q4 (by omega)), q5, q6, q7⟩
    · obtain rfl : k = xs.length := by omega
      rw [List.drop_eq_nil_of_le (Nat.le_refl _)] at hcg
      unfold checkG at hcg
      split at hcg
      · simp at hcg
      · rename_i h0
        have hst0 : st = [] := List.length_eq_zero_iff.1 (by omega)
        subst hst0
        refine ⟨fun _ => ?_, fun t st' h => by cases h⟩
        rw [Nat.sub_self]
        unfold NS
        rw [if_pos rfl]
theorem checkG_all : ∀ (xs : List Op4) (i op : Nat), checkG xs i op = (0, 0) → ∀ o ∈ xs, fieldsB o = true
  | [], _, _, _, o, ho => by cases ho
  | x :: r, i, op, h, o, ho => by
    have hf := checkG_fok h
    have hx : fieldsB x = true := by simpa using hf
    rcases List.mem_cons.1 ho with rfl | ho'
    · exact hx
    · obtain ⟨kind, res, nn, vv⟩ := x
      by_cases h10 : kind = 10
      · subst h10; exact checkG_all r _ _ (checkG_rep h) o ho'
      · by_cases h11 : kind = 11
        · subst h11; exact checkG_all r _ _ (checkG_end h).2 o ho'
        · exact checkG_all r _ _ (by rw [← checkG_other h10 h11 h]; exact h) o ho'
theorem nested_of_check {xs : List Op4} (h : (checkB xs).2 = 0) : Nested xs := by
  have hcg : checkG xs 0 0 = (0, 0) := by
    unfold checkB at h
    split at h
    · cases h
    · exact checkG_zero _ _ _ h
  have hlen : (endsB xs).length = xs.length := by unfold endsB; rw [endsG_len, List.length_replicate]
  have hfi : ∀ o ∈ xs, fieldsB o = true := by
    intro o ho
    obtain ⟨i, hi⟩ := List.mem_iff_getElem?.1 ho
    exact checkG_all xs 0 0 hcg o ho
  obtain ⟨h1, -⟩ := scan_nested xs (endsB xs) hlen (xs.length - 0) 0 [] (List.replicate xs.length 0) rfl (Nat.zero_le _) (by simp) List.Pairwise.nil (by simp) (by simpa using hcg) (by simp [endsB])
  exact ⟨by simpa using h1 rfl, hlen, fun o ho => by have := (fieldsB_n (hfi o ho)).1; omega⟩
end CD
end Go.Proofs.YtnehiooioodkfaaDoor

/-
  CODE: what Steps answers: the last step is a finish, no other one is.
-/
set_option linter.unusedVariables false
set_option linter.unusedSimpArgs false
namespace Go.Proofs.YtnehiooioodkfaaDoor
open Go Go.RowKit
namespace CD
/-- A step: no repeat, no end; work goes one step at a time. -/
def stepOk (o : Op4) : Prop := o.kind ≠ 10 ∧ o.kind ≠ 11 ∧ (o.kind = 5 → o.n = 1)
theorem segE_ok (xs : List Op4) (E : List Int) : ∀ (f i j : Nat), NS xs E f i j = true → ∀ o ∈ segE xs E f i j, stepOk o
  | 0, _, _, h, _, _ => by cases h
  | f + 1, i, j, h, o, ho => by
    by_cases hij : i < j
    · obtain ⟨f', x, hf, hx, hc⟩ := NS_in h hij
      injection hf with hf
      subst hf
      rcases hc with ⟨h10, -, e, -, -, -, h1, h2, hs⟩ | ⟨h5, -, h2, hs⟩ | ⟨h10, h5, h11, h2, hs⟩
      · rw [hs] at ho
        rcases List.mem_append.1 ho with ho | ho
        · obtain ⟨l, hl, ho⟩ := List.mem_flatten.1 ho
          rw [List.eq_of_mem_replicate hl] at ho
          exact segE_ok xs E f _ _ h1 o ho
        · exact segE_ok xs E f _ _ h2 o ho
      · rw [hs] at ho
        rcases List.mem_append.1 ho with ho | ho
        · rw [List.eq_of_mem_replicate ho]
          exact ⟨by decide, by decide, fun _ => rfl⟩
        · exact segE_ok xs E f _ _ h2 o ho
      · rw [hs] at ho
        rcases List.mem_cons.1 ho with rfl | ho
        · exact ⟨h10, h11, fun h => absurd h h5⟩
        · exact segE_ok xs E f _ _ h2 o ho
    · have := NS_le xs E _ _ _ h
      obtain rfl : i = j := by omega
      rw [segE_nil] at ho
      cases ho
theorem runG_sub : ∀ (a : List Op4) (k : Nat), ∀ o ∈ (runG a k).1, o ∈ a
  | [], _, _, ho => by simp [runG] at ho
  | x :: r, k, o, ho => by
    by_cases hk : k = 4096
    · subst hk; rw [runG_over] at ho; cases ho
    · by_cases h9 : x.kind = 9
      · rw [runG_fin _ _ _ hk h9] at ho
        rcases List.mem_singleton.1 ho with rfl
        exact List.mem_cons_self ..
      · rw [runG_one _ _ _ hk h9] at ho
        rcases List.mem_append.1 ho with ho | ho
        · rcases List.mem_singleton.1 ho with rfl
          exact List.mem_cons_self ..
        · exact List.mem_cons_of_mem _ (runG_sub r _ o ho)
theorem runG_more9 : ∀ (a : List Op4) (k : Nat), (runG a k).2.2 = true → ∀ o ∈ a, o.kind ≠ 9
  | [], _, _, _, ho => by cases ho
  | x :: r, k, h, o, ho => by
    by_cases hk : k = 4096
    · subst hk; rw [runG_over] at h; cases h
    · by_cases h9 : x.kind = 9
      · rw [runG_fin _ _ _ hk h9] at h; cases h
      · rw [runG_one _ _ _ hk h9] at h
        rcases List.mem_cons.1 ho with rfl | ho
        · exact h9
        · exact runG_more9 r _ h o ho
theorem runG_end : ∀ (a : List Op4) (k : Nat), (runG a k).2 = (false, false) → ∃ b f, (runG a k).1 = b ++ [f] ∧ f.kind = 9 ∧ ∀ o ∈ b, o.kind ≠ 9
  | [], _, h => by simp [runG] at h
  | x :: r, k, h => by
    by_cases hk : k = 4096
    · subst hk; rw [runG_over] at h; simp at h
    · by_cases h9 : x.kind = 9
      · rw [runG_fin _ _ _ hk h9]
        exact ⟨[], x, rfl, h9, fun o ho => by cases ho⟩
      · rw [runG_one _ _ _ hk h9] at h ⊢
        obtain ⟨b, f, h1, h2, h3⟩ := runG_end r (k + 1) h
        refine ⟨x :: b, f, by simp [comb, h1], h2, fun o ho => ?_⟩
        rcases List.mem_cons.1 ho with rfl | ho
        · exact h9
        · exact h3 o ho
/-- Its steps and the finish. -/
theorem listB_form {xs : List Op4} (h : (listB xs).2 = 0) : ∃ b f, (listB xs).1 = b ++ [f] ∧ f.kind = 9 ∧ stepOk f ∧ (∀ o ∈ b, o.kind ≠ 9 ∧ stepOk o) ∧ b.length + 1 ≤ 4096 := by
  have hc : (countB xs).2 = 0 := by
    unfold listB at h
    by_cases h0 : (countB xs).2 = 0
    · exact h0
    · rw [if_neg h0] at h; exact h
  have hck : (checkB xs).2 = 0 := by
    unfold countB at hc
    by_cases h0 : (checkB xs).2 = 0
    · exact h0
    · rw [if_neg h0] at hc; exact hc
  obtain ⟨hns, -, -⟩ := nested_of_check hck
  have hseg := segE_ok xs (endsB xs) _ _ _ hns
  have hlen := runG_len (segE xs (endsB xs) (xs.length + 1) 0 xs.length) 0 (by omega)
  change 0 + (allE xs).1.length ≤ 4096 at hlen
  have hL : (listB xs).1 = walkT xs := by unfold listB; rw [if_pos hc]
  have hw : (walkN xs).2 = 0 := by unfold countB at hc; rw [if_pos hck] at hc; exact hc
  rw [hL]
  unfold walkN at hw
  unfold walkT
  by_cases hm : (allE xs).2.2 = true
  · rw [if_pos hm] at hw
    by_cases hk : (allE xs).1.length = 4096
    · rw [if_pos hk] at hw; cases hw
    · rw [if_pos ⟨hm, hk⟩]
      obtain ⟨e1, e2⟩ := runG_more _ _ hm
      have h9 := runG_more9 _ _ hm
      refine ⟨(allE xs).1, _, rfl, rfl, ⟨by decide, by decide, fun h => absurd h (by decide)⟩, fun o ho => ?_, by omega⟩
      have ho2 := runG_sub _ _ o ho
      exact ⟨h9 o ho2, hseg o ho2⟩
  · rw [if_neg hm] at hw
    rw [if_neg (fun h => hm h.1)]
    by_cases hov : (allE xs).2.1 = true
    · rw [if_pos hov] at hw; cases hw
    · have h2 : (allE xs).2 = (false, false) := by
        cases hx : (allE xs).2 with
        | mk a b =>
          rw [hx] at hm hov
          simp only [Bool.not_eq_true] at hm hov
          rw [hm, hov]
      obtain ⟨b, f, h3, h4, h5⟩ := runG_end _ _ h2
      change (allE xs).1 = b ++ [f] at h3
      rw [h3] at hlen ⊢
      have hsub := fun o (ho : o ∈ b ++ [f]) => hseg o (runG_sub _ 0 o (by change o ∈ (allE xs).1; rw [h3]; exact ho))
      exact ⟨b, f, rfl, h4, hsub f (by simp), fun o ho => ⟨h5 o ho, hsub o (by simp [ho])⟩, by simp at hlen; omega⟩
end CD
end Go.Proofs.YtnehiooioodkfaaDoor

/-
  CODE: the steps of a program without places: read off from the front.
-/
set_option linter.unusedVariables false
set_option linter.unusedSimpArgs false
namespace Go.Proofs.YtnehiooioodkfaaDoor
open Go Go.RowKit
namespace CD
/-- The steps up to an end that nothing opened, and what stands behind it. -/
def flatG : Nat → List Op4 → List Op4 × List Op4
  | 0, l => ([], l)
  | _ + 1, [] => ([], [])
  | f + 1, o :: r =>
    if o.kind = 10 then ((List.replicate o.n.toNat (flatG f r).1).flatten ++ (flatG f (flatG f r).2).1, (flatG f (flatG f r).2).2)
    else if o.kind = 11 then ([], r)
    else if o.kind = 5 then (List.replicate o.n.toNat work1 ++ (flatG f r).1, (flatG f r).2)
    else (o :: (flatG f r).1, (flatG f r).2)
theorem flatG_nil (f : Nat) : flatG f [] = ([], []) := by cases f <;> rfl
theorem flatG_rest : ∀ (f : Nat) (l : List Op4), (flatG f l).2.length ≤ l.length
  | 0, l => Nat.le_refl _
  | f + 1, [] => Nat.le_refl _
  | f + 1, o :: r => by
    rw [flatG]
    have h1 := flatG_rest f r
    have h2 := flatG_rest f (flatG f r).2
    split
    · simp only [List.length_cons]; omega
    · split
      · simp
      · split
        · simp only [List.length_cons]; omega
        · simp only [List.length_cons]; omega
/-- More fuel changes nothing. -/
theorem flatG_fuel : ∀ (f f' : Nat) (l : List Op4), l.length < f → l.length < f' → flatG f l = flatG f' l
  | 0, _, l, h, _ => by omega
  | f + 1, 0, l, _, h => by omega
  | f + 1, f' + 1, [], _, _ => rfl
  | f + 1, f' + 1, o :: r, h, h' => by
    simp only [List.length_cons] at h h'
    have e1 := flatG_fuel f f' r (by omega) (by omega)
    have hr := flatG_rest f' r
    have e2 := flatG_fuel f f' (flatG f' r).2 (by omega) (by omega)
    rw [flatG, flatG, e1, e2]
/-- What is well nested up to an end (or the end of all) is read off so. -/
theorem flatG_seg (xs : List Op4) (E : List Int) : ∀ (f i j : Nat), NS xs E f i j = true → j ≤ xs.length → ∀ (m : Nat), xs.length - i < m →
    (j = xs.length → flatG m (xs.drop i) = (segE xs E f i j, [])) ∧
    (∀ o, xs[j]? = some o → o.kind = 11 → flatG m (xs.drop i) = (segE xs E f i j, xs.drop (j + 1)))
  | 0, _, _, h, _, _, _ => by cases h
  | f + 1, i, j, h, hj, m, hm => by
    obtain ⟨m, rfl⟩ : ∃ m', m = m' + 1 := ⟨m - 1, by omega⟩
    by_cases hij : i < j
    · obtain ⟨f', x, hf, hx, hc⟩ := NS_in h hij
      injection hf with hf
      subst hf
      rw [drop_cons hx]
      rcases hc with ⟨h10, hn, e, he, he1, he2, hs1, hs2, hs⟩ | ⟨h5, hn, hs2, hs⟩ | ⟨h10, h5, h11, hs2, hs⟩
      · have hk11 := NS_end h hij hx h10
        rw [he, Int.toNat_natCast] at hk11
        obtain ⟨y, hy, hy2⟩ := Option.map_eq_some_iff.1 hk11
        obtain ⟨-, b1⟩ := flatG_seg xs E f (i + 1) e hs1 (by omega) m (by omega)
        have b2 := b1 y hy hy2
        obtain ⟨a3, b3⟩ := flatG_seg xs E f (e + 1) j hs2 hj m (by omega)
        refine ⟨fun hje => ?_, fun o ho h11 => ?_⟩
        · rw [flatG, if_pos h10, b2]
          simp only
          rw [a3 hje, hs]
        · rw [flatG, if_pos h10, b2]
          simp only
          rw [b3 o ho h11, hs]
      · obtain ⟨a, b⟩ := flatG_seg xs E f (i + 1) j hs2 hj m (by omega)
        have hne : ¬ x.kind = 10 := by omega
        have hne2 : ¬ x.kind = 11 := by omega
        refine ⟨fun hje => ?_, fun o ho h11 => ?_⟩
        · rw [flatG, if_neg hne, if_neg hne2, if_pos h5, a hje, hs]
        · rw [flatG, if_neg hne, if_neg hne2, if_pos h5, b o ho h11, hs]
      · obtain ⟨a, b⟩ := flatG_seg xs E f (i + 1) j hs2 hj m (by omega)
        refine ⟨fun hje => ?_, fun o ho h11' => ?_⟩
        · rw [flatG, if_neg h10, if_neg h11, if_neg h5, a hje, hs]
        · rw [flatG, if_neg h10, if_neg h11, if_neg h5, b o ho h11', hs]
    · have := NS_le xs E _ _ _ h
      obtain rfl : i = j := by omega
      rw [segE_nil]
      refine ⟨fun hje => ?_, fun o ho h11 => ?_⟩
      · rw [hje, List.drop_eq_nil_of_le (Nat.le_refl _)]; rfl
      · rw [drop_cons ho, flatG, if_neg (by omega), if_pos h11]
/-- The steps of a right program, read off from the front. -/
theorem flat_all {xs : List Op4} (h : (checkB xs).2 = 0) : flatG (xs.length + 1) xs = (segE xs (endsB xs) (xs.length + 1) 0 xs.length, []) := by
  obtain ⟨hns, -, -⟩ := nested_of_check h
  have := (flatG_seg xs (endsB xs) _ 0 xs.length hns (Nat.le_refl _) (xs.length + 1) (by omega)).1 rfl
  simpa using this
end CD
end Go.Proofs.YtnehiooioodkfaaDoor

/-
  CODE: whole programs, and their steps: one behind the other.
-/
set_option linter.unusedVariables false
set_option linter.unusedSimpArgs false
namespace Go.Proofs.YtnehiooioodkfaaDoor
open Go Go.RowKit
namespace CD
/-- A program in which every repeat has its end; its steps, whatever a finish says. -/
def Whole : Nat → List Op4 → List Op4 → Prop
  | 0, p, S => p = [] ∧ S = []
  | f + 1, p, S => (p = [] ∧ S = []) ∨
    (∃ o b e r B R, p = o :: (b ++ e :: r) ∧ S = (List.replicate o.n.toNat B).flatten ++ R ∧ o.kind = 10 ∧ e.kind = 11 ∧ Whole f b B ∧ Whole f r R) ∨
    (∃ o r R, p = o :: r ∧ o.kind = 5 ∧ S = List.replicate o.n.toNat work1 ++ R ∧ Whole f r R) ∨
    (∃ o r R, p = o :: r ∧ o.kind ≠ 10 ∧ o.kind ≠ 11 ∧ o.kind ≠ 5 ∧ S = o :: R ∧ Whole f r R)
theorem Whole.mono : ∀ {f f' : Nat} {p S : List Op4}, Whole f p S → f ≤ f' → Whole f' p S
  | 0, 0, _, _, h, _ => h
  | 0, f' + 1, _, _, h, _ => .inl h
  | f + 1, 0, _, _, _, hf => by omega
  | f + 1, f' + 1, _, _, h, hf => by
    rcases h with h | ⟨o, b, e, r, B, R, h1, h2, h3, h4, h5, h6⟩ | ⟨o, r, R, h1, h2, h3, h4⟩ | ⟨o, r, R, h1, h2, h3, h4, h5, h6⟩
    · exact .inl h
    · exact .inr (.inl ⟨o, b, e, r, B, R, h1, h2, h3, h4, h5.mono (by omega), h6.mono (by omega)⟩)
    · exact .inr (.inr (.inl ⟨o, r, R, h1, h2, h3, h4.mono (by omega)⟩))
    · exact .inr (.inr (.inr ⟨o, r, R, h1, h2, h3, h4, h5, h6.mono (by omega)⟩))
theorem Whole.append : ∀ {f g : Nat} {p S q T : List Op4}, Whole f p S → Whole g q T → Whole (f + g) (p ++ q) (S ++ T)
  | 0, g, p, S, q, T, h, k => by
    obtain ⟨rfl, rfl⟩ := h
    exact k.mono (by omega)
  | f + 1, g, p, S, q, T, h, k => by
    rw [show f + 1 + g = (f + g) + 1 by omega]
    rcases h with ⟨rfl, rfl⟩ | ⟨o, b, e, r, B, R, rfl, rfl, h3, h4, h5, h6⟩ | ⟨o, r, R, rfl, h2, rfl, h4⟩ | ⟨o, r, R, rfl, h2, h3, h4, rfl, h6⟩
    · exact k.mono (by omega)
    · exact .inr (.inl ⟨o, b, e, r ++ q, B, R ++ T, by simp, by simp, h3, h4, h5.mono (by omega), h6.append k⟩)
    · exact .inr (.inr (.inl ⟨o, r ++ q, R ++ T, by simp, h2, by simp, h4.append k⟩))
    · exact .inr (.inr (.inr ⟨o, r ++ q, R ++ T, by simp, h2, h3, h4, by simp, h6.append k⟩))
/-- It is read off from the front, up to the end behind it. -/
theorem Whole.flat : ∀ {f : Nat} {p S : List Op4}, Whole f p S → ∀ (m : Nat), (p.length < m → flatG m p = (S, [])) ∧ (∀ (e : Op4) (t : List Op4), e.kind = 11 → p.length + t.length + 1 < m → flatG m (p ++ e :: t) = (S, t))
  | 0, p, S, h, m => by
    obtain ⟨rfl, rfl⟩ := h
    refine ⟨fun _ => flatG_nil m, fun e t he hm => ?_⟩
    obtain ⟨m, rfl⟩ : ∃ k, m = k + 1 := ⟨m - 1, by omega⟩
    rw [List.nil_append, flatG, if_neg (by omega), if_pos he]
  | f + 1, p, S, h, m => by
    rcases h with ⟨rfl, rfl⟩ | ⟨o, b, e', r, B, R, rfl, rfl, h3, h4, h5, h6⟩ | ⟨o, r, R, rfl, h2, rfl, h4⟩ | ⟨o, r, R, rfl, h2, h3, h4, rfl, h6⟩
    · refine ⟨fun _ => flatG_nil m, fun e t he hm => ?_⟩
      obtain ⟨m, rfl⟩ : ∃ k, m = k + 1 := ⟨m - 1, by omega⟩
      rw [List.nil_append, flatG, if_neg (by omega), if_pos he]
    · refine ⟨fun hm => ?_, fun e t he hm => ?_⟩
      · obtain ⟨m, rfl⟩ : ∃ k, m = k + 1 := ⟨m - 1, by omega⟩
        simp only [List.length_cons, List.length_append] at hm
        rw [flatG, if_pos h3, (h5.flat m).2 e' r h4 (by omega)]
        simp only
        rw [(h6.flat m).1 (by omega)]
      · obtain ⟨m, rfl⟩ : ∃ k, m = k + 1 := ⟨m - 1, by omega⟩
        simp only [List.length_cons, List.length_append] at hm
        rw [List.cons_append, List.append_assoc, List.cons_append, flatG, if_pos h3, (h5.flat m).2 e' (r ++ e :: t) h4 (by simp; omega)]
        simp only
        rw [(h6.flat m).2 e t he (by omega)]
    · refine ⟨fun hm => ?_, fun e t he hm => ?_⟩
      · obtain ⟨m, rfl⟩ : ∃ k, m = k + 1 := ⟨m - 1, by omega⟩
        simp only [List.length_cons] at hm
        rw [flatG, if_neg (by omega), if_neg (by omega), if_pos h2, (h4.flat m).1 (by omega)]
      · obtain ⟨m, rfl⟩ : ∃ k, m = k + 1 := ⟨m - 1, by omega⟩
        simp only [List.length_cons] at hm
        rw [List.cons_append, flatG, if_neg (by omega), if_neg (by omega), if_pos h2, (h4.flat m).2 e t he (by omega)]
    · refine ⟨fun hm => ?_, fun e t he hm => ?_⟩
      · obtain ⟨m, rfl⟩ : ∃ k, m = k + 1 := ⟨m - 1, by omega⟩
        simp only [List.length_cons] at hm
        rw [flatG, if_neg h2, if_neg h3, if_neg h4, (h6.flat m).1 (by omega)]
      · obtain ⟨m, rfl⟩ : ∃ k, m = k + 1 := ⟨m - 1, by omega⟩
        simp only [List.length_cons] at hm
        rw [List.cons_append, flatG, if_neg h2, if_neg h3, if_neg h4, (h6.flat m).2 e t he (by omega)]
theorem Whole.uniq {f g : Nat} {p S T : List Op4} (h : Whole f p S) (k : Whole g p T) : S = T := by
  have h1 := (h.flat (p.length + 1)).1 (Nat.lt_succ_self _)
  have h2 := (k.flat (p.length + 1)).1 (Nat.lt_succ_self _)
  rw [h1] at h2
  injection h2
theorem drop_split {α : Type} {xs : List α} {i e j : Nat} {x : α} (h1 : i ≤ e) (h2 : e < j) (h3 : j ≤ xs.length) (hx : xs[e]? = some x) : (xs.drop i).take (j - i) = (xs.drop i).take (e - i) ++ x :: (xs.drop (e + 1)).take (j - (e + 1)) := by
  have a : (xs.drop i).take (j - i) = (xs.drop i).take (e - i) ++ ((xs.drop i).drop (e - i)).take (j - e) := by
    rw [show j - i = (e - i) + (j - e) by omega, List.take_add]
  rw [a, List.drop_drop, show i + (e - i) = e by omega, drop_cons hx, show j - e = (j - (e + 1)) + 1 by omega, List.take_succ_cons]
/-- A well nested part is whole. -/
theorem whole_seg (xs : List Op4) (E : List Int) : ∀ (f i j : Nat), NS xs E f i j = true → j ≤ xs.length → Whole f ((xs.drop i).take (j - i)) (segE xs E f i j)
  | 0, _, _, h, _ => by cases h
  | f + 1, i, j, h, hj => by
    by_cases hij : i < j
    · obtain ⟨f', x, hf, hx, hc⟩ := NS_in h hij
      injection hf with hf
      subst hf
      have hcons : (xs.drop i).take (j - i) = x :: (xs.drop (i + 1)).take (j - (i + 1)) := by rw [drop_cons hx, show j - i = (j - (i + 1)) + 1 by omega, List.take_succ_cons]
      rcases hc with ⟨h10, hn, e, he, he1, he2, hs1, hs2, hs⟩ | ⟨h5, hn, hs2, hs⟩ | ⟨h10, h5, h11, hs2, hs⟩
      · have hk11 := NS_end h hij hx h10
        rw [he, Int.toNat_natCast] at hk11
        obtain ⟨y, hy, hy2⟩ := Option.map_eq_some_iff.1 hk11
        rw [hcons, drop_split (show i + 1 ≤ e by omega) he2 hj hy, hs]
        exact .inr (.inl ⟨x, _, y, _, _, _, rfl, rfl, h10, hy2, whole_seg xs E f (i + 1) e hs1 (by omega), whole_seg xs E f (e + 1) j hs2 hj⟩)
      · rw [hcons, hs]
        exact .inr (.inr (.inl ⟨x, _, _, rfl, h5, rfl, whole_seg xs E f (i + 1) j hs2 hj⟩))
      · rw [hcons, hs]
        exact .inr (.inr (.inr ⟨x, _, _, rfl, h10, h11, h5, rfl, whole_seg xs E f (i + 1) j hs2 hj⟩))
    · have := NS_le xs E _ _ _ h
      obtain rfl : i = j := by omega
      rw [segE_nil, Nat.sub_self, List.take_zero]
      exact .inl ⟨rfl, rfl⟩
def segB (xs : List Op4) : List Op4 := segE xs (endsB xs) (xs.length + 1) 0 xs.length
theorem whole_of_check {xs : List Op4} (h : (checkB xs).2 = 0) : Whole (xs.length + 1) xs (segB xs) := by
  obtain ⟨hns, -, -⟩ := nested_of_check h
  have := whole_seg xs (endsB xs) _ 0 xs.length hns (Nat.le_refl _)
  unfold segB
  simpa using this
/-- Two programs, one behind the other. -/
theorem segB_append {p q : List Op4} (hp : (checkB p).2 = 0) (hq : (checkB q).2 = 0) (h : (checkB (p ++ q)).2 = 0) : segB (p ++ q) = segB p ++ segB q :=
  (whole_of_check h).uniq ((whole_of_check hp).append (whole_of_check hq))
end CD
end Go.Proofs.YtnehiooioodkfaaDoor

/-
  CODE: Check and the steps of two programs, one behind the other.
-/
set_option linter.unusedVariables false
set_option linter.unusedSimpArgs false
namespace Go.Proofs.YtnehiooioodkfaaDoor
open Go Go.RowKit
namespace CD
theorem checkG_app : ∀ (p q : List Op4) (i op : Nat), checkG p i op = (0, 0) → checkG (p ++ q) i op = checkG q (i + p.length) 0
  | [], q, i, op, h => by
    unfold checkG at h
    split at h
    · simp at h
    · rename_i h0
      obtain rfl : op = 0 := by omega
      rfl
  | o :: p, q, i, op, h => by
    have hf := checkG_fok h
    obtain ⟨kind, res, nn, vv⟩ := o
    by_cases h10 : kind = 10
    · subst h10
      have h2 := checkG_rep h
      rw [List.cons_append, checkG, if_neg hf, if_pos rfl]
      have h4 : ¬ op = 4 := by
        intro e
        rw [checkG, if_neg hf, if_pos rfl, if_pos e] at h
        simp at h
      rw [if_neg h4, checkG_app p q (i + 1) (op + 1) h2, List.length_cons, show i + 1 + p.length = i + (p.length + 1) by omega]
    · by_cases h11 : kind = 11
      · subst h11
        obtain ⟨hne, h2⟩ := checkG_end h
        rw [List.cons_append, checkG, if_neg hf, if_neg (by simp), if_pos rfl, if_neg hne, checkG_app p q (i + 1) (op - 1) h2, List.length_cons, show i + 1 + p.length = i + (p.length + 1) by omega]
      · have h2 : checkG p (i + 1) op = (0, 0) := by rw [← checkG_other h10 h11 h]; exact h
        rw [List.cons_append, checkG, if_neg hf, if_neg h10, if_neg h11, checkG_app p q (i + 1) op h2, List.length_cons, show i + 1 + p.length = i + (p.length + 1) by omega]
theorem checkG_shift : ∀ (p : List Op4) (i j op : Nat), checkG p i op = (0, 0) → checkG p j op = (0, 0)
  | [], i, j, op, h => by
    unfold checkG at h ⊢
    split at h
    · simp at h
    · rename_i h0; rw [if_neg h0]
  | o :: p, i, j, op, h => by
    have hf := checkG_fok h
    obtain ⟨kind, res, nn, vv⟩ := o
    by_cases h10 : kind = 10
    · subst h10
      have h2 := checkG_shift p _ (j + 1) _ (checkG_rep h)
      have h4 : ¬ op = 4 := by
        intro e
        rw [checkG, if_neg hf, if_pos rfl, if_pos e] at h
        simp at h
      rw [checkG, if_neg hf, if_pos rfl, if_neg h4, h2]
    · by_cases h11 : kind = 11
      · subst h11
        obtain ⟨hne, h2⟩ := checkG_end h
        rw [checkG, if_neg hf, if_neg (by simp), if_pos rfl, if_neg hne]
        exact checkG_shift p _ _ _ h2
      · have h2 : checkG p (i + 1) op = (0, 0) := by rw [← checkG_other h10 h11 h]; exact h
        rw [checkG, if_neg hf, if_neg h10, if_neg h11]
        exact checkG_shift p _ _ _ h2
theorem checkB_zero {xs : List Op4} (h : (checkB xs).2 = 0) : xs.length ≤ 256 ∧ checkG xs 0 0 = (0, 0) := by
  unfold checkB at h
  split at h
  · cases h
  · exact ⟨by omega, checkG_zero _ _ _ h⟩
theorem checkB_append {p q : List Op4} (hp : (checkB p).2 = 0) (hq : (checkB q).2 = 0) (hl : p.length + q.length ≤ 256) : (checkB (p ++ q)).2 = 0 := by
  obtain ⟨-, h1⟩ := checkB_zero hp
  obtain ⟨-, h2⟩ := checkB_zero hq
  unfold checkB
  rw [if_neg (by rw [List.length_append]; omega), checkG_app p q 0 0 h1, checkG_shift q _ _ _ h2]
/-- The same steps from another count on, as far as there is room. -/
theorem runG_at : ∀ (a : List Op4) (k k' : Nat), (runG a k).2.1 = false → k' + (runG a k).1.length ≤ 4096 → (k' + (runG a k).1.length = 4096 → (runG a k).2.2 = false ∨ k' + a.length = 4096) → runG a k' = runG a k
  | [], _, _, _, _, _ => rfl
  | o :: r, k, k', ho, hl, hx => by
    by_cases hk : k = 4096
    · subst hk; rw [runG_over] at ho; cases ho
    · by_cases h9 : o.kind = 9
      · rw [runG_fin _ _ _ hk h9] at hl ⊢
        simp only [List.length_singleton] at hl
        rw [runG_fin _ _ _ (by omega) h9]
      · rw [runG_one _ _ _ hk h9] at ho hl hx ⊢
        have hl2 : (comb [o] (runG r (k + 1))).1.length = (runG r (k + 1)).1.length + 1 := by simp [comb]
        rw [hl2] at hl hx
        rw [runG_one _ _ _ (by omega) h9, runG_at r (k + 1) (k' + 1) ho (by omega) (fun e => by
          rcases hx (by omega) with h | h
          · exact .inl h
          · right; simp only [List.length_cons] at h; omega)]
theorem runG_past : ∀ (a : List Op4) (k k' : Nat), (runG a k).2.1 = false → k' ≤ 4096 → 4096 < k' + (runG a k).1.length → (runG a k').2 = (true, false)
  | [], _, _, _, _, h => by simp [runG] at h; omega
  | o :: r, k, k', ho, hk', h => by
    by_cases hk : k = 4096
    · subst hk; rw [runG_over] at ho; cases ho
    · by_cases he : k' = 4096
      · subst he; rw [runG_over]
      · by_cases h9 : o.kind = 9
        · rw [runG_fin _ _ _ hk h9] at h
          simp only [List.length_singleton] at h
          omega
        · rw [runG_one _ _ _ hk h9] at ho h
          have hl2 : (comb [o] (runG r (k + 1))).1.length = (runG r (k + 1)).1.length + 1 := by simp [comb]
          rw [hl2] at h
          rw [runG_one _ _ _ he h9]
          exact runG_past r (k + 1) (k' + 1) ho (by omega) (by omega)
end CD
end Go.Proofs.YtnehiooioodkfaaDoor

/-
  CODE: the steps of two programs, one behind the other (plain).
-/
set_option linter.unusedVariables false
set_option linter.unusedSimpArgs false
namespace Go.Proofs.YtnehiooioodkfaaDoor
open Go Go.RowKit
namespace CD
def finO : Op4 := ⟨9, 0, 0, 0⟩
/-- What Steps makes of the steps told. -/
def res (x : List Op4 × Bool × Bool) : List Op4 × Int := if x.2.2 = true then (if x.1.length = 4096 then ([], 5) else (x.1 ++ [finO], 0)) else if x.2.1 = true then ([], 5) else (x.1, 0)
theorem listB_res {xs : List Op4} (h : (checkB xs).2 = 0) : listB xs = res (runG (segB xs) 0) := by
  change listB xs = res (allE xs)
  unfold listB countB
  rw [if_pos h]
  unfold walkN walkT res
  by_cases hm : (allE xs).2.2 = true
  · rw [if_pos hm, if_pos hm]
    by_cases hk : (allE xs).1.length = 4096
    · rw [if_pos hk, if_pos hk, if_neg (by decide)]
    · rw [if_neg hk, if_neg hk, if_pos rfl, if_pos ⟨hm, hk⟩]; rfl
  · rw [if_neg hm, if_neg hm]
    by_cases ho : (allE xs).2.1 = true
    · rw [if_pos ho, if_pos ho, if_neg (by decide)]
    · rw [if_neg ho, if_neg ho, if_pos rfl, if_neg (fun h => hm h.1)]
theorem segE_from (xs : List Op4) (E : List Int) : ∀ (f i j : Nat), ∀ o ∈ segE xs E f i j, o = work1 ∨ o ∈ xs
  | 0, _, _, _, ho => by cases ho
  | f + 1, i, j, o, ho => by
    rw [segE] at ho
    split at ho
    · cases ho
    · split at ho
      · cases ho
      · rename_i x hx
        split at ho
        · rcases List.mem_append.1 ho with ho | ho
          · obtain ⟨l, hl, ho⟩ := List.mem_flatten.1 ho
            rw [List.eq_of_mem_replicate hl] at ho
            exact segE_from xs E f _ _ o ho
          · exact segE_from xs E f _ _ o ho
        · split at ho
          · rcases List.mem_append.1 ho with ho | ho
            · exact .inl (List.eq_of_mem_replicate ho)
            · exact segE_from xs E f _ _ o ho
          · rcases List.mem_cons.1 ho with rfl | ho
            · exact .inr (List.mem_of_getElem? hx)
            · exact segE_from xs E f _ _ o ho
/-- No finish in it: all of it is told, with room for the finish. -/
theorem no_fin {p : List Op4} (hc : (checkB p).2 = 0) (h : (listB p).2 = 0) (h9 : ∀ o ∈ p, o.kind ≠ 9) : runG (segB p) 0 = (segB p, false, true) ∧ (segB p).length < 4096 ∧ (listB p).1 = segB p ++ [finO] := by
  have h9' : ∀ o ∈ segB p, o.kind ≠ 9 := fun o ho => by
    rcases segE_from _ _ _ _ _ o ho with rfl | ho
    · decide
    · exact h9 o ho
  have hl := runG_len (segB p) 0 (by omega)
  rw [listB_res hc] at h ⊢
  by_cases hm : (runG (segB p) 0).2.2 = true
  · obtain ⟨e1, e2⟩ := runG_more _ _ hm
    have e : runG (segB p) 0 = (segB p, false, true) := Prod.ext e1 (Prod.ext e2 hm)
    rw [e] at h hl ⊢
    unfold res at h ⊢
    rw [if_pos rfl] at h ⊢
    by_cases hk : (segB p).length = 4096
    · rw [if_pos hk] at h; cases h
    · rw [if_neg hk]
      exact ⟨rfl, by simp only at hl; omega, rfl⟩
  · exfalso
    unfold res at h
    rw [if_neg hm] at h
    by_cases ho : (runG (segB p) 0).2.1 = true
    · rw [if_pos ho] at h; cases h
    · have h2 : (runG (segB p) 0).2 = (false, false) := Prod.ext (by simpa using ho) (by simpa using hm)
      obtain ⟨b, f, h3, h4, -⟩ := runG_end _ _ h2
      exact h9' f (runG_sub _ 0 f (by rw [h3]; simp)) h4
theorem joined {p q : List Op4} (hl : p.length + q.length ≤ 256) (hp : (checkB p).2 = 0) (hq : (checkB q).2 = 0) (h1 : (listB p).2 = 0) (h2 : (listB q).2 = 0) (h9 : ∀ o ∈ p, o.kind ≠ 9) :
    (4096 < ((listB p).1.dropLast ++ (listB q).1).length → listB (p ++ q) = ([], 5)) ∧ (¬ 4096 < ((listB p).1.dropLast ++ (listB q).1).length → listB (p ++ q) = ((listB p).1.dropLast ++ (listB q).1, 0)) := by
  have hpq := checkB_append hp hq hl
  obtain ⟨e1, e2, e3⟩ := no_fin hp h1 h9
  have hm : (runG (segB p) 0).2.2 = true := by rw [e1]
  rw [listB_res hpq, segB_append hp hq hpq, runG_append, if_pos hm, e1, e3, List.dropLast_concat]
  simp only [Nat.zero_add]
  have hlq := runG_len (segB q) 0 (by omega)
  rw [listB_res hq] at h2 ⊢
  generalize hK : (segB p).length = K at *
  by_cases hqm : (runG (segB q) 0).2.2 = true
  · obtain ⟨f1, f2⟩ := runG_more _ _ hqm
    have hq2 : res (runG (segB q) 0) = (segB q ++ [finO], 0) := by
      unfold res at h2 ⊢
      rw [if_pos hqm] at h2 ⊢
      by_cases hk : (runG (segB q) 0).1.length = 4096
      · rw [if_pos hk] at h2; cases h2
      · rw [if_neg hk, f1]
    rw [hq2]
    simp only [List.length_append, List.length_singleton, hK]
    by_cases hbig : 4096 < K + (segB q).length
    · have hov := runG_past (segB q) 0 K f2 (by omega) (by rw [f1]; exact hbig)
      refine ⟨fun _ => ?_, fun h => absurd (by omega) h⟩
      unfold res
      rw [if_neg (by simp [comb, hov]), if_pos (by simp [comb, hov])]
    · have hat := runG_at (segB q) 0 K f2 (by rw [f1]; omega) (fun h => .inr (by rw [f1] at h; exact h))
      have hy : runG (segB q) 0 = (segB q, false, true) := Prod.ext f1 (Prod.ext f2 hqm)
      rw [hat, hy]
      unfold res comb
      simp only [if_true, List.length_append, hK]
      refine ⟨fun h => ?_, fun h => ?_⟩
      · rw [if_pos (by omega)]
      · rw [if_neg (by omega), List.append_assoc]
  · have hqo : (runG (segB q) 0).2.1 = false := by
      cases ho : (runG (segB q) 0).2.1 with
      | false => rfl
      | true => unfold res at h2; rw [if_neg hqm, if_pos ho] at h2; cases h2
    have hq2 : res (runG (segB q) 0) = ((runG (segB q) 0).1, 0) := by
      unfold res
      rw [if_neg hqm, if_neg (by rw [hqo]; simp)]
    rw [hq2]
    simp only [List.length_append, hK]
    by_cases hbig : 4096 < K + (runG (segB q) 0).1.length
    · have hov := runG_past (segB q) 0 K hqo (by omega) hbig
      refine ⟨fun _ => ?_, fun h => absurd hbig h⟩
      unfold res
      rw [if_neg (by simp [comb, hov]), if_pos (by simp [comb, hov])]
    · have hat := runG_at (segB q) 0 K hqo (by omega) (fun h => .inl (by simpa using hqm))
      rw [hat]
      refine ⟨fun h => absurd h hbig, fun _ => ?_⟩
      unfold res
      rw [if_neg (by simpa [comb] using hqm), if_neg (by simp [comb, hqo])]
      rfl
end CD
end Go.Proofs.YtnehiooioodkfaaDoor

/-
  CODE: a repeat is its inside so often (plain).
-/
set_option linter.unusedVariables false
set_option linter.unusedSimpArgs false
namespace Go.Proofs.YtnehiooioodkfaaDoor
open Go Go.RowKit
namespace CD
/-- How many repeats are open behind operations; none: one of them is wrong. -/
def opG : List Op4 → Nat → Option Nat
  | [], op => some op
  | o :: r, op => if fieldsB o = false then none else if o.kind = 10 then (if op = 4 then none else opG r (op + 1)) else if o.kind = 11 then (if op = 0 then none else opG r (op - 1)) else opG r op
theorem opG_check : ∀ (xs : List Op4) (i op : Nat), checkG xs i op = (0, 0) ↔ opG xs op = some 0
  | [], i, op => by
    rw [opG]
    constructor
    · intro h
      unfold checkG at h
      split at h
      · simp at h
      · rename_i h0; rw [show op = 0 by omega]
    · intro h
      injection h with h
      subst h
      unfold checkG
      rw [if_neg (by omega)]
  | o :: r, i, op => by
    rw [opG, checkG]
    by_cases hf : fieldsB o = false
    · rw [if_pos hf, if_pos hf]
      simp
    · rw [if_neg hf, if_neg hf]
      by_cases h10 : o.kind = 10
      · rw [if_pos h10, if_pos h10]
        by_cases h4 : op = 4
        · rw [if_pos h4, if_pos h4]; simp
        · rw [if_neg h4, if_neg h4]; exact opG_check r _ _
      · rw [if_neg h10, if_neg h10]
        by_cases h11 : o.kind = 11
        · rw [if_pos h11, if_pos h11]
          by_cases h0 : op = 0
          · rw [if_pos h0, if_pos h0]; simp
          · rw [if_neg h0, if_neg h0]; exact opG_check r _ _
        · rw [if_neg h11, if_neg h11]; exact opG_check r _ _
theorem opG_append : ∀ (a b : List Op4) (op : Nat), opG (a ++ b) op = (opG a op).bind fun m => opG b m
  | [], b, op => rfl
  | o :: r, b, op => by
    rw [List.cons_append, opG, opG]
    by_cases hf : fieldsB o = false
    · rw [if_pos hf, if_pos hf]; rfl
    · rw [if_neg hf, if_neg hf]
      by_cases h10 : o.kind = 10
      · rw [if_pos h10, if_pos h10]
        by_cases h4 : op = 4
        · rw [if_pos h4, if_pos h4]; rfl
        · rw [if_neg h4, if_neg h4]; exact opG_append r b _
      · rw [if_neg h10, if_neg h10]
        by_cases h11 : o.kind = 11
        · rw [if_pos h11, if_pos h11]
          by_cases h0 : op = 0
          · rw [if_pos h0, if_pos h0]; rfl
          · rw [if_neg h0, if_neg h0]; exact opG_append r b _
        · rw [if_neg h11, if_neg h11]; exact opG_append r b _
/-- Deeper in, the same, unless it is too deep. -/
theorem opG_deep : ∀ (a : List Op4) (op m d n : Nat), opG a op = some m → opG a (op + d) = some n → n = m + d
  | [], op, m, d, n, h, k => by simp only [opG, Option.some.injEq] at h k; omega
  | o :: r, op, m, d, n, h, k => by
    rw [opG] at h k
    by_cases hf : fieldsB o = false
    · rw [if_pos hf] at h; cases h
    · rw [if_neg hf] at h k
      by_cases h10 : o.kind = 10
      · rw [if_pos h10] at h k
        by_cases h4 : op = 4
        · rw [if_pos h4] at h; cases h
        · rw [if_neg h4] at h
          by_cases h4' : op + d = 4
          · rw [if_pos h4'] at k; cases k
          · rw [if_neg h4'] at k
            exact opG_deep r (op + 1) m d n h (by rw [show op + 1 + d = op + d + 1 by omega]; exact k)
      · rw [if_neg h10] at h k
        by_cases h11 : o.kind = 11
        · rw [if_pos h11] at h k
          by_cases h0 : op = 0
          · rw [if_pos h0] at h; cases h
          · rw [if_neg h0] at h
            rw [if_neg (by omega)] at k
            exact opG_deep r (op - 1) m d n h (by rw [show op - 1 + d = op + d - 1 by omega]; exact k)
        · rw [if_neg h11] at h k
          exact opG_deep r op m d n h k
def manyL (n : Nat) (p : List Op4) : List Op4 := (List.replicate n p).flatten
theorem checkB_op {xs : List Op4} : (checkB xs).2 = 0 ↔ xs.length ≤ 256 ∧ opG xs 0 = some 0 := by
  constructor
  · intro h
    obtain ⟨h1, h2⟩ := checkB_zero h
    exact ⟨h1, (opG_check _ _ _).1 h2⟩
  · intro ⟨h1, h2⟩
    unfold checkB
    rw [if_neg (by omega), (opG_check _ 0 _).2 h2]
theorem many_op (p : List Op4) (h : opG p 0 = some 0) : ∀ n, opG (manyL n p) 0 = some 0
  | 0 => rfl
  | n + 1 => by
    unfold manyL
    rw [List.replicate_succ, List.flatten_cons, opG_append, h]
    exact many_op p h n
theorem many_whole {f : Nat} {p S : List Op4} (h : Whole f p S) : ∀ n, ∃ g, Whole g (manyL n p) (List.replicate n S).flatten
  | 0 => ⟨0, rfl, rfl⟩
  | n + 1 => by
    obtain ⟨g, hg⟩ := many_whole h n
    refine ⟨f + g, ?_⟩
    unfold manyL
    rw [List.replicate_succ, List.flatten_cons, List.replicate_succ, List.flatten_cons]
    exact h.append hg
/-- A repeat is as good as its inside so many times. -/
theorem repeats {ahead p : List Op4} {n : Nat} (hl : ahead.length + n * p.length ≤ 256) (hp : (checkB p).2 = 0) (ha : (checkB (ahead ++ ⟨10, 0, (n : Int), 0⟩ :: (p ++ [⟨11, 0, 0, 0⟩]))).2 = 0) :
    listB (ahead ++ manyL n p) = listB (ahead ++ ⟨10, 0, (n : Int), 0⟩ :: (p ++ [⟨11, 0, 0, 0⟩])) := by
  obtain ⟨-, hpo⟩ := checkB_op.1 hp
  obtain ⟨-, hao⟩ := checkB_op.1 ha
  have hah : opG ahead 0 = some 0 := by
    rw [opG_append] at hao
    cases hs : opG ahead 0 with
    | none => rw [hs] at hao; cases hao
    | some s =>
      rw [hs] at hao
      simp only [Option.bind_some] at hao
      rw [opG] at hao
      split at hao
      · cases hao
      · rw [if_pos rfl] at hao
        split at hao
        · cases hao
        · rw [opG_append] at hao
          cases hm : opG p (s + 1) with
          | none => rw [hm] at hao; cases hao
          | some m =>
            rw [hm] at hao
            have e := opG_deep p 0 0 (s + 1) m hpo (by rw [Nat.zero_add]; exact hm)
            simp only [Option.bind_some] at hao
            rw [opG] at hao
            split at hao
            · cases hao
            · rw [if_neg (by simp), if_pos rfl] at hao
              split at hao
              · cases hao
              · rw [opG] at hao
                injection hao with hao
                rw [show s = 0 by omega]
  have hlen : (ahead ++ manyL n p).length ≤ 256 := by
    unfold manyL
    rw [List.length_append, List.length_flatten, List.map_replicate, List.sum_replicate_nat]
    exact hl
  have hb : (checkB (ahead ++ manyL n p)).2 = 0 := checkB_op.2 ⟨hlen, by rw [opG_append, hah]; exact many_op p hpo n⟩
  have hal : (checkB ahead).2 = 0 := checkB_op.2 ⟨by rw [List.length_append] at hlen; omega, hah⟩
  obtain ⟨g, hg⟩ := many_whole (whole_of_check hp) n
  have w1 := (whole_of_check hal).append hg
  have hrep : Whole (p.length + 1 + 1) (⟨10, 0, (n : Int), 0⟩ :: (p ++ ⟨11, 0, 0, 0⟩ :: [])) ((List.replicate (n : Int).toNat (segB p)).flatten ++ []) :=
    .inr (.inl ⟨⟨10, 0, (n : Int), 0⟩, p, ⟨11, 0, 0, 0⟩, [], segB p, [], rfl, rfl, rfl, rfl, whole_of_check hp, .inl ⟨rfl, rfl⟩⟩)
  have w2 := (whole_of_check hal).append hrep
  rw [Int.toNat_natCast, List.append_nil] at w2
  rw [listB_res hb, listB_res ha, (whole_of_check hb).uniq w1, (whole_of_check ha).uniq w2]
end CD
end Go.Proofs.YtnehiooioodkfaaDoor

/-
  CODE: behind a finish nothing counts; Count is the length of Steps (plain).
-/
set_option linter.unusedVariables false
set_option linter.unusedSimpArgs false
namespace Go.Proofs.YtnehiooioodkfaaDoor
open Go Go.RowKit
namespace CD
theorem count_len {xs : List Op4} (h : (listB xs).2 = 0) : countB xs = (((listB xs).1.length : Int), 0) := by
  have hc : (countB xs).2 = 0 := by
    unfold listB at h
    by_cases h0 : (countB xs).2 = 0
    · exact h0
    · rw [if_neg h0] at h; exact h
  have hck : (checkB xs).2 = 0 := by
    unfold countB at hc
    by_cases h0 : (checkB xs).2 = 0
    · exact h0
    · rw [if_neg h0] at hc; exact hc
  have hL : (listB xs).1 = walkT xs := by unfold listB; rw [if_pos hc]
  rw [hL]
  unfold countB at hc ⊢
  rw [if_pos hck] at hc ⊢
  unfold walkN at hc ⊢
  unfold walkT
  by_cases hm : (allE xs).2.2 = true
  · rw [if_pos hm] at hc ⊢
    by_cases hk : (allE xs).1.length = 4096
    · rw [if_pos hk] at hc; cases hc
    · rw [if_neg hk, if_pos ⟨hm, hk⟩]
      simp
  · rw [if_neg hm] at hc ⊢
    by_cases ho : (allE xs).2.1 = true
    · rw [if_pos ho] at hc; cases hc
    · rw [if_neg ho, if_neg (fun h : (allE xs).2.2 = true ∧ _ => hm h.1)]
theorem behind_fin {p q : List Op4} (hl : p.length + q.length < 256) (hp : (checkB p).2 = 0) (hq : (checkB q).2 = 0) (h1 : (listB p).2 = 0) (h9 : ∀ o ∈ p, o.kind ≠ 9) : listB (p ++ finO :: q) = listB p := by
  obtain ⟨-, hpo⟩ := checkB_op.1 hp
  obtain ⟨-, hqo⟩ := checkB_op.1 hq
  have hc : (checkB (p ++ finO :: q)).2 = 0 := checkB_op.2 ⟨by rw [List.length_append, List.length_cons]; omega, by
    rw [opG_append, hpo]
    simp only [Option.bind_some]
    rw [opG, if_neg (by decide), if_neg (by decide), if_neg (by decide)]
    exact hqo⟩
  obtain ⟨e1, e2, e3⟩ := no_fin hp h1 h9
  have hm : (runG (segB p) 0).2.2 = true := by rw [e1]
  have hw : Whole (q.length + 1 + 1) (finO :: q) (finO :: segB q) := .inr (.inr (.inr ⟨finO, q, segB q, rfl, by decide, by decide, by decide, rfl, whole_of_check hq⟩))
  rw [listB_res hc, (whole_of_check hc).uniq ((whole_of_check hp).append hw), runG_append, if_pos hm, e1]
  simp only [Nat.zero_add]
  rw [runG_fin _ _ _ (by omega) (by decide)]
  have h0 : listB p = (segB p ++ [finO], 0) := Prod.ext e3 h1
  rw [h0]
  rfl
end CD
end Go.Proofs.YtnehiooioodkfaaDoor
