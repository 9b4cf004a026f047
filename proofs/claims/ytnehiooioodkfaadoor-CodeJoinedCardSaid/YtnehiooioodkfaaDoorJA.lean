/-
  CODE: the steps of two programs, one behind the other (plain).
-/
import Derived.Test.YtnehiooioodkfaaDoorKZ
set_option linter.unusedVariables false
set_option linter.unusedSimpArgs false
namespace Go.Proofs.YtnehiooioodkfaaDoor
open Go Go.RowKit
namespace CD
def finO : Op4 := ⟨9, 0, 0, 0⟩
/-- What Steps makes of the steps told. -/
def res (x : List Op4 × Bool × Bool) : List Op4 × Int := if x.2.2 = true then (if x.1.length = 4096 then ([], 5) else (x.1 ++ [finO], 0)) else if x.2.1 = true then ([], 5) else (x.1, 0)
theorem listB_res {xs : List Op4} (h : (checkB xs).2 = 0) : listB xs = res (runG (segB xs) 0) := by
  change listB xs = res (allE xs)
  unfold listB countB
  rw [if_pos h]
  unfold walkN walkT res
  by_cases hm : (allE xs).2.2 = true
  · rw [if_pos hm, if_pos hm]
    by_cases hk : (allE xs).1.length = 4096
    · rw [if_pos hk, if_pos hk, if_neg (by decide)]
    · rw [if_neg hk, if_neg hk, if_pos rfl, if_pos ⟨hm, hk⟩]; rfl
  · rw [if_neg hm, if_neg hm]
    by_cases ho : (allE xs).2.1 = true
    · rw [if_pos ho, if_pos ho, if_neg (by decide)]
    · rw [if_neg ho, if_neg ho, if_pos rfl, if_neg (fun h => hm h.1)]
theorem segE_from (xs : List Op4) (E : List Int) : ∀ (f i j : Nat), ∀ o ∈ segE xs E f i j, o = work1 ∨ o ∈ xs
  | 0, _, _, _, ho => by cases ho
  | f + 1, i, j, o, ho => by
    rw [segE] at ho
    split at ho
    · cases ho
    · split at ho
      · cases ho
      · rename_i x hx
        split at ho
        · rcases List.mem_append.1 ho with ho | ho
          · obtain ⟨l, hl, ho⟩ := List.mem_flatten.1 ho
            rw [List.eq_of_mem_replicate hl] at ho
            exact segE_from xs E f _ _ o ho
          · exact segE_from xs E f _ _ o ho
        · split at ho
          · rcases List.mem_append.1 ho with ho | ho
            · exact .inl (List.eq_of_mem_replicate ho)
            · exact segE_from xs E f _ _ o ho
          · rcases List.mem_cons.1 ho with rfl | ho
            · exact .inr (List.mem_of_getElem? hx)
            · exact segE_from xs E f _ _ o ho
/-- No finish in it: all of it is told, with room for the finish. -/
theorem no_fin {p : List Op4} (hc : (checkB p).2 = 0) (h : (listB p).2 = 0) (h9 : ∀ o ∈ p, o.kind ≠ 9) : runG (segB p) 0 = (segB p, false, true) ∧ (segB p).length < 4096 ∧ (listB p).1 = segB p ++ [finO] := by
  have h9' : ∀ o ∈ segB p, o.kind ≠ 9 := fun o ho => by
    rcases segE_from _ _ _ _ _ o ho with rfl | ho
    · decide
    · exact h9 o ho
  have hl := runG_len (segB p) 0 (by omega)
  rw [listB_res hc] at h ⊢
  by_cases hm : (runG (segB p) 0).2.2 = true
  · obtain ⟨e1, e2⟩ := runG_more _ _ hm
    have e : runG (segB p) 0 = (segB p, false, true) := Prod.ext e1 (Prod.ext e2 hm)
    rw [e] at h hl ⊢
    unfold res at h ⊢
    rw [if_pos rfl] at h ⊢
    by_cases hk : (segB p).length = 4096
    · rw [if_pos hk] at h; cases h
    · rw [if_neg hk]
      exact ⟨rfl, by simp only at hl; omega, rfl⟩
  · exfalso
    unfold res at h
    rw [if_neg hm] at h
    by_cases ho : (runG (segB p) 0).2.1 = true
    · rw [if_pos ho] at h; cases h
    · have h2 : (runG (segB p) 0).2 = (false, false) := Prod.ext (by simpa using ho) (by simpa using hm)
      obtain ⟨b, f, h3, h4, -⟩ := runG_end _ _ h2
      exact h9' f (runG_sub _ 0 f (by rw [h3]; simp)) h4
theorem joined {p q : List Op4} (hl : p.length + q.length ≤ 256) (hp : (checkB p).2 = 0) (hq : (checkB q).2 = 0) (h1 : (listB p).2 = 0) (h2 : (listB q).2 = 0) (h9 : ∀ o ∈ p, o.kind ≠ 9) :
    (4096 < ((listB p).1.dropLast ++ (listB q).1).length → listB (p ++ q) = ([], 5)) ∧ (¬ 4096 < ((listB p).1.dropLast ++ (listB q).1).length → listB (p ++ q) = ((listB p).1.dropLast ++ (listB q).1, 0)) := by
  have hpq := checkB_append hp hq hl
  obtain ⟨e1, e2, e3⟩ := no_fin hp h1 h9
  have hm : (runG (segB p) 0).2.2 = true := by rw [e1]
  rw [listB_res hpq, segB_append hp hq hpq, runG_append, if_pos hm, e1, e3, List.dropLast_concat]
  simp only [Nat.zero_add]
  have hlq := runG_len (segB q) 0 (by omega)
  rw [listB_res hq] at h2 ⊢
  generalize hK : (segB p).length = K at *
  by_cases hqm : (runG (segB q) 0).2.2 = true
  · obtain ⟨f1, f2⟩ := runG_more _ _ hqm
    have hq2 : res (runG (segB q) 0) = (segB q ++ [finO], 0) := by
      unfold res at h2 ⊢
      rw [if_pos hqm] at h2 ⊢
      by_cases hk : (runG (segB q) 0).1.length = 4096
      · rw [if_pos hk] at h2; cases h2
      · rw [if_neg hk, f1]
    rw [hq2]
    simp only [List.length_append, List.length_singleton, hK]
    by_cases hbig : 4096 < K + (segB q).length
    · have hov := runG_past (segB q) 0 K f2 (by omega) (by rw [f1]; exact hbig)
      refine ⟨fun _ => ?_, fun h => absurd (by omega) h⟩
      unfold res
      rw [if_neg (by simp [comb, hov]), if_pos (by simp [comb, hov])]
    · have hat := runG_at (segB q) 0 K f2 (by rw [f1]; omega) (fun h => .inr (by rw [f1] at h; exact h))
      have hy : runG (segB q) 0 = (segB q, false, true) := Prod.ext f1 (Prod.ext f2 hqm)
      rw [hat, hy]
      unfold res comb
      simp only [if_true, List.length_append, hK]
      refine ⟨fun h => ?_, fun h => ?_⟩
      · rw [if_pos (by omega)]
      · rw [if_neg (by omega), List.append_assoc]
  · have hqo : (runG (segB q) 0).2.1 = false := by
      cases ho : (runG (segB q) 0).2.1 with
      | false => rfl
      | true => unfold res at h2; rw [if_neg hqm, if_pos ho] at h2; cases h2
    have hq2 : res (runG (segB q) 0) = ((runG (segB q) 0).1, 0) := by
      unfold res
      rw [if_neg hqm, if_neg (by rw [hqo]; simp)]
    rw [hq2]
    simp only [List.length_append, hK]
    by_cases hbig : 4096 < K + (runG (segB q) 0).1.length
    · have hov := runG_past (segB q) 0 K hqo (by omega) hbig
      refine ⟨fun _ => ?_, fun h => absurd hbig h⟩
      unfold res
      rw [if_neg (by simp [comb, hov]), if_pos (by simp [comb, hov])]
    · have hat := runG_at (segB q) 0 K hqo (by omega) (fun h => .inl (by simpa using hqm))
      rw [hat]
      refine ⟨fun h => absurd h hbig, fun _ => ?_⟩
      unfold res
      rw [if_neg (by simpa [comb] using hqm), if_neg (by simp [comb, hqo])]
      rfl
end CD
end Go.Proofs.YtnehiooioodkfaaDoor
