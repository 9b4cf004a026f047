/-
  CODE: the steps of a program without places: read off from the front.
-/
import Derived.Test.YtnehiooioodkfaaDoorKO
set_option linter.unusedVariables false
set_option linter.unusedSimpArgs false
namespace Go.Proofs.YtnehiooioodkfaaDoor
open Go Go.RowKit
namespace CD
/-- The steps up to an end that nothing opened, and what stands behind it. -/
def flatG : Nat → List Op4 → List Op4 × List Op4
  | 0, l => ([], l)
  | _ + 1, [] => ([], [])
  | f + 1, o :: r =>
    if o.kind = 10 then ((List.replicate o.n.toNat (flatG f r).1).flatten ++ (flatG f (flatG f r).2).1, (flatG f (flatG f r).2).2)
    else if o.kind = 11 then ([], r)
    else if o.kind = 5 then (List.replicate o.n.toNat work1 ++ (flatG f r).1, (flatG f r).2)
    else (o :: (flatG f r).1, (flatG f r).2)
theorem flatG_nil (f : Nat) : flatG f [] = ([], []) := by cases f <;> rfl
theorem flatG_rest : ∀ (f : Nat) (l : List Op4), (flatG f l).2.length ≤ l.length
  | 0, l => Nat.le_refl _
  | f + 1, [] => Nat.le_refl _
  | f + 1, o :: r => by
    rw [flatG]
    have h1 := flatG_rest f r
    have h2 := flatG_rest f (flatG f r).2
    split
    · simp only [List.length_cons]; omega
    · split
      · simp
      · split
        · simp only [List.length_cons]; omega
        · simp only [List.length_cons]; omega
/-- More fuel changes nothing. -/
theorem flatG_fuel : ∀ (f f' : Nat) (l : List Op4), l.length < f → l.length < f' → flatG f l = flatG f' l
  | 0, _, l, h, _ => by omega
  | f + 1, 0, l, _, h => by omega
  | f + 1, f' + 1, [], _, _ => rfl
  | f + 1, f' + 1, o :: r, h, h' => by
    simp only [List.length_cons] at h h'
    have e1 := flatG_fuel f f' r (by omega) (by omega)
    have hr := flatG_rest f' r
    have e2 := flatG_fuel f f' (flatG f' r).2 (by omega) (by omega)
    rw [flatG, flatG, e1, e2]
/-- What is well nested up to an end (or the end of all) is read off so. -/
theorem flatG_seg (xs : List Op4) (E : List Int) : ∀ (f i j : Nat), NS xs E f i j = true → j ≤ xs.length → ∀ (m : Nat), xs.length - i < m →
    (j = xs.length → flatG m (xs.drop i) = (segE xs E f i j, [])) ∧
    (∀ o, xs[j]? = some o → o.kind = 11 → flatG m (xs.drop i) = (segE xs E f i j, xs.drop (j + 1)))
  | 0, _, _, h, _, _, _ => by cases h
  | f + 1, i, j, h, hj, m, hm => by
    obtain ⟨m, rfl⟩ : ∃ m', m = m' + 1 := ⟨m - 1, by omega⟩
    by_cases hij : i < j
    · obtain ⟨f', x, hf, hx, hc⟩ := NS_in h hij
      injection hf with hf
      subst hf
      rw [drop_cons hx]
      rcases hc with ⟨h10, hn, e, he, he1, he2, hs1, hs2, hs⟩ | ⟨h5, hn, hs2, hs⟩ | ⟨h10, h5, h11, hs2, hs⟩
      · have hk11 := NS_end h hij hx h10
        rw [he, Int.toNat_natCast] at hk11
        obtain ⟨y, hy, hy2⟩ := Option.map_eq_some_iff.1 hk11
        obtain ⟨-, b1⟩ := flatG_seg xs E f (i + 1) e hs1 (by omega) m (by omega)
        have b2 := b1 y hy hy2
        obtain ⟨a3, b3⟩ := flatG_seg xs E f (e + 1) j hs2 hj m (by omega)
        refine ⟨fun hje => ?_, fun o ho h11 => ?_⟩
        · rw [flatG, if_pos h10, b2]
          simp only
          rw [a3 hje, hs]
        · rw [flatG, if_pos h10, b2]
          simp only
          rw [b3 o ho h11, hs]
      · obtain ⟨a, b⟩ := flatG_seg xs E f (i + 1) j hs2 hj m (by omega)
        have hne : ¬ x.kind = 10 := by omega
        have hne2 : ¬ x.kind = 11 := by omega
        refine ⟨fun hje => ?_, fun o ho h11 => ?_⟩
        · rw [flatG, if_neg hne, if_neg hne2, if_pos h5, a hje, hs]
        · rw [flatG, if_neg hne, if_neg hne2, if_pos h5, b o ho h11, hs]
      · obtain ⟨a, b⟩ := flatG_seg xs E f (i + 1) j hs2 hj m (by omega)
        refine ⟨fun hje => ?_, fun o ho h11' => ?_⟩
        · rw [flatG, if_neg h10, if_neg h11, if_neg h5, a hje, hs]
        · rw [flatG, if_neg h10, if_neg h11, if_neg h5, b o ho h11', hs]
    · have := NS_le xs E _ _ _ h
      obtain rfl : i = j := by omega
      rw [segE_nil]
      refine ⟨fun hje => ?_, fun o ho h11 => ?_⟩
      · rw [hje, List.drop_eq_nil_of_le (Nat.le_refl _)]; rfl
      · rw [drop_cons ho, flatG, if_neg (by omega), if_pos h11]
/-- The steps of a right program, read off from the front. -/
theorem flat_all {xs : List Op4} (h : (checkB xs).2 = 0) : flatG (xs.length + 1) xs = (segE xs (endsB xs) (xs.length + 1) 0 xs.length, []) := by
  obtain ⟨hns, -, -⟩ := nested_of_check h
  have := (flatG_seg xs (endsB xs) _ 0 xs.length hns (Nat.le_refl _) (xs.length + 1) (by omega)).1 rfl
  simpa using this
end CD
end Go.Proofs.YtnehiooioodkfaaDoor
