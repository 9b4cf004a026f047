/-
  CODE: whole programs, and their steps: one behind the other.
-/
import Derived.Test.YtnehiooioodkfaaDoorKX
set_option linter.unusedVariables false
set_option linter.unusedSimpArgs false
namespace Go.Proofs.YtnehiooioodkfaaDoor
open Go Go.RowKit
namespace CD
/-- A program in which every repeat has its end; its steps, whatever a finish says. -/
def Whole : Nat → List Op4 → List Op4 → Prop
  | 0, p, S => p = [] ∧ S = []
  | f + 1, p, S => (p = [] ∧ S = []) ∨
    (∃ o b e r B R, p = o :: (b ++ e :: r) ∧ S = (List.replicate o.n.toNat B).flatten ++ R ∧ o.kind = 10 ∧ e.kind = 11 ∧ Whole f b B ∧ Whole f r R) ∨
    (∃ o r R, p = o :: r ∧ o.kind = 5 ∧ S = List.replicate o.n.toNat work1 ++ R ∧ Whole f r R) ∨
    (∃ o r R, p = o :: r ∧ o.kind ≠ 10 ∧ o.kind ≠ 11 ∧ o.kind ≠ 5 ∧ S = o :: R ∧ Whole f r R)
theorem Whole.mono : ∀ {f f' : Nat} {p S : List Op4}, Whole f p S → f ≤ f' → Whole f' p S
  | 0, 0, _, _, h, _ => h
  | 0, f' + 1, _, _, h, _ => .inl h
  | f + 1, 0, _, _, _, hf => by omega
  | f + 1, f' + 1, _, _, h, hf => by
    rcases h with h | ⟨o, b, e, r, B, R, h1, h2, h3, h4, h5, h6⟩ | ⟨o, r, R, h1, h2, h3, h4⟩ | ⟨o, r, R, h1, h2, h3, h4, h5, h6⟩
    · exact .inl h
    · exact .inr (.inl ⟨o, b, e, r, B, R, h1, h2, h3, h4, h5.mono (by omega), h6.mono (by omega)⟩)
    · exact .inr (.inr (.inl ⟨o, r, R, h1, h2, h3, h4.mono (by omega)⟩))
    · exact .inr (.inr (.inr ⟨o, r, R, h1, h2, h3, h4, h5, h6.mono (by omega)⟩))
theorem Whole.append : ∀ {f g : Nat} {p S q T : List Op4}, Whole f p S → Whole g q T → Whole (f + g) (p ++ q) (S ++ T)
  | 0, g, p, S, q, T, h, k => by
    obtain ⟨rfl, rfl⟩ := h
    exact k.mono (by omega)
  | f + 1, g, p, S, q, T, h, k => by
    rw [show f + 1 + g = (f + g) + 1 by omega]
    rcases h with ⟨rfl, rfl⟩ | ⟨o, b, e, r, B, R, rfl, rfl, h3, h4, h5, h6⟩ | ⟨o, r, R, rfl, h2, rfl, h4⟩ | ⟨o, r, R, rfl, h2, h3, h4, rfl, h6⟩
    · exact k.mono (by omega)
    · exact .inr (.inl ⟨o, b, e, r ++ q, B, R ++ T, by simp, by simp, h3, h4, h5.mono (by omega), h6.append k⟩)
    · exact .inr (.inr (.inl ⟨o, r ++ q, R ++ T, by simp, h2, by simp, h4.append k⟩))
    · exact .inr (.inr (.inr ⟨o, r ++ q, R ++ T, by simp, h2, h3, h4, by simp, h6.append k⟩))
/-- It is read off from the front, up to the end behind it. -/
theorem Whole.flat : ∀ {f : Nat} {p S : List Op4}, Whole f p S → ∀ (m : Nat), (p.length < m → flatG m p = (S, [])) ∧ (∀ (e : Op4) (t : List Op4), e.kind = 11 → p.length + t.length + 1 < m → flatG m (p ++ e :: t) = (S, t))
  | 0, p, S, h, m => by
    obtain ⟨rfl, rfl⟩ := h
    refine ⟨fun _ => flatG_nil m, fun e t he hm => ?_⟩
    obtain ⟨m, rfl⟩ : ∃ k, m = k + 1 := ⟨m - 1, by omega⟩
    rw [List.nil_append, flatG, if_neg (by omega), if_pos he]
  | f + 1, p, S, h, m => by
    rcases h with ⟨rfl, rfl⟩ | ⟨o, b, e', r, B, R, rfl, rfl, h3, h4, h5, h6⟩ | ⟨o, r, R, rfl, h2, rfl, h4⟩ | ⟨o, r, R, rfl, h2, h3, h4, rfl, h6⟩
    · refine ⟨fun _ => flatG_nil m, fun e t he hm => ?_⟩
      obtain ⟨m, rfl⟩ : ∃ k, m = k + 1 := ⟨m - 1, by omega⟩
      rw [List.nil_append, flatG, if_neg (by omega), if_pos he]
    · refine ⟨fun hm => ?_, fun e t he hm => ?_⟩
      · obtain ⟨m, rfl⟩ : ∃ k, m = k + 1 := ⟨m - 1, by omega⟩
        simp only [List.length_cons, List.length_append] at hm
        rw [flatG, if_pos h3, (h5.flat m).2 e' r h4 (by omega)]
        simp only
        rw [(h6.flat m).1 (by omega)]
      · obtain ⟨m, rfl⟩ : ∃ k, m = k + 1 := ⟨m - 1, by omega⟩
        simp only [List.length_cons, List.length_append] at hm
        rw [List.cons_append, List.append_assoc, List.cons_append, flatG, if_pos h3, (h5.flat m).2 e' (r ++ e :: t) h4 (by simp; omega)]
        simp only
        rw [(h6.flat m).2 e t he (by omega)]
    · refine ⟨fun hm => ?_, fun e t he hm => ?_⟩
      · obtain ⟨m, rfl⟩ : ∃ k, m = k + 1 := ⟨m - 1, by omega⟩
        simp only [List.length_cons] at hm
        rw [flatG, if_neg (by omega), if_neg (by omega), if_pos h2, (h4.flat m).1 (by omega)]
      · obtain ⟨m, rfl⟩ : ∃ k, m = k + 1 := ⟨m - 1, by omega⟩
        simp only [List.length_cons] at hm
        rw [List.cons_append, flatG, if_neg (by omega), if_neg (by omega), if_pos h2, (h4.flat m).2 e t he (by omega)]
    · refine ⟨fun hm => ?_, fun e t he hm => ?_⟩
      · obtain ⟨m, rfl⟩ : ∃ k, m = k + 1 := ⟨m - 1, by omega⟩
        simp only [List.length_cons] at hm
        rw [flatG, if_neg h2, if_neg h3, if_neg h4, (h6.flat m).1 (by omega)]
      · obtain ⟨m, rfl⟩ : ∃ k, m = k + 1 := ⟨m - 1, by omega⟩
        simp only [List.length_cons] at hm
        rw [List.cons_append, flatG, if_neg h2, if_neg h3, if_neg h4, (h6.flat m).2 e t he (by omega)]
theorem Whole.uniq {f g : Nat} {p S T : List Op4} (h : Whole f p S) (k : Whole g p T) : S = T := by
  have h1 := (h.flat (p.length + 1)).1 (Nat.lt_succ_self _)
  have h2 := (k.flat (p.length + 1)).1 (Nat.lt_succ_self _)
  rw [h1] at h2
  injection h2
theorem drop_split {α : Type} {xs : List α} {i e j : Nat} {x : α} (h1 : i ≤ e) (h2 : e < j) (h3 : j ≤ xs.length) (hx : xs[e]? = some x) : (xs.drop i).take (j - i) = (xs.drop i).take (e - i) ++ x :: (xs.drop (e + 1)).take (j - (e + 1)) := by
  have a : (xs.drop i).take (j - i) = (xs.drop i).take (e - i) ++ ((xs.drop i).drop (e - i)).take (j - e) := by
    rw [show j - i = (e - i) + (j - e) by omega, List.take_add]
  rw [a, List.drop_drop, show i + (e - i) = e by omega, drop_cons hx, show j - e = (j - (e + 1)) + 1 by omega, List.take_succ_cons]
/-- A well nested part is whole. -/
theorem whole_seg (xs : List Op4) (E : List Int) : ∀ (f i j : Nat), NS xs E f i j = true → j ≤ xs.length → Whole f ((xs.drop i).take (j - i)) (segE xs E f i j)
  | 0, _, _, h, _ => by cases h
  | f + 1, i, j, h, hj => by
    by_cases hij : i < j
    · obtain ⟨f', x, hf, hx, hc⟩ := NS_in h hij
      injection hf with hf
      subst hf
      have hcons : (xs.drop i).take (j - i) = x :: (xs.drop (i + 1)).take (j - (i + 1)) := by rw [drop_cons hx, show j - i = (j - (i + 1)) + 1 by omega, List.take_succ_cons]
      rcases hc with ⟨h10, hn, e, he, he1, he2, hs1, hs2, hs⟩ | ⟨h5, hn, hs2, hs⟩ | ⟨h10, h5, h11, hs2, hs⟩
      · have hk11 := NS_end h hij hx h10
        rw [he, Int.toNat_natCast] at hk11
        obtain ⟨y, hy, hy2⟩ := Option.map_eq_some_iff.1 hk11
        rw [hcons, drop_split (show i + 1 ≤ e by omega) he2 hj hy, hs]
        exact .inr (.inl ⟨x, _, y, _, _, _, rfl, rfl, h10, hy2, whole_seg xs E f (i + 1) e hs1 (by omega), whole_seg xs E f (e + 1) j hs2 hj⟩)
      · rw [hcons, hs]
        exact .inr (.inr (.inl ⟨x, _, _, rfl, h5, rfl, whole_seg xs E f (i + 1) j hs2 hj⟩))
      · rw [hcons, hs]
        exact .inr (.inr (.inr ⟨x, _, _, rfl, h10, h11, h5, rfl, whole_seg xs E f (i + 1) j hs2 hj⟩))
    · have := NS_le xs E _ _ _ h
      obtain rfl : i = j := by omega
      rw [segE_nil, Nat.sub_self, List.take_zero]
      exact .inl ⟨rfl, rfl⟩
def segB (xs : List Op4) : List Op4 := segE xs (endsB xs) (xs.length + 1) 0 xs.length
theorem whole_of_check {xs : List Op4} (h : (checkB xs).2 = 0) : Whole (xs.length + 1) xs (segB xs) := by
  obtain ⟨hns, -, -⟩ := nested_of_check h
  have := whole_seg xs (endsB xs) _ 0 xs.length hns (Nat.le_refl _)
  unfold segB
  simpa using this
/-- Two programs, one behind the other. -/
theorem segB_append {p q : List Op4} (hp : (checkB p).2 = 0) (hq : (checkB q).2 = 0) (h : (checkB (p ++ q)).2 = 0) : segB (p ++ q) = segB p ++ segB q :=
  (whole_of_check h).uniq ((whole_of_check hp).append (whole_of_check hq))
end CD
end Go.Proofs.YtnehiooioodkfaaDoor
