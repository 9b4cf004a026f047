/-
  CODE: blanks between words change places alone; behind the wrong word nothing matters (plain).
-/
import Derived.Test.YtnehiooioodkfaaDoorPB
set_option linter.unusedVariables false
set_option linter.unusedSimpArgs false
namespace Go.Proofs.YtnehiooioodkfaaDoor
open Go Go.RowKit
namespace CD
theorem words_same {A B : ByteArray} (hA : A.size ≤ 4096) (hB : B.size ≤ 4096) (h : tokW A.data.toList = tokW B.data.toList) : (parseB B).1 = (parseB A).1 ∧ (parseB B).2.2 = (parseB A).2.2 := by
  rw [parseB_par A hA, parseB_par B hB]
  exact par_words _ _ _ _ _ [] 0 (Nat.le_refl _) h
/-- The words that are still to come; cur: the word that is under way. -/
def restW (s : ByteArray) (i : Nat) (cur : List UInt8) : List (List UInt8) := (tokG i cur (s.data.toList.drop i)).map (·.2)
theorem rest_start (s : ByteArray) : restW s 0 [] = tokW s.data.toList := rfl
theorem rest_end {s : ByteArray} {i : Nat} (h : s.size ≤ i) : restW s i [] = [] := by
  unfold restW
  rw [List.drop_eq_nil_of_le (by simpa using h)]
  rfl
theorem rest_blank {s : ByteArray} {i : Nat} (h : i < s.size) (hb : isB s i = true) : restW s i [] = restW s (i + 1) [] := by
  unfold restW
  rw [drop_at s i h, tok_blank i (blk_of_isB h hb)]
theorem rest_done {s : ByteArray} {i : Nat} {cur : List UInt8} (h : i < s.size → isB s i = true) (h0 : cur ≠ []) : restW s i cur = cur :: restW s i [] := by
  unfold restW
  rw [tok_done i h0, List.map_cons]
  intro c t e
  have hi : i < s.size := by
    by_cases hi : i < s.size
    · exact hi
    · rw [List.drop_eq_nil_of_le (by simp; omega)] at e; cases e
  rw [drop_at s i hi] at e
  injection e with e1 e2
  subst e1
  exact blk_of_isB hi (h hi)
theorem rest_word {s : ByteArray} {i : Nat} {cur : List UInt8} (h : i < s.size) (hb : isW s i = true) : restW s i cur = restW s (i + 1) (cur ++ [s[i]]) := by
  unfold restW
  rw [drop_at s i h, tokG, if_neg (by rw [blk_of_isW h hb]; decide)]
theorem extract_list (s : ByteArray) (a b : Nat) : (s.extract a b).data.toList = (s.data.toList.drop a).take (b - a) := by
  simp [List.extract_eq_take_drop]
theorem extract_snoc {s : ByteArray} {a i : Nat} (ha : a ≤ i) (h : i < s.size) : (s.extract a i).data.toList ++ [s[i]] = (s.extract a (i + 1)).data.toList := by
  rw [extract_list, extract_list, show i + 1 - a = (i - a) + 1 by omega, List.take_add_one]
  congr 1
  rw [List.getElem?_drop, show a + (i - a) = i by omega]
  have : s.data.toList[i]? = some s[i] := by
    rw [List.getElem?_eq_getElem (by simpa using h)]
    rfl
  rw [this]
  rfl
theorem extract_W {s : ByteArray} {a b : Nat} (hb : b ≤ s.size) (h : ∀ i, a ≤ i → i < b → isW s i = true) : ∀ c ∈ (s.extract a b).data.toList, blkB c = false := by
  intro c hc
  obtain ⟨i, hi, h1, h2, rfl⟩ := mem_extract s a b hb c hc
  exact blk_of_isW hi (h i h1 h2)
theorem tokW_more {t r w : List UInt8} (hr : r ≠ []) (hb : ∀ c ∈ r, blkB c = true) (hw : w ≠ []) (hn : ∀ c ∈ w, blkB c = false) : tokW (t ++ r ++ w) = tokW t ++ [w] := by
  cases r with
  | nil => exact absurd rfl hr
  | cons c r =>
    have e : t ++ (c :: r) ++ w = t ++ c :: (r ++ w) := by simp
    unfold tokW
    rw [e, tok_append c (hb c (List.mem_cons_self ..)), List.map_append]
    congr 1
    rw [tok_blanks r w _ fun x hx => hb x (List.mem_cons_of_mem _ hx)]
    have := tok_one (r := []) (0 + t.length + 1 + r.length) hw hn hdB_nil
    rw [List.append_nil] at this
    rw [this]
    rfl
/-- The words up to one of them. -/
theorem toks_upto (s : ByteArray) : ∀ (t1 : List (Nat × List UInt8)) (p a : Nat) (w : List UInt8) (t2 : List (Nat × List UInt8)), p ≤ s.size → toksAt s p = t1 ++ (a, w) :: t2 →
    p ≤ a ∧ a < s.size ∧ a < past s a ∧ past s a ≤ s.size ∧ tokG p [] ((s.data.toList.drop p).take (past s a - p)) = t1 ++ [(a, w)]
  | t1, p, a, w, t2, hp, h => by
    by_cases hz : past s (skip s p) = skip s p
    · rw [toks_none hp hz] at h
      cases t1 <;> cases h
    · rw [toks_cons hp hz] at h
      obtain ⟨a1, a2⟩ := skip_spec s p hp
      obtain ⟨l1, l2⟩ := skip_le s p hp
      obtain ⟨b1, b2⟩ := past_spec s (skip s p) l2
      obtain ⟨m1, m2⟩ := past_le s (skip s p) l2
      have hsp := sub_split s p (skip s p) l1 l2
      have hsq := sub_split s (skip s p) (past s (skip s p)) m1 m2
      have z1 : (s.extract p (skip s p)).data.toList.length = skip s p - p := by simp; omega
      have z2 : (s.extract (skip s p) (past s (skip s p))).data.toList.length = past s (skip s p) - skip s p := by simp; omega
      have hbl : ∀ c ∈ (s.extract p (skip s p)).data.toList, blkB c = true := fun c hc => by
        obtain ⟨i, hi, h1, h2, rfl⟩ := mem_extract s p _ l2 c hc
        exact blk_of_isB hi (a1 i h1 h2)
      have hwd := extract_W m2 b1
      have hne : (s.extract (skip s p) (past s (skip s p))).data.toList ≠ [] := fun e => by rw [e] at z2; simp at z2; omega
      cases t1 with
      | nil =>
        simp only [List.nil_append, List.cons.injEq, Prod.mk.injEq] at h
        obtain ⟨⟨rfl, rfl⟩, -⟩ := h
        refine ⟨l1, by omega, by omega, m2, ?_⟩
        have e : (s.data.toList.drop p).take (past s (skip s p) - p) = (s.extract p (skip s p)).data.toList ++ ((s.extract (skip s p) (past s (skip s p))).data.toList ++ []) := by
          rw [hsp, hsq, ← List.append_assoc, List.take_left' (by rw [List.length_append, z1, z2]; omega), List.append_nil]
        rw [e, tok_blanks _ _ _ hbl, tok_one _ hne hwd hdB_nil, z1, show p + (skip s p - p) = skip s p by omega]
        rfl
      | cons c t1 =>
        simp only [List.cons_append, List.cons.injEq] at h
        obtain ⟨hc, h⟩ := h
        obtain ⟨i1, i2, i3, i4, i5⟩ := toks_upto s t1 (past s (skip s p)) a w t2 m2 h
        refine ⟨by omega, i2, i3, i4, ?_⟩
        have e : (s.data.toList.drop p).take (past s a - p) = (s.extract p (skip s p)).data.toList ++ ((s.extract (skip s p) (past s (skip s p))).data.toList ++ (s.data.toList.drop (past s (skip s p))).take (past s a - past s (skip s p))) := by
          rw [hsp, hsq, ← List.append_assoc, ← List.append_assoc, List.take_append, List.length_append, z1, z2, List.take_of_length_le (by rw [List.length_append, z1, z2]; omega)]
          congr 2
          omega
        rw [e, tok_blanks _ _ _ hbl, tok_one _ hne hwd ?_, z1, z2, show p + (skip s p - p) = skip s p by omega, show skip s p + (past s (skip s p) - skip s p) = past s (skip s p) by omega, i5, ← hc]
        · rfl
        · intro c' t' e'
          have hlt : past s (skip s p) < s.size := by omega
          rw [drop_at s _ hlt, show past s a - past s (skip s p) = (past s a - past s (skip s p) - 1) + 1 by
            have : past s (skip s p) < past s a := by omega
            omega, List.take_succ_cons] at e'
          injection e' with e1 e2
          subst e1
          rw [isW_at hlt] at b2
          simpa [blkB] using b2
termination_by t1 => t1.length
theorem wrong_again {s : ByteArray} (hs : s.size ≤ 4096) {p : List Op4} {k e : Int} (h : parseB s = (p, k, e)) (h0 : e ≠ 0) (h31 : e ≠ 31) :
    ∃ a : Nat, k = (a : Int) ∧ a < s.size ∧ a < past s a ∧ past s a ≤ s.size ∧ ∀ tail : ByteArray, past s a + 1 + tail.size ≤ 4096 → parseB (s.extract 0 (past s a) ++ ⟨#[32]⟩ ++ tail) = ([], k, e) := by
  rw [parseB_par s hs] at h
  obtain ⟨t1, a, w, t2, h1, h2, h3⟩ := par_wrong _ _ _ [] 0 p k e (Nat.le_refl _) h h0 h31
  obtain ⟨-, i2, i3, i4, i5⟩ := toks_upto s t1 0 a w t2 (Nat.zero_le _) h1
  refine ⟨a, h2, i2, i3, i4, fun tail ht => ?_⟩
  have hz : (s.extract 0 (past s a)).size = past s a := by rw [ByteArray.size_extract]; omega
  rw [parseB_par _ (by simp only [ByteArray.size_append]; rw [hz]; exact ht)]
  have hl : (s.extract 0 (past s a) ++ ⟨#[32]⟩ ++ tail).data.toList = (s.data.toList.drop 0).take (past s a - 0) ++ 32 :: tail.data.toList := by
    rw [← extract_list]
    simp
  rw [hl, tok_append 32 (by decide), i5, List.append_assoc]
  exact h3 _ _
end CD
end Go.Proofs.YtnehiooioodkfaaDoor
