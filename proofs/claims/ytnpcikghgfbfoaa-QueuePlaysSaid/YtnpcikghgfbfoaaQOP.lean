/-
  LAW 7, plain: of one level in the order of the Puts; a Put changes the order of no others.
-/
import Derived.Test.YtnpcikghgfbfoaaQSP
namespace Go.Proofs.Ytnpcikghgfbfoaa
open Go Go.RowKit
namespace EQ
open EWt

theorem listA_put (l : List Wt) (x : Wt) (i : Nat) (hi : i < 32) (hx : x.level = (i : Int) + 1) : ∃ A B, listA l = A ++ B ∧ listA (l ++ [x]) = A ++ x :: B := by
  have hsame : ∀ n, n ≠ i → lev (l ++ [x]) n = lev l n := fun n hn => by rw [lev_append, lev_one, if_neg (by omega), List.append_nil]
  have hself : lev (l ++ [x]) i = lev l i ++ [x] := by rw [lev_append, lev_one, if_pos hx]
  refine ⟨((List.range (32 - (i + 1))).map (i + 1 + ·)).reverse.flatMap (lev l) ++ lev l i, (List.range i).reverse.flatMap (lev l), ?_, ?_⟩
  · rw [listA, range_cut i 32 hi, List.flatMap_append, List.flatMap_cons, List.append_assoc]
  · have e2 : ((List.range (32 - (i + 1))).map (i + 1 + ·)).reverse.flatMap (lev (l ++ [x])) = ((List.range (32 - (i + 1))).map (i + 1 + ·)).reverse.flatMap (lev l) := flatMap_same fun n hn => by
      simp only [List.mem_reverse, List.mem_map, List.mem_range] at hn
      obtain ⟨m, hm, rfl⟩ := hn
      exact hsame _ (by omega)
    have e3 : (List.range i).reverse.flatMap (lev (l ++ [x])) = (List.range i).reverse.flatMap (lev l) := flatMap_same fun n hn => by
      simp only [List.mem_reverse, List.mem_range] at hn
      exact hsame n (by omega)
    rw [listA, range_cut i 32 hi, List.flatMap_append, List.flatMap_cons, e2, e3, hself]
    simp

theorem mem_listA (l : List Wt) (x : Wt) (h : x ∈ listA l) : x ∈ l := by
  obtain ⟨i, -, hi⟩ := List.mem_flatMap.1 h
  exact (List.mem_filter.1 hi).1

/-- What QueueOrder's loop knows: the jobs' numbers are the Puts' own; of each level the one that was taken last came first. -/
structure Ord (i : Nat) (l : List Wt) (last : List Int) : Prop where
  len : last.length = 33
  job : ∀ x ∈ l, 0 ≤ x.job ∧ x.job < (i : Int)
  up : l.Pairwise fun x y => x.job < y.job
  bound : ∀ (n : Nat) (a : Int), last[n]? = some a → 0 ≤ a ∧ a ≤ (i : Int)
  since : ∀ x ∈ l, ∀ a, last[x.level.toNat]? = some a → a ≤ x.job

theorem Ord.nil : Ord 0 [] (List.replicate 33 0) := by
  refine ⟨by simp, fun x h => (by cases h), List.Pairwise.nil, fun n a h => ?_, fun x h => (by cases h)⟩
  rw [List.getElem?_replicate] at h
  split at h
  · cases h; omega
  · cases h
theorem Ord.skip {i : Nat} {l : List Wt} {last : List Int} (h : Ord i l last) : Ord (i + 1) l last :=
  ⟨h.len, fun x hx => by have := h.job x hx; omega, h.up, fun n a ha => by have := h.bound n a ha; omega, h.since⟩
theorem Ord.put {i : Nat} {l : List Wt} {last : List Int} (h : Ord i l last) (t lv : Int) : Ord (i + 1) (l ++ [⟨i, t, lv⟩]) last := by
  refine ⟨h.len, fun x hx => ?_, ?_, fun n a ha => by have := h.bound n a ha; omega, fun x hx a ha => ?_⟩
  · rcases List.mem_append.1 hx with hx | hx
    · have := h.job x hx; omega
    · rw [List.mem_singleton.1 hx]; simp only; omega
  · rw [List.pairwise_append]
    refine ⟨h.up, List.pairwise_singleton _ _, fun x hx y hy => ?_⟩
    rw [List.mem_singleton.1 hy]
    exact (h.job x hx).2
  · rcases List.mem_append.1 hx with hx | hx
    · exact h.since x hx a ha
    · have := h.bound _ _ ha
      rw [List.mem_singleton.1 hx]; simp only; omega

theorem Ord.later {i : Nat} {l : List Wt} {last : List Int} (h : Ord i l last) (k : Nat) (hf : first l = some k) (x : Wt) (hx : l[k]? = some x) (j : Nat) (y : Wt) (hy : l[j]? = some y) (hl : y.level = x.level) (hjk : j ≠ k) : x.job < y.job := by
  obtain ⟨hk, h1, h2⟩ := nx_some l l.length k hf
  have e1 : lvAt l k = x.level := by simp [lvAt, hx]
  have e2 : lvAt l j = y.level := by simp [lvAt, hy]
  by_cases c : j < k
  · have := h1 j c; omega
  · have hjlt : j < l.length := (List.getElem?_eq_some_iff.1 hy).1
    have := List.pairwise_iff_getElem.1 h.up k j hk hjlt (by omega)
    rwa [(List.getElem?_eq_some_iff.1 hx).2, (List.getElem?_eq_some_iff.1 hy).2] at this
theorem Ord.top {i : Nat} {l : List Wt} {last : List Int} (h : Ord i l last) (k : Nat) (hf : first l = some k) (x : Wt) (hx : l[k]? = some x) (y : Wt) (hy : y ∈ l) : y.level ≤ x.level ∧ (y.level = x.level → x.job ≤ y.job) := by
  refine ⟨first_top l k hf x hx y hy, fun hl => ?_⟩
  obtain ⟨j, hj⟩ := List.mem_iff_getElem?.1 hy
  by_cases c : j = k
  · rw [c, hx] at hj; cases hj; omega
  · have := h.later k hf x hx j y hj hl c; omega
theorem Ord.take {i : Nat} {l : List Wt} {last : List Int} (h : Ord i l last) (hg : Good l) (k : Nat) (hf : first l = some k) (x : Wt) (hx : l[k]? = some x) : Ord (i + 1) (l.eraseIdx k) (last.set x.level.toNat x.job) := by
  have hm : x ∈ l := List.mem_of_getElem? hx
  have hL := hg.level x hm
  refine ⟨by simpa using h.len, fun y hy => by have := h.job y (List.mem_of_mem_eraseIdx hy); omega, List.Pairwise.sublist (List.eraseIdx_sublist _ _) h.up, fun n a ha => ?_, fun y hy a ha => ?_⟩
  · by_cases e : n = x.level.toNat
    · rw [e, List.getElem?_set_self (by rw [h.len]; omega)] at ha
      cases ha
      have := h.job x hm; omega
    · rw [List.getElem?_set_ne (Ne.symm e)] at ha
      have := h.bound n a ha; omega
  · have hyl := List.mem_of_mem_eraseIdx hy
    have hyL := hg.level y hyl
    by_cases e : y.level = x.level
    · rw [e, List.getElem?_set_self (by rw [h.len]; omega)] at ha
      cases ha
      exact (h.top k hf x hx y hyl).2 e
    · rw [List.getElem?_set_ne (by omega)] at ha
      exact h.since y hyl a ha

end EQ
end Go.Proofs.Ytnpcikghgfbfoaa
