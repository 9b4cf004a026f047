/-
  LAW 7, plain: sums over levels and tasks; what is taken, one behind the other, is the list.
-/
import Derived.Test.YtnpcikghgfbfoaaQA
namespace Go.Proofs.Ytnpcikghgfbfoaa
open Go Go.RowKit
namespace EQ
open EWt

theorem first_top (l : List Wt) (k : Nat) (h : first l = some k) (x : Wt) (hx : l[k]? = some x) : ∀ y ∈ l, y.level ≤ x.level := fun y hy => by
  obtain ⟨hk, h1, h2⟩ := nx_some l l.length k h
  have hlx : lvAt l k = x.level := by simp [lvAt, hx]
  obtain ⟨j, hj⟩ := List.mem_iff_getElem?.1 hy
  have hjl : lvAt l j = y.level := by simp [lvAt, hj]
  have hjlt : j < l.length := (List.getElem?_eq_some_iff.1 hj).1
  by_cases c : j < k
  · have := h1 j c; omega
  · have := h2 j (by omega) hjlt; omega

theorem flatMap_nil {α β : Type} (l : List α) (f : α → List β) (h : ∀ x ∈ l, f x = []) : l.flatMap f = [] := by
  induction l with
  | nil => rfl
  | cons a r ih => rw [List.flatMap_cons, h a (by simp), ih fun x hx => h x (by simp [hx])]; rfl

theorem range_cut (i n : Nat) (h : i < n) : (List.range n).reverse = ((List.range (n - (i + 1))).map (i + 1 + ·)).reverse ++ i :: (List.range i).reverse := by
  have := @List.range_add (i + 1) (n - (i + 1))
  rw [show i + 1 + (n - (i + 1)) = n by omega] at this
  rw [this, List.reverse_append, List.range_succ, List.reverse_append]
  rfl

theorem listA_first (l : List Wt) (hg : Good l) (k : Nat) (h : first l = some k) : ∃ x, l[k]? = some x ∧ listA l = x :: listA (l.eraseIdx k) := by
  obtain ⟨x, i, t, hx, hi, ht, h1, h2, h3, h4, h5, h6, h7⟩ := first_some l hg k h
  have top := first_top l k h x hx
  refine ⟨x, hx, ?_⟩
  have hq := qsOf_get l i hi
  rw [h4] at hq
  have hli : lev l i = x :: lev (l.eraseIdx k) i := (Option.some.inj hq).symm
  have hne : ∀ n, n < 32 → n ≠ i → lev (l.eraseIdx k) n = lev l n := fun n hn hni => by
    have := qsOf_get (l.eraseIdx k) n hn
    rw [h5, List.getElem?_set_ne (Ne.symm hni), qsOf_get l n hn] at this
    exact (Option.some.inj this).symm
  have hup : ∀ n, i < n → n < 32 → lev l n = [] := fun n h1' _ => lev_nil_of _ _ fun y hy => by have := top y hy; omega
  have e1 : ((List.range (32 - (i + 1))).map (i + 1 + ·)).reverse.flatMap (lev l) = [] := flatMap_nil _ _ fun n hn => by
    simp only [List.mem_reverse, List.mem_map, List.mem_range] at hn
    obtain ⟨m, hm, rfl⟩ := hn
    exact hup _ (by omega) (by omega)
  have e2 : ((List.range (32 - (i + 1))).map (i + 1 + ·)).reverse.flatMap (lev (l.eraseIdx k)) = [] := flatMap_nil _ _ fun n hn => by
    simp only [List.mem_reverse, List.mem_map, List.mem_range] at hn
    obtain ⟨m, hm, rfl⟩ := hn
    rw [hne _ (by omega) (by omega)]
    exact hup _ (by omega) (by omega)
  have e3 : (List.range i).reverse.flatMap (lev (l.eraseIdx k)) = (List.range i).reverse.flatMap (lev l) := flatMap_same fun n hn => by
    simp only [List.mem_reverse, List.mem_range] at hn
    exact hne n (by omega) (by omega)
  rw [listA, listA, range_cut i 32 hi, List.flatMap_append, List.flatMap_append, e1, e2, List.flatMap_cons, List.flatMap_cons, e3, hli]
  rfl

theorem listA_length (l : List Wt) (hg : Good l) : (listA l).length = l.length := by
  rw [← ls_qsOf, ls, List.length_map, lpre_length, total_qsOf l hg]

/-- The takes, one behind the other. -/
theorem takes (l : List Wt) (hg : Good l) (x : Wt) (r : List Wt) (h : listA l = x :: r) : firstV l = .tuple #[wt x, .bool true] ∧ listA (takeL l) = r := by
  cases hf : first l with
  | none =>
    have := first_none l hf
    subst this
    cases h
  | some k =>
    obtain ⟨y, hy, e⟩ := listA_first l hg k hf
    rw [h] at e
    obtain ⟨rfl, rfl⟩ := List.cons.inj e
    exact ⟨by simp [firstV, hf, hy], by simp [takeL, hf]⟩
theorem takes_nil (l : List Wt) (hg : Good l) (h : listA l = []) : l = [] := by
  have := listA_length l hg
  rw [h] at this
  exact List.eq_nil_of_length_eq_zero this.symm

/-- All levels together. -/
def sumL (l : List Wt) (n : Nat) : Nat := ((List.range n).map fun i : Nat => (levelA l (i : Int)).length).sum
theorem sumL_succ (l : List Wt) (n : Nat) : sumL l (n + 1) = sumL l n + (levelA l (n : Int)).length := by simp [sumL, List.range_succ]
theorem sumL_le (l : List Wt) (hg : Good l) (n : Nat) : sumL l n ≤ n * 512 := sum_le n 512 _ fun i => Nat.le_trans (List.length_filter_le _ _) hg.length
theorem sumL_all (l : List Wt) (hg : ∀ x ∈ l, 1 ≤ x.level ∧ x.level ≤ 32) : sumL l 34 = l.length := by
  induction l with
  | nil => rfl
  | cons x r ih =>
    have hx := hg x (by simp)
    have : ((List.range 34).map fun i : Nat => (levelA (x :: r) (i : Int)).length) = (List.range 34).map fun i : Nat => (if x.level.toNat = i then 1 else 0) + (levelA r (i : Int)).length := by
      apply List.map_congr_left
      intro i _
      rw [levelA, List.filter_cons]
      by_cases e : x.level = (i : Int)
      · rw [if_pos (decide_eq_true e), if_pos (by omega), List.length_cons, Nat.add_comm]; rfl
      · rw [if_neg (by simpa using e), if_neg (by omega), Nat.zero_add]; rfl
    have ih := ih fun y hy => hg y (by simp [hy])
    rw [sumL] at ih
    rw [sumL, this, sum_add, ih, sum_one, if_pos (by omega), List.length_cons]
    omega
/-- All tasks together. -/
def sumC (l : List Wt) (n : Nat) : Nat := ((List.range n).map fun i : Nat => cnt l ((i : Int) - 1)).sum
theorem sumC_succ (l : List Wt) (n : Nat) : sumC l (n + 1) = sumC l n + cnt l ((n : Int) - 1) := by simp [sumC, List.range_succ]
theorem sumC_le (l : List Wt) (hg : Good l) (n : Nat) : sumC l n ≤ n * 8 := sum_le n 8 _ fun i => hg.few _
theorem sumC_all (l : List Wt) (hg : ∀ x ∈ l, 0 ≤ x.task ∧ x.task < 64) : sumC l 66 = l.length := by
  induction l with
  | nil => rfl
  | cons x r ih =>
    have hx := hg x (by simp)
    have : ((List.range 66).map fun i : Nat => cnt (x :: r) ((i : Int) - 1)) = (List.range 66).map fun i : Nat => (if (x.task + 1).toNat = i then 1 else 0) + cnt r ((i : Int) - 1) := by
      apply List.map_congr_left
      intro i _
      rw [cnt_cons]
      by_cases e : x.task = (i : Int) - 1
      · rw [if_pos e, if_pos (by omega)]
      · rw [if_neg e, if_neg (by omega)]
    have ih := ih fun y hy => hg y (by simp [hy])
    rw [sumC] at ih
    rw [sumC, this, sum_add, ih, sum_one, if_pos (by omega), List.length_cons]
    omega

end EQ
end Go.Proofs.Ytnpcikghgfbfoaa
