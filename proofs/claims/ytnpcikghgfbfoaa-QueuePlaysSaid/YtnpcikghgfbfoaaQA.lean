/-
  QUEUE, in plain words: a queue is the list of those that wait, in the order of their Puts.
-/
import Derived.Test.YtnpcikghgfbfoaaQL
namespace Go.Proofs.Ytnpcikghgfbfoaa
open Go Go.RowKit
namespace EQ
open EWt

def lev (l : List Wt) (i : Nat) : List Wt := l.filter fun x => decide (x.level = (i : Int) + 1)
def qsOf (l : List Wt) : List (List Wt) := (List.range 32).map (lev l)
def cnt (l : List Wt) (t : Int) : Nat := (l.filter fun x => decide (x.task = t)).length
def actOf (l : List Wt) : List Int := (List.range 64).map fun t : Nat => (cnt l (t : Int) : Int)

structure Good (l : List Wt) : Prop where
  task : ∀ x ∈ l, 0 ≤ x.task ∧ x.task < 64
  level : ∀ x ∈ l, 1 ≤ x.level ∧ x.level ≤ 32
  few : ∀ t, cnt l t ≤ 8

theorem qsOf_get (l : List Wt) (i : Nat) (hi : i < 32) : (qsOf l)[i]? = some (lev l i) := by simp [qsOf, hi]
theorem qsOf_length (l : List Wt) : (qsOf l).length = 32 := by simp [qsOf]
theorem actOf_get (l : List Wt) (t : Nat) (ht : t < 64) : (actOf l)[t]? = some (cnt l (t : Int) : Int) := by simp [actOf, ht]
theorem actOf_length (l : List Wt) : (actOf l).length = 64 := by simp [actOf]
theorem lev_append (l m : List Wt) (i : Nat) : lev (l ++ m) i = lev l i ++ lev m i := List.filter_append _ _
theorem cnt_append (l m : List Wt) (t : Int) : cnt (l ++ m) t = cnt l t + cnt m t := by simp [cnt]
theorem lev_one (x : Wt) (i : Nat) : lev [x] i = if x.level = (i : Int) + 1 then [x] else [] := by
  by_cases h : x.level = (i : Int) + 1 <;> simp [lev, h]
theorem cnt_one (x : Wt) (t : Int) : cnt [x] t = if x.task = t then 1 else 0 := by
  by_cases h : x.task = t <;> simp [cnt, h]
theorem lev_cons (x : Wt) (l : List Wt) (i : Nat) : lev (x :: l) i = (if x.level = (i : Int) + 1 then [x] else []) ++ lev l i := by
  rw [← lev_one, ← lev_append]; rfl
theorem cnt_cons (x : Wt) (l : List Wt) (t : Int) : cnt (x :: l) t = (if x.task = t then 1 else 0) + cnt l t := by
  rw [← cnt_one, ← cnt_append]; rfl

theorem qsOf_set (l m : List Wt) (i : Nat) (hi : i < 32) (h : ∀ n, n < 32 → n ≠ i → lev m n = lev l n) : qsOf m = (qsOf l).set i (lev m i) := by
  apply List.ext_getElem?
  intro n
  by_cases hn : n < 32
  · rw [qsOf_get _ _ hn]
    by_cases e : n = i
    · subst e; rw [List.getElem?_set_self (by rw [qsOf_length]; exact hn)]
    · rw [List.getElem?_set_ne (Ne.symm e), qsOf_get _ _ hn, h n hn e]
  · rw [List.getElem?_eq_none (by rw [qsOf_length]; omega), List.getElem?_eq_none (by rw [List.length_set, qsOf_length]; omega)]
theorem actOf_set (l m : List Wt) (i : Nat) (hi : i < 64) (h : ∀ n : Nat, n < 64 → n ≠ i → cnt m n = cnt l n) : actOf m = (actOf l).set i (cnt m (i : Int)) := by
  apply List.ext_getElem?
  intro n
  by_cases hn : n < 64
  · rw [actOf_get _ _ hn]
    by_cases e : n = i
    · subst e; rw [List.getElem?_set_self (by rw [actOf_length]; exact hn)]
    · rw [List.getElem?_set_ne (Ne.symm e), actOf_get _ _ hn, h n hn e]
  · rw [List.getElem?_eq_none (by rw [actOf_length]; omega), List.getElem?_eq_none (by rw [List.length_set, actOf_length]; omega)]

theorem sum_add {α : Type} (l : List α) (f g : α → Nat) : (l.map fun i => f i + g i).sum = (l.map f).sum + (l.map g).sum := by
  induction l with
  | nil => rfl
  | cons a r ih => simp only [List.map_cons, List.sum_cons, ih]; omega
theorem sum_one (n k : Nat) : ((List.range n).map fun i => if k = i then 1 else 0).sum = if k < n then 1 else 0 := by
  induction n with
  | zero => simp
  | succ n ih =>
    rw [List.range_succ, List.map_append, List.sum_append, ih]
    simp only [List.map_cons, List.map_nil, List.sum_cons, List.sum_nil]
    by_cases h1 : k < n
    · have : k ≠ n := by omega
      simp [h1, this, show k < n + 1 by omega]
    · by_cases h2 : k = n
      · simp [h2]
      · simp [h1, h2, show ¬ k < n + 1 by omega]
theorem sum_lev (l : List Wt) (h : ∀ x ∈ l, 1 ≤ x.level ∧ x.level ≤ 32) : ((List.range 32).map fun i => (lev l i).length).sum = l.length := by
  induction l with
  | nil => rfl
  | cons x r ih =>
    have hx := h x (by simp)
    have : ((List.range 32).map fun i => (lev (x :: r) i).length) = (List.range 32).map fun i => (if (x.level - 1).toNat = i then 1 else 0) + (lev r i).length := by
      apply List.map_congr_left
      intro i _
      rw [lev_cons, List.length_append]
      by_cases e : x.level = (i : Int) + 1
      · rw [if_pos e, if_pos (by omega)]; rfl
      · rw [if_neg e, if_neg (by omega)]; rfl
    rw [this, sum_add, ih (fun y hy => h y (by simp [hy])), sum_one, if_pos (by omega), List.length_cons]
    omega
theorem total_qsOf (l : List Wt) (h : Good l) : total (qsOf l) = l.length := by
  rw [total, qsOf, List.map_map]
  exact sum_lev l h.level
theorem sum_cnt (l : List Wt) (h : ∀ x ∈ l, 0 ≤ x.task ∧ x.task < 64) : ((List.range 64).map fun i => cnt l ((i : Nat) : Int)).sum = l.length := by
  induction l with
  | nil => rfl
  | cons x r ih =>
    have hx := h x (by simp)
    have : ((List.range 64).map fun i => cnt (x :: r) ((i : Nat) : Int)) = (List.range 64).map fun i => (if x.task.toNat = i then 1 else 0) + cnt r ((i : Nat) : Int) := by
      apply List.map_congr_left
      intro i _
      rw [cnt_cons]
      by_cases e : x.task = (i : Int)
      · rw [if_pos e, if_pos (by omega)]
      · rw [if_neg e, if_neg (by omega)]
    rw [this, sum_add, ih (fun y hy => h y (by simp [hy])), sum_one, if_pos (by omega), List.length_cons]
    omega
theorem sum_le (n b : Nat) (f : Nat → Nat) (h : ∀ i, f i ≤ b) : ((List.range n).map f).sum ≤ n * b := by
  induction n with
  | zero => simp
  | succ n ih =>
    rw [List.range_succ, List.map_append, List.sum_append, Nat.succ_mul]
    have := h n
    simp only [List.map_cons, List.map_nil, List.sum_cons, List.sum_nil]
    omega
theorem Good.length {l : List Wt} (h : Good l) : l.length ≤ 512 := by
  rw [← sum_cnt l h.task]
  exact sum_le 64 8 _ fun i => h.few _

/-- The level at a place. -/
def lvAt (l : List Wt) (k : Nat) : Int := ((l[k]?).map (·.level)).getD 0
/-- Where the first one of the highest level stands, of the first m. -/
def nx (l : List Wt) : Nat → Option Nat
  | 0 => none
  | m + 1 => match nx l m with
    | none => some m
    | some k => if lvAt l k < lvAt l m then some m else some k
theorem nx_none (l : List Wt) (m : Nat) : nx l m = none ↔ m = 0 := by
  cases m with
  | zero => simp [nx]
  | succ m =>
    unfold nx
    cases nx l m with
    | none => simp
    | some k => by_cases h : lvAt l k < lvAt l m <;> simp [h]
theorem nx_some (l : List Wt) (m k : Nat) (h : nx l m = some k) : k < m ∧ (∀ j, j < k → lvAt l j < lvAt l k) ∧ ∀ j, k ≤ j → j < m → lvAt l j ≤ lvAt l k := by
  induction m generalizing k with
  | zero => simp [nx] at h
  | succ m ih =>
    unfold nx at h
    cases hm : nx l m with
    | none =>
      rw [hm] at h
      have h0 := (nx_none l m).1 hm
      obtain rfl : m = k := by simpa using h
      exact ⟨by omega, fun j hj => by omega, fun j h1 h2 => by rw [show j = m by omega]; exact Int.le_refl _⟩
    | some k' =>
      rw [hm] at h
      obtain ⟨i1, i2, i3⟩ := ih k' hm
      by_cases hlt : lvAt l k' < lvAt l m
      · simp only [hlt, if_true] at h
        obtain rfl : m = k := by simpa using h
        refine ⟨by omega, fun j hj => ?_, fun j h1 h2 => by rw [show j = m by omega]; exact Int.le_refl _⟩
        by_cases hjk : j < k'
        · have := i2 j hjk; omega
        · have := i3 j (by omega) hj; omega
      · simp only [hlt, if_false] at h
        obtain rfl : k' = k := by simpa using h
        refine ⟨by omega, i2, fun j h1 h2 => ?_⟩
        by_cases hjm : j < m
        · exact i3 j h1 hjm
        · rw [show j = m by omega]; omega
def first (l : List Wt) : Option Nat := nx l l.length

theorem hiTo_zero (qs : List (List Wt)) (n : Nat) (h : ∀ j, j < n → (qs[j]?).getD [] = []) : hiTo qs n = 0 := by
  induction n with
  | zero => rfl
  | succ n ih => rw [hiTo, if_pos (h n (Nat.lt_succ_self n)), ih fun j hj => h j (by omega)]
theorem hiTo_eq (qs : List (List Wt)) (n i : Nat) (hi : i < n) (h1 : (qs[i]?).getD [] ≠ []) (h2 : ∀ j, i < j → j < n → (qs[j]?).getD [] = []) : hiTo qs n = i + 1 := by
  induction n with
  | zero => omega
  | succ n ih =>
    rw [hiTo]
    by_cases e : i = n
    · subst e; rw [if_neg h1]
    · rw [if_pos (h2 n (by omega) (Nat.lt_succ_self n)), ih (by omega) fun j a b => h2 j a (by omega)]

theorem lev_nil_of (l : List Wt) (i : Nat) (h : ∀ x ∈ l, x.level ≠ (i : Int) + 1) : lev l i = [] := by
  rw [lev, List.filter_eq_nil_iff]
  intro x hx
  simpa using h x hx

theorem split_at (l : List Wt) (k : Nat) (x : Wt) (h : l[k]? = some x) : l = l.take k ++ x :: l.drop (k + 1) ∧ l.eraseIdx k = l.take k ++ l.drop (k + 1) := by
  have hk : k < l.length := (List.getElem?_eq_some_iff.1 h).1
  refine ⟨?_, by rw [List.eraseIdx_eq_take_drop_succ]⟩
  have hx : l[k] = x := (List.getElem?_eq_some_iff.1 h).2
  conv => lhs; rw [← List.take_append_drop k l, List.drop_eq_getElem_cons hk, hx]

/-- What the first one is. -/
theorem first_some (l : List Wt) (hg : Good l) (k : Nat) (h : first l = some k) : ∃ (x : Wt) (i t : Nat), l[k]? = some x ∧ i < 32 ∧ t < 64 ∧ x.level = (i : Int) + 1 ∧ x.task = t ∧ hiTo (qsOf l) 32 = i + 1 ∧
    (qsOf l)[i]? = some (x :: lev (l.eraseIdx k) i) ∧ qsOf (l.eraseIdx k) = (qsOf l).set i (lev (l.eraseIdx k) i) ∧ actOf (l.eraseIdx k) = (actOf l).set t ((cnt l (t : Int) : Int) - 1) ∧ Good (l.eraseIdx k) := by
  obtain ⟨hk, h1, h2⟩ := nx_some l l.length k h
  obtain ⟨x, hx⟩ : ∃ x, l[k]? = some x := ⟨_, List.getElem?_eq_getElem hk⟩
  have hm : x ∈ l := List.mem_of_getElem? hx
  have hL := hg.level x hm
  have hT := hg.task x hm
  obtain ⟨e1, e2⟩ := split_at l k x hx
  have hlx : lvAt l k = x.level := by simp [lvAt, hx]
  have hle : ∀ y ∈ l, y.level ≤ x.level := fun y hy => by
    obtain ⟨j, hj⟩ := List.mem_iff_getElem?.1 hy
    have hjl : lvAt l j = y.level := by simp [lvAt, hj]
    have hjlt : j < l.length := (List.getElem?_eq_some_iff.1 hj).1
    by_cases c : j < k
    · have := h1 j c; omega
    · have := h2 j (by omega) hjlt; omega
  have hlt : ∀ y ∈ l.take k, y.level < x.level := fun y hy => by
    obtain ⟨j, hj⟩ := List.mem_iff_getElem?.1 hy
    rw [List.getElem?_take] at hj
    split at hj
    · rename_i hjk
      have hjl : lvAt l j = y.level := by simp [lvAt, hj]
      have := h1 j hjk; omega
    · cases hj
  have hi : x.level = ((x.level - 1).toNat : Int) + 1 := by omega
  have ht : x.task = (x.task.toNat : Int) := by omega
  have hlevE : ∀ n, lev (l.eraseIdx k) n = lev (l.take k) n ++ lev (l.drop (k + 1)) n := fun n => by rw [e2, lev_append]
  have hlevL : ∀ n, lev l n = lev (l.take k) n ++ ((if x.level = (n : Int) + 1 then [x] else []) ++ lev (l.drop (k + 1)) n) := fun n => by
    conv => lhs; rw [e1, lev_append, lev_cons]
  have hcE : ∀ n, cnt (l.eraseIdx k) n = cnt (l.take k) n + cnt (l.drop (k + 1)) n := fun n => by rw [e2, cnt_append]
  have hcL : ∀ n, cnt l n = cnt (l.take k) n + ((if x.task = n then 1 else 0) + cnt (l.drop (k + 1)) n) := fun n => by
    conv => lhs; rw [e1, cnt_append, cnt_cons]
  have hnil : lev (l.take k) (x.level - 1).toNat = [] := lev_nil_of _ _ fun y hy => by have := hlt y hy; omega
  have hlx0 : lev l (x.level - 1).toNat = x :: lev (l.eraseIdx k) (x.level - 1).toNat := by
    rw [hlevL, hlevE, hnil, if_pos hi]; rfl
  refine ⟨x, (x.level - 1).toNat, x.task.toNat, hx, by omega, by omega, hi, ht, ?_, ?_, ?_, ?_, ?_, ?_, ?_⟩
  · refine hiTo_eq _ _ _ (by omega) ?_ fun j a b => ?_
    · rw [qsOf_get _ _ (by omega), hlx0]; simp
    · rw [qsOf_get _ _ b]
      exact lev_nil_of _ _ fun y hy => by have := hle y hy; omega
  · rw [qsOf_get _ _ (by omega), hlx0]
  · refine qsOf_set _ _ _ (by omega) fun n _ hne => ?_
    rw [hlevL, hlevE, if_neg (by omega)]; rfl
  · have h0 := hcE (x.task.toNat : Int)
    have h1 := hcL (x.task.toNat : Int)
    rw [if_pos ht] at h1
    rw [show (cnt l (x.task.toNat : Int) : Int) - 1 = (cnt (l.eraseIdx k) (x.task.toNat : Int) : Int) by omega]
    refine actOf_set _ _ _ (by omega) fun n _ hne => ?_
    rw [hcL, hcE, if_neg (by omega)]; omega
  · exact fun y hy => hg.task y (List.mem_of_mem_eraseIdx hy)
  · exact fun y hy => hg.level y (List.mem_of_mem_eraseIdx hy)
  · intro t
    have := hg.few t
    rw [hcL] at this
    rw [hcE]; omega

theorem first_none (l : List Wt) (h : first l = none) : l = [] := List.eq_nil_of_length_eq_zero ((nx_none l l.length).1 h)

/-- Put. -/
def putA (l : List Wt) (t lv j : Int) : Int × List Wt :=
  if t < 0 ∨ 64 ≤ t ∨ lv < 1 ∨ 32 < lv ∨ j < 0 then (1, l) else if 8 ≤ cnt l t then (4, l) else (0, l ++ [⟨j, t, lv⟩])
theorem Good.put {l : List Wt} (h : Good l) (x : Wt) (h1 : 0 ≤ x.task ∧ x.task < 64) (h2 : 1 ≤ x.level ∧ x.level ≤ 32) (h3 : cnt l x.task < 8) : Good (l ++ [x]) := by
  refine ⟨fun y hy => ?_, fun y hy => ?_, fun t => ?_⟩
  · rcases List.mem_append.1 hy with hy | hy
    · exact h.task y hy
    · rw [List.mem_singleton.1 hy]; exact h1
  · rcases List.mem_append.1 hy with hy | hy
    · exact h.level y hy
    · rw [List.mem_singleton.1 hy]; exact h2
  · rw [cnt_append, cnt_one]
    by_cases e : x.task = t
    · rw [if_pos e, ← e]; omega
    · rw [if_neg e]; exact h.few t
theorem Good.nil : Good [] := ⟨fun _ h => (by cases h), fun _ h => (by cases h), fun _ => Nat.zero_le _⟩
theorem putA_good {l : List Wt} (h : Good l) (t lv j : Int) : Good (putA l t lv j).2 := by
  unfold putA
  split
  · exact h
  · rename_i h1
    split
    · exact h
    · exact h.put ⟨j, t, lv⟩ ⟨by simp only; omega, by simp only; omega⟩ ⟨by simp only; omega, by simp only; omega⟩ (by simp only; omega)

/-- The list's order: the highest level first. -/
def listA (l : List Wt) : List Wt := (List.range 32).reverse.flatMap (lev l)
def levelA (l : List Wt) (lv : Int) : List Wt := l.filter fun x => decide (x.level = lv)
theorem flatMap_same {α β : Type} {l : List α} {f g : α → List β} (h : ∀ x ∈ l, f x = g x) : l.flatMap f = l.flatMap g := by
  induction l with
  | nil => rfl
  | cons a r ih => rw [List.flatMap_cons, List.flatMap_cons, h a (by simp), ih fun x hx => h x (by simp [hx])]
theorem ls_qsOf (l : List Wt) : ls (qsOf l) = listA l := by
  rw [ls, lpre, qsOf_length, List.drop_zero, List.map_flatMap, listA]
  apply flatMap_same
  intro i hi
  have : i < 32 := by simpa using hi
  rw [qsOf_get _ _ this, Option.getD_some, List.map_map]
  exact List.map_id _
theorem pick_one (k : Nat) (X : Nat → List Wt) (n : Nat) : ((List.range n).reverse.flatMap fun i => if i = k then X i else []) = if k < n then X k else [] := by
  induction n with
  | zero => rfl
  | succ n ih =>
    rw [List.range_succ, List.reverse_append, List.flatMap_append, ih]
    simp only [List.reverse_cons, List.reverse_nil, List.nil_append, List.flatMap_cons, List.flatMap_nil, List.append_nil]
    by_cases h : n = k
    · subst h; simp
    · rw [if_neg h]
      by_cases h2 : k < n
      · rw [if_pos h2, if_pos (by omega)]; rfl
      · rw [if_neg h2, if_neg (by omega)]; rfl
theorem lvl_qsOf (l : List Wt) (hg : Good l) (lv : Int) : lvl lv (lpre (qsOf l) 0) = levelA l lv := by
  rw [lvl, lpre, qsOf_length, List.drop_zero, List.filter_flatMap, List.map_flatMap]
  by_cases h : 1 ≤ lv ∧ lv ≤ 32
  · have : ((List.range 32).reverse.flatMap fun i => (((((qsOf l)[i]?).getD []).map fun x => ((i + 1 : Nat), x)).filter fun y : Nat × Wt => decide ((y.1 : Int) = lv)).map (·.2)) = (List.range 32).reverse.flatMap fun i => if i = (lv - 1).toNat then lev l i else [] := by
      apply flatMap_same
      intro i hi
      have h32 : i < 32 := by simpa using hi
      rw [qsOf_get _ _ h32]
      by_cases e : i = (lv - 1).toNat
      · rw [if_pos e, List.filter_eq_self.2]
        · rw [Option.getD_some, List.map_map]
          exact List.map_id _
        · intro y hy
          simp only [Option.getD_some, List.mem_map] at hy
          obtain ⟨x, -, rfl⟩ := hy
          simp only [decide_eq_true_eq]; omega
      · rw [if_neg e, List.filter_eq_nil_iff.2]
        · rfl
        · intro y hy
          simp only [Option.getD_some, List.mem_map] at hy
          obtain ⟨x, -, rfl⟩ := hy
          simp only [decide_eq_true_eq]; omega
    rw [this, pick_one, if_pos (by omega), lev, levelA]
    rw [show ((lv - 1).toNat : Int) + 1 = lv by omega]
  · have : ((List.range 32).reverse.flatMap fun i => (((((qsOf l)[i]?).getD []).map fun x => ((i + 1 : Nat), x)).filter fun y : Nat × Wt => decide ((y.1 : Int) = lv)).map (·.2)) = (List.range 32).reverse.flatMap fun _ => [] := by
      apply flatMap_same
      intro i hi
      have h32 : i < 32 := by simpa using hi
      rw [List.filter_eq_nil_iff.2]
      · rfl
      · intro y hy
        simp only [List.mem_map] at hy
        obtain ⟨x, -, rfl⟩ := hy
        simp only [decide_eq_true_eq]; omega
    rw [this, levelA, List.filter_eq_nil_iff.2]
    · simp
    · intro x hx
      have := hg.level x hx
      simp only [decide_eq_true_eq]; omega

def wt (x : Wt) : Value := .agg #[.int .i64 x.job, .int .i64 x.task, .int .i64 x.level]
/-- The first one, and whether there is one. -/
def firstV (l : List Wt) : Value := match (first l).bind (l[·]?) with
  | some x => .tuple #[wt x, .bool true]
  | none => .tuple #[wt ⟨0, 0, 0⟩, .bool false]
/-- What Take leaves. -/
def takeL (l : List Wt) : List Wt := match first l with
  | some k => l.eraseIdx k
  | none => l

end EQ
end Go.Proofs.Ytnpcikghgfbfoaa
