/-
  UNITS: plain words: the locks in the order in which they were taken.
-/
import Derived.Test.YtefagdbdimpcdaaELk
import Derived.Test.YtefagdbdimpcdaaEHd
set_option linter.unusedVariables false
set_option linter.unusedSimpArgs false
namespace Go.Proofs.Ytefagdbdimpcdaa
open Go Go.RowKit

/-- A lock that is held. -/
structure Tk where
  job : Int
  res : Int
  n : Int

namespace UN

def locksOf (T : List Tk) (job : Int) : List Lk := (T.filter fun t => t.job == job).map fun t => ⟨t.res, t.n⟩
def heldL (ls : List Lk) (r : Int) : Int := (ls.map fun l => if l.res = r then l.n else 0).sum
def heldT (T : List Tk) (job r : Int) : Int := heldL (locksOf T job) r
def usedT (T : List Tk) (r : Int) : Int := (T.map fun t => if t.res = r then t.n else 0).sum
def unitsOf (U : List Int) (r : Int) : Int := if 0 ≤ r then (U[r.toNat]?).getD 0 else 0
def freeT (U : List Int) (T : List Tk) (r : Int) : Int := unitsOf U r - usedT T r
/-- One lock of a job, the last one, goes. -/
def popT (job : Int) : List Tk → List Tk
  | [] => []
  | t :: T => if (locksOf T job).isEmpty then (if t.job = job then T else t :: T) else t :: popT job T
def dropT (job : Int) (T : List Tk) : List Tk := T.filter fun t => !(t.job == job)

structure Inv (U C : List Int) (T : List Tk) : Prop where
  ul : U.length ≤ 16
  cl : C.length = U.length
  ub : ∀ u ∈ U, 1 ≤ u ∧ u ≤ 255
  tb : ∀ t ∈ T, 0 ≤ t.job ∧ 0 ≤ t.res ∧ t.res < U.length ∧ 1 ≤ t.n
  fb : ∀ r : Nat, usedT T r ≤ unitsOf U r

theorem locksOf_nil (job : Int) : locksOf [] job = [] := rfl
theorem locksOf_cons (t : Tk) (T : List Tk) (job : Int) : locksOf (t :: T) job = if t.job = job then ⟨t.res, t.n⟩ :: locksOf T job else locksOf T job := by
  unfold locksOf
  by_cases h : t.job = job
  · rw [if_pos h, List.filter_cons_of_pos (by simpa using h)]; rfl
  · rw [if_neg h, List.filter_cons_of_neg (by simpa using h)]
theorem locksOf_append (T T' : List Tk) (job : Int) : locksOf (T ++ T') job = locksOf T job ++ locksOf T' job := by
  unfold locksOf
  rw [List.filter_append, List.map_append]
theorem locksOf_snoc (T : List Tk) (t : Tk) (job : Int) : locksOf (T ++ [t]) job = if t.job = job then locksOf T job ++ [⟨t.res, t.n⟩] else locksOf T job := by
  rw [locksOf_append, locksOf_cons, locksOf_nil]
  split <;> simp
theorem heldL_nil (r : Int) : heldL [] r = 0 := rfl
theorem heldL_cons (l : Lk) (ls : List Lk) (r : Int) : heldL (l :: ls) r = (if l.res = r then l.n else 0) + heldL ls r := by simp [heldL]
theorem heldL_append (ls ms : List Lk) (r : Int) : heldL (ls ++ ms) r = heldL ls r + heldL ms r := by simp [heldL]
theorem heldL_snoc (ls : List Lk) (l : Lk) (r : Int) : heldL (ls ++ [l]) r = heldL ls r + if l.res = r then l.n else 0 := by simp [heldL]
theorem usedT_cons (t : Tk) (T : List Tk) (r : Int) : usedT (t :: T) r = (if t.res = r then t.n else 0) + usedT T r := by simp [usedT]
theorem usedT_snoc (T : List Tk) (t : Tk) (r : Int) : usedT (T ++ [t]) r = usedT T r + if t.res = r then t.n else 0 := by simp [usedT]
theorem usedT_append (T T' : List Tk) (r : Int) : usedT (T ++ T') r = usedT T r + usedT T' r := by simp [usedT]

/-- What a job holds is held. -/
theorem held_le : ∀ (T : List Tk) (job r : Int), (∀ t ∈ T, 1 ≤ t.n) → 0 ≤ heldT T job r ∧ heldT T job r ≤ usedT T r
  | [], _, _, _ => ⟨Int.le_refl _, Int.le_refl _⟩
  | t :: T, job, r, h => by
    obtain ⟨h1, h2⟩ := held_le T job r fun x hx => h x (List.mem_cons_of_mem _ hx)
    have ht := h t List.mem_cons_self
    unfold heldT at *
    rw [locksOf_cons, usedT_cons]
    by_cases e : t.job = job
    · rw [if_pos e, heldL_cons]
      constructor
      · show 0 ≤ (if t.res = r then t.n else 0) + heldL (locksOf T job) r
        split <;> omega
      · show (if t.res = r then t.n else 0) + heldL (locksOf T job) r ≤ _
        split <;> omega
    · rw [if_neg e]
      constructor
      · exact h1
      · split <;> omega
theorem held_pos : ∀ (T : List Tk) (job : Int) (t : Tk), (∀ t ∈ T, 1 ≤ t.n) → t ∈ T → t.job = job → t.n ≤ heldT T job t.res
  | [], _, _, _, h, _ => by cases h
  | x :: T, job, t, h, hm, hj => by
    have h' : ∀ t ∈ T, 1 ≤ t.n := fun x hx => h x (List.mem_cons_of_mem _ hx)
    unfold heldT
    rw [locksOf_cons]
    rcases List.mem_cons.1 hm with rfl | hm
    · rw [if_pos hj, heldL_cons, if_pos rfl]
      have := (held_le T job t.res h').1
      unfold heldT at this
      show t.n ≤ t.n + _
      omega
    · have ih := held_pos T job t h' hm hj
      unfold heldT at ih
      split
      · rw [heldL_cons]
        have := h x List.mem_cons_self
        show t.n ≤ (if x.res = t.res then x.n else 0) + _
        split <;> omega
      · exact ih

theorem unitsOf_at {U : List Int} {r : Nat} {u : Int} (h : U[r]? = some u) : unitsOf U r = u := by simp [unitsOf, h]
theorem unitsOf_le {U : List Int} (h : ∀ u ∈ U, 1 ≤ u ∧ u ≤ 255) (r : Int) : 0 ≤ unitsOf U r ∧ unitsOf U r ≤ 255 := by
  unfold unitsOf
  split
  · cases hu : U[r.toNat]? with
    | none => simp
    | some u => have := h u (List.mem_of_getElem? hu); simp; omega
  · omega
section
variable {U C : List Int} {T : List Tk}
theorem Inv.pos (h : Inv U C T) : ∀ t ∈ T, 1 ≤ t.n := fun t ht => (h.tb t ht).2.2.2
theorem Inv.held (h : Inv U C T) (job r : Int) : 0 ≤ heldT T job r ∧ heldT T job r ≤ usedT T r := held_le T job r h.pos
theorem Inv.used (h : Inv U C T) (r : Nat) : 0 ≤ usedT T r ∧ usedT T r ≤ 255 :=
  ⟨Int.le_trans (h.held 0 r).1 (h.held 0 r).2, Int.le_trans (h.fb r) (unitsOf_le h.ub r).2⟩
theorem Inv.free (h : Inv U C T) (r : Nat) : 0 ≤ freeT U T r ∧ freeT U T r ≤ 255 := by
  have h1 := h.fb r
  have h2 := h.used r
  have h3 := unitsOf_le h.ub r
  unfold freeT
  omega
theorem sum_le : ∀ (T : List Tk), (∀ t ∈ T, 1 ≤ t.n ∧ 0 ≤ t.res ∧ t.res < 16) → (T.length : Int) ≤ ((List.range 16).map fun r : Nat => usedT T r).sum
  | [], _ => by simp [usedT, List.range_succ]
  | t :: T, h => by
    have ih := sum_le T fun x hx => h x (List.mem_cons_of_mem _ hx)
    have ht := h t List.mem_cons_self
    obtain ⟨m, hm⟩ : ∃ m : Nat, t.res = m := ⟨t.res.toNat, by omega⟩
    have e : ((List.range 16).map fun r : Nat => usedT (t :: T) r).sum = t.n + ((List.range 16).map fun r : Nat => usedT T r).sum := by
      have hm16 : m < 16 := by omega
      simp only [List.range_succ, List.range_zero, List.nil_append, List.cons_append, List.map_cons, List.map_nil, List.sum_cons, List.sum_nil, usedT_cons, hm]
      have key : ∀ a : Nat, (if (m : Int) = (a : Int) then t.n else 0) = if m = a then t.n else 0 := fun a => by
        by_cases ea : m = a
        · subst ea; simp
        · rw [if_neg ea, if_neg (by omega)]
      simp only [key]
      clear key hm ih ht h
      have c : m = 0 ∨ m = 1 ∨ m = 2 ∨ m = 3 ∨ m = 4 ∨ m = 5 ∨ m = 6 ∨ m = 7 ∨ m = 8 ∨ m = 9 ∨ m = 10 ∨ m = 11 ∨ m = 12 ∨ m = 13 ∨ m = 14 ∨ m = 15 := by omega
      rcases c with rfl | rfl | rfl | rfl | rfl | rfl | rfl | rfl | rfl | rfl | rfl | rfl | rfl | rfl | rfl | rfl <;> simp <;> omega
    rw [e, List.length_cons]
    push_cast
    omega
theorem Inv.len (h : Inv U C T) : T.length ≤ 4080 := by
  have h1 := sum_le T fun t ht => ⟨h.pos t ht, (h.tb t ht).2.1, by have := (h.tb t ht).2.2.1; have := h.ul; omega⟩
  have h2 := fun r : Nat => (h.used r).2
  simp only [List.range_succ, List.range_zero, List.nil_append, List.cons_append, List.map_cons, List.map_nil, List.sum_cons, List.sum_nil] at h1
  have a0 := h2 0; have a1 := h2 1; have a2 := h2 2; have a3 := h2 3; have a4 := h2 4; have a5 := h2 5; have a6 := h2 6; have a7 := h2 7
  have a8 := h2 8; have a9 := h2 9; have b0 := h2 10; have b1 := h2 11; have b2 := h2 12; have b3 := h2 13; have b4 := h2 14; have b5 := h2 15
  omega
end
theorem locks_len (T : List Tk) (job : Int) : (locksOf T job).length ≤ T.length := by
  unfold locksOf
  rw [List.length_map]
  exact List.length_filter_le _ _

/-! ### a lock goes -/
theorem pop_locks (job : Int) : ∀ T : List Tk, locksOf (popT job T) job = (locksOf T job).dropLast
  | [] => rfl
  | t :: T => by
    unfold popT
    by_cases he : (locksOf T job).isEmpty = true
    · have hn : locksOf T job = [] := List.isEmpty_iff.1 he
      rw [if_pos he]
      by_cases hj : t.job = job
      · rw [if_pos hj, locksOf_cons, if_pos hj, hn]; rfl
      · rw [if_neg hj, locksOf_cons, if_neg hj, hn]; rfl
    · rw [if_neg he, locksOf_cons, locksOf_cons, pop_locks job T]
      have hn : locksOf T job ≠ [] := fun e => he (List.isEmpty_iff.2 e)
      split
      · rw [List.dropLast_cons_of_ne_nil hn]
      · rfl
theorem pop_other (job j : Int) (hj : j ≠ job) : ∀ T : List Tk, locksOf (popT job T) j = locksOf T j
  | [] => rfl
  | t :: T => by
    unfold popT
    split
    · split
      · rename_i h
        rw [locksOf_cons, if_neg (by rw [h]; exact fun e => hj e.symm)]
      · rfl
    · rw [locksOf_cons, locksOf_cons, pop_other job j hj T]
theorem pop_used (job : Int) : ∀ (T : List Tk) (ls : List Lk) (l : Lk), locksOf T job = ls ++ [l] → ∀ r, usedT (popT job T) r = usedT T r - if l.res = r then l.n else 0
  | [], ls, l, h, _ => by simp [locksOf] at h
  | t :: T, ls, l, h, r => by
    unfold popT
    rw [locksOf_cons] at h
    by_cases he : (locksOf T job).isEmpty = true
    · have hn : locksOf T job = [] := List.isEmpty_iff.1 he
      rw [if_pos he]
      rw [hn] at h
      by_cases hj : t.job = job
      · rw [if_pos hj] at h ⊢
        have hl : l = ⟨t.res, t.n⟩ := by
          have := congrArg List.getLast? h
          simpa [List.getLast?_append] using this.symm
        subst hl
        rw [usedT_cons]
        simp only
        omega
      · rw [if_neg hj] at h
        simp at h
    · have hn : locksOf T job ≠ [] := fun e => he (List.isEmpty_iff.2 e)
      rw [if_neg he, usedT_cons, usedT_cons]
      obtain ⟨ms, m, hm⟩ : ∃ ms m, locksOf T job = ms ++ [m] := ⟨_, _, (List.dropLast_concat_getLast hn).symm⟩
      have hml : m = l := by
        rw [hm] at h
        split at h
        · have := congrArg List.getLast? h
          simpa [List.getLast?_cons, List.getLast?_append] using this
        · have := congrArg List.getLast? h
          simpa [List.getLast?_append] using this
      subst hml
      rw [pop_used job T ms m hm r]
      omega
theorem pop_mem (job : Int) : ∀ (T : List Tk), ∀ t ∈ popT job T, t ∈ T
  | [], t, h => by cases h
  | x :: T, t, h => by
    unfold popT at h
    split at h
    · split at h
      · exact List.mem_cons_of_mem _ h
      · exact h
    · rcases List.mem_cons.1 h with rfl | h
      · exact List.mem_cons_self
      · exact List.mem_cons_of_mem _ (pop_mem job T t h)
theorem Inv.pop {U C : List Int} {T : List Tk} (h : Inv U C T) {job : Int} {ls : List Lk} {l : Lk} (hl : locksOf T job = ls ++ [l]) : Inv U C (popT job T) :=
  ⟨h.ul, h.cl, h.ub, fun t ht => h.tb t (pop_mem job T t ht), fun r => by
    rw [pop_used job T ls l hl r]
    have hm : l ∈ locksOf T job := by rw [hl]; simp
    have : 1 ≤ l.n := by
      unfold locksOf at hm
      obtain ⟨t, ht, rfl⟩ := List.mem_map.1 hm
      exact h.pos t (List.mem_filter.1 ht).1
    have := h.fb r
    split <;> omega⟩
theorem Inv.lock {U C : List Int} {T : List Tk} (h : Inv U C T) {job res n : Int} (hj : 0 ≤ job) (h1 : 0 ≤ res) (h2 : res < U.length) (h3 : 1 ≤ n) (h4 : n ≤ freeT U T res) : Inv U C (T ++ [⟨job, res, n⟩]) :=
  ⟨h.ul, h.cl, h.ub, fun t ht => by
    rcases List.mem_append.1 ht with ht | ht
    · exact h.tb t ht
    · obtain rfl := List.mem_singleton.1 ht
      exact ⟨hj, h1, h2, h3⟩, fun r => by
    rw [usedT_snoc]
    show usedT T r + (if res = (r : Int) then n else 0) ≤ _
    have := h.fb r
    unfold freeT at h4
    by_cases e : res = (r : Int)
    · rw [if_pos e]; rw [e] at h4; omega
    · rw [if_neg e]; omega⟩
theorem Inv.cell {U C C' : List Int} {T : List Tk} (h : Inv U C T) (hl : C'.length = C.length) : Inv U C' T := ⟨h.ul, hl.trans h.cl, h.ub, h.tb, h.fb⟩
theorem drop_locks (job : Int) (T : List Tk) : locksOf (dropT job T) job = [] := by
  unfold locksOf dropT
  rw [List.filter_filter, List.filter_eq_nil_iff.2 (by simp)]
  rfl
theorem drop_other (job j : Int) (hj : j ≠ job) (T : List Tk) : locksOf (dropT job T) j = locksOf T j := by
  unfold locksOf dropT
  rw [List.filter_filter]
  congr 1
  apply List.filter_congr
  intro t _
  by_cases e : t.job = j
  · simp [e, hj]
  · simp [e]
theorem drop_id {job : Int} : ∀ {T : List Tk}, locksOf T job = [] → dropT job T = T
  | [], _ => rfl
  | t :: T, h => by
    rw [locksOf_cons] at h
    by_cases hj : t.job = job
    · rw [if_pos hj] at h; cases h
    · rw [if_neg hj] at h
      unfold dropT
      rw [List.filter_cons_of_pos (by simpa using hj)]
      exact congrArg (t :: ·) (drop_id h)
theorem drop_pop (job : Int) : ∀ T : List Tk, dropT job (popT job T) = dropT job T
  | [] => rfl
  | t :: T => by
    unfold popT
    split
    · split
      · rename_i h
        unfold dropT
        rw [List.filter_cons_of_neg (by simpa using h)]
      · rfl
    · have ih := drop_pop job T
      unfold dropT at ih ⊢
      rw [List.filter_cons, List.filter_cons, ih]

/-- Sixteen cells. -/
def h16 (f : Int → Int) : List Value := [.int .i64 (f 0), .int .i64 (f 1), .int .i64 (f 2), .int .i64 (f 3), .int .i64 (f 4), .int .i64 (f 5), .int .i64 (f 6), .int .i64 (f 7), .int .i64 (f 8), .int .i64 (f 9), .int .i64 (f 10), .int .i64 (f 11), .int .i64 (f 12), .int .i64 (f 13), .int .i64 (f 14), .int .i64 (f 15)]
theorem h16_at (f : Int → Int) (r : Nat) (h : r < 16) : (h16 f)[r]? = some (.int .i64 (f r)) := by
  have c : r = 0 ∨ r = 1 ∨ r = 2 ∨ r = 3 ∨ r = 4 ∨ r = 5 ∨ r = 6 ∨ r = 7 ∨ r = 8 ∨ r = 9 ∨ r = 10 ∨ r = 11 ∨ r = 12 ∨ r = 13 ∨ r = 14 ∨ r = 15 := by omega
  rcases c with rfl | rfl | rfl | rfl | rfl | rfl | rfl | rfl | rfl | rfl | rfl | rfl | rfl | rfl | rfl | rfl <;> rfl
theorem h16_length (f : Int → Int) : (h16 f).length = 16 := rfl
theorem h16_set (f g : Int → Int) (r : Nat) (h : r < 16) (v : Int) (hv : g r = v) (ho : ∀ x, x ≠ (r : Int) → g x = f x) : (h16 f).set r (.int .i64 v) = h16 g := by
  apply List.ext_getElem?
  intro i
  by_cases e : i = r
  · subst e
    rw [List.getElem?_set_self (by rw [h16_length]; exact h), h16_at g i h, hv]
  · rw [List.getElem?_set_ne (Ne.symm e)]
    by_cases hi : i < 16
    · rw [h16_at f i hi, h16_at g i hi, ho i (by omega)]
    · rw [List.getElem?_eq_none (by rw [h16_length]; omega), List.getElem?_eq_none (by rw [h16_length]; omega)]
end UN
end Go.Proofs.Ytefagdbdimpcdaa
