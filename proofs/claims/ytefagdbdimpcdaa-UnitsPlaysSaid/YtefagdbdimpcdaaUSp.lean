/-
  UNITS: plain: free and held units are all of them.
-/
import Derived.Test.YtefagdbdimpcdaaUB
set_option linter.unusedVariables false
set_option linter.unusedSimpArgs false
namespace Go.Proofs.Ytefagdbdimpcdaa
open Go Go.RowKit
namespace UN

theorem sum_add (f g : Int → Int) : ∀ l : List Int, (l.map fun j => f j + g j).sum = (l.map f).sum + (l.map g).sum
  | [] => rfl
  | a :: l => by simp only [List.map_cons, List.sum_cons, sum_add f g l]; omega
theorem sum_zero : ∀ l : List Int, (l.map fun _ => (0 : Int)).sum = 0
  | [] => rfl
  | a :: l => by simp only [List.map_cons, List.sum_cons, sum_zero l]; rfl
theorem sum_one (a c : Int) : ∀ l : List Int, l.Nodup → (l.map fun j => if a = j then c else 0).sum = if a ∈ l then c else 0
  | [], _ => by simp
  | b :: l, h => by
    obtain ⟨h1, h2⟩ := List.nodup_cons.1 h
    simp only [List.map_cons, List.sum_cons, sum_one a c l h2]
    by_cases e : a = b
    · subst e
      rw [if_pos rfl, if_neg h1, if_pos List.mem_cons_self]; omega
    · rw [if_neg e]
      by_cases m : a ∈ l
      · rw [if_pos m, if_pos (List.mem_cons_of_mem _ m)]; omega
      · rw [if_neg m, if_neg (fun hm => by rcases List.mem_cons.1 hm with h | h; exact e h; exact m h)]; omega
theorem heldT_cons (t : Tk) (T : List Tk) (j r : Int) : heldT (t :: T) j r = (if t.job = j then (if t.res = r then t.n else 0) else 0) + heldT T j r := by
  unfold heldT
  rw [locksOf_cons]
  by_cases e : t.job = j
  · rw [if_pos e, if_pos e, heldL_cons]
  · rw [if_neg e, if_neg e, Int.zero_add]
theorem sum_jobs (js : List Int) (hj : js.Nodup) (r : Int) : ∀ T : List Tk, (∀ t ∈ T, t.res = r → t.job ∈ js) → (js.map fun j => heldT T j r).sum = usedT T r
  | [], _ => sum_zero js
  | t :: T, h => by
    rw [show (fun j => heldT (t :: T) j r) = fun j => (if t.job = j then (if t.res = r then t.n else 0) else 0) + heldT T j r from funext fun j => heldT_cons t T j r]
    rw [sum_add, sum_one _ _ _ hj, sum_jobs js hj r T fun x hx => h x (List.mem_cons_of_mem _ hx), usedT_cons]
    by_cases e : t.res = r
    · rw [if_pos (h t List.mem_cons_self e)]
    · rw [if_neg e]; split <;> rfl
def sumN (hs : List Hd) : Int := (hs.map (·.n)).sum
theorem sumN_snoc (hs : List Hd) (m : Nat) (x : Hd) (hx : hs[m]? = some x) : sumN (hs.take (m + 1)) = sumN (hs.take m) + x.n := by
  unfold sumN
  rw [List.take_add_one, hx]
  simp
theorem holders_sum {T : List Tk} {r : Int} {hs : List Hd} (hp : ∀ t ∈ T, 1 ≤ t.n) (h : IsH T r hs) : sumN hs = usedT T r := by
  have e : hs.map (·.n) = (hs.map (·.job)).map fun j => heldT T j r := by
    rw [List.map_map]
    exact List.map_congr_left fun x hx => ((h.2 x).1 hx).1
  unfold sumN
  rw [e]
  refine sum_jobs _ ?_ r T fun t ht hr => ?_
  · exact (List.pairwise_map.2 (h.1.imp fun hab => Int.ne_of_lt hab))
  · have h1 := held_pos T t.job t hp ht rfl
    have h2 := hp t ht
    rw [hr] at h1
    exact List.mem_map.2 ⟨⟨t.job, heldT T t.job r⟩, (h.2 _).2 ⟨rfl, by show 0 < heldT T t.job r; omega⟩, rfl⟩
theorem sumN_le : ∀ hs : List Hd, (∀ h ∈ hs, 0 ≤ h.n ∧ h.n ≤ 255) → 0 ≤ sumN hs ∧ sumN hs ≤ 255 * hs.length
  | [], _ => ⟨Int.le_refl _, by simp [sumN]⟩
  | x :: hs, h => by
    have ih := sumN_le hs fun y hy => h y (List.mem_cons_of_mem _ hy)
    have hx := h x List.mem_cons_self
    have e : sumN (x :: hs) = x.n + sumN hs := by simp [sumN]
    rw [e, List.length_cons]
    omega
theorem heldL_le (r : Int) : ∀ ls : List Lk, (∀ l ∈ ls, 0 ≤ l.n ∧ l.n ≤ 255) → 0 ≤ heldL ls r ∧ heldL ls r ≤ 255 * ls.length
  | [], _ => ⟨Int.le_refl _, by simp [heldL]⟩
  | x :: ls, h => by
    have ih := heldL_le r ls fun y hy => h y (List.mem_cons_of_mem _ hy)
    have hx := h x List.mem_cons_self
    rw [heldL_cons, List.length_cons]
    split <;> omega
theorem heldL_take (r : Int) (ls : List Lk) (m : Nat) (x : Lk) (hx : ls[m]? = some x) : heldL (ls.take (m + 1)) r = heldL (ls.take m) r + if x.res = r then x.n else 0 := by
  rw [List.take_add_one, hx]
  exact heldL_snoc _ _ _
section
variable {U C : List Int} {T : List Tk}
theorem Inv.lock_le (h : Inv U C T) {job : Int} {l : Lk} (hl : l ∈ locksOf T job) : 0 ≤ l.n ∧ l.n ≤ 255 := by
  unfold locksOf at hl
  obtain ⟨t, ht, rfl⟩ := List.mem_map.1 hl
  obtain ⟨h1, h2⟩ := List.mem_filter.1 ht
  have h3 := h.tb t h1
  have h4 := held_pos T t.job t h.pos h1 rfl
  have h5 := (h.held t.job t.res).2
  obtain ⟨r, hr⟩ : ∃ r : Nat, t.res = r := ⟨t.res.toNat, by omega⟩
  have h6 := (h.used r).2
  rw [hr] at h4 h5
  show 0 ≤ t.n ∧ t.n ≤ 255
  omega
theorem Inv.hold_le (h : Inv U C T) {r : Nat} {hs : List Hd} (hh : IsH T r hs) {x : Hd} (hx : x ∈ hs) : x.n = heldT T x.job r ∧ 1 ≤ x.n ∧ x.n ≤ 255 := by
  have h1 := (hh.2 x).1 hx
  have h5 := (h.held x.job r).2
  have h6 := (h.used r).2
  omega
theorem heldQ_nat (job : Int) {r : Nat} (hr : r < U.length) : heldQ U T job r = heldT T job r := by
  unfold heldQ; rw [if_pos (known_nat (by omega))]
theorem freeQ_nat {r : Nat} {u : Int} (hu : U[r]? = some u) : freeQ U T r = u - usedT T r := by
  have hr := (List.getElem?_eq_some_iff.1 hu).1
  unfold freeQ; rw [if_pos (known_nat (by omega))]
  unfold freeT; rw [unitsOf_at hu]
end
theorem hold_c {w : World} {ow : Ow} {p : List Nat} {b off n cap : Nat} {xs : List Hd} (h : Row w ow p 31 2 (.slice (some ⟨b, off, none⟩) n cap) n (EHd.css xs)) (r : Nat) (x : Hd) (hx : xs[r]? = some x) :
    w.cell? ⟨b, off + r * 2, none⟩ = some (.int .i64 x.job) ∧ w.cell? ⟨b, off + r * 2 + 1, none⟩ = some (.int .i64 x.n) := by
  obtain ⟨-, -, -, h4⟩ := h.open_
  have e0 := h4 (r * 2 + 0) _ (EHd.css_at xs r x hx 0 _ rfl (by omega))
  have e1 := h4 (r * 2 + 1) _ (EHd.css_at xs r x hx 1 _ rfl (by omega))
  simp only [Nat.add_zero, ← Nat.add_assoc] at e0 e1
  exact ⟨e0, e1⟩
theorem lock_c {w : World} {ow : Ow} {p : List Nat} {b off n cap : Nat} {xs : List Lk} (h : Row w ow p 51 2 (.slice (some ⟨b, off, none⟩) n cap) n (ELk.css xs)) (r : Nat) (x : Lk) (hx : xs[r]? = some x) :
    w.cell? ⟨b, off + r * 2, none⟩ = some (.int .i64 x.res) ∧ w.cell? ⟨b, off + r * 2 + 1, none⟩ = some (.int .i64 x.n) := by
  obtain ⟨-, -, -, h4⟩ := h.open_
  have e0 := h4 (r * 2 + 0) _ (ELk.css_at xs r x hx 0 _ rfl (by omega))
  have e1 := h4 (r * 2 + 1) _ (ELk.css_at xs r x hx 1 _ rfl (by omega))
  simp only [Nat.add_zero, ← Nat.add_assoc] at e0 e1
  exact ⟨e0, e1⟩
end UN
end Go.Proofs.Ytefagdbdimpcdaa
