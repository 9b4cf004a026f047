/-
  UNITS.TABLE: what asks it.
-/
import Derived.Test.YtefagdbdimpcdaaU1
set_option linter.unusedVariables false
set_option linter.unusedSimpArgs false
namespace Go.Proofs.Ytefagdbdimpcdaa
open Go Go.RowKit
namespace UN

set_option maxRecDepth 100000 in
theorem run_index16 (f : Int → Int) (r : Nat) (h : r < 16) (W : World) : (Instr.index 89 (.agg (h16 f).toArray) (.int .i64 (r : Int))).run Try.prog W = .ok (.int .i64 (f r)) W := by
  have c : r = 0 ∨ r = 1 ∨ r = 2 ∨ r = 3 ∨ r = 4 ∨ r = 5 ∨ r = 6 ∨ r = 7 ∨ r = 8 ∨ r = 9 ∨ r = 10 ∨ r = 11 ∨ r = 12 ∨ r = 13 ∨ r = 14 ∨ r = 15 := by omega
  rcases c with rfl | rfl | rfl | rfl | rfl | rfl | rfl | rfl | rfl | rfl | rfl | rfl | rfl | rfl | rfl | rfl <;> rfl
/-- Element r of a row of numbers. -/
theorem row_at {w : World} {ow : Ow} {p : List Nat} {v : Value} {n : Nat} {xs : List Int} (h : Row w ow p 3 1 v n (EInt.css xs)) (hn : xs.length = n) (r : Nat) (x : Int) (hx : xs[r]? = some x) :
    ∃ b off cap, v = .slice (some ⟨b, off, none⟩) n cap ∧ b < w.heap.size ∧ w.cell? ⟨b, off + r, none⟩ = some (.int .i64 x) ∧ (∀ o, w.frozen? ⟨b, o, none⟩ = false) := by
  have hr := (List.getElem?_eq_some_iff.1 hx).1
  obtain ⟨b, off, cap, rfl, -⟩ := h.at (by omega)
  obtain ⟨h1, -, h3, h4⟩ := h.open_
  have e := h4 (r * 1 + 0) _ (EInt.css_at xs r x hx 0 _ rfl (by omega))
  simp only [Nat.mul_one, Nat.add_zero] at e
  exact ⟨b, off, cap, rfl, h1, e, h3⟩
def known (U : List Int) (res : Int) : Bool := decide (0 ≤ res ∧ res < U.length)
theorem known_yes {U : List Int} {res : Int} (h : known U res = true) : ∃ r : Nat, res = r ∧ r < U.length ∧ ∃ u, U[r]? = some u := by
  obtain ⟨h1, h2⟩ := of_decide_eq_true h
  exact ⟨res.toNat, by omega, by omega, _, List.getElem?_eq_getElem (by omega)⟩
theorem known_no {U : List Int} {res : Int} (h : known U res = false) : ¬ (0 ≤ res ∧ res < U.length) := of_decide_eq_false h
theorem unitsOf_no {U : List Int} {res : Int} (h : known U res = false) : unitsOf U res = 0 := by
  have := known_no h
  unfold unitsOf
  split
  · rw [List.getElem?_eq_none (by omega)]; rfl
  · rfl
def freeQ (U : List Int) (T : List Tk) (res : Int) : Int := if known U res = true then freeT U T res else 0
def heldQ (U : List Int) (T : List Tk) (job res : Int) : Int := if known U res = true then heldT T job res else 0
def cellQ (C : List Int) (res : Int) : Int := unitsOf C res

section
variable (w : World) (ow : Ow) (p : List Nat) (g : Nat) (U C : List Int) (T : List Tk)

set_option maxHeartbeats 1000000 in
theorem len_ (h : UT w ow p g U C T) : Calls Try.prog 68 #[.pointer (some ⟨g, 0, none⟩)] w fun e w' => e = .returned (.int .i64 (U.length : Int)) ∧ ∃ k, w' = w.drewN k := by
  obtain ⟨rows, hi, ⟨vu, vf, vc, hc, h2, -⟩, -⟩ := h
  obtain ⟨A, c, rfl, -⟩ := h2.slice
  have c0 := hc.get0
  go_enter Try.func68, Try.ntmps68
  go_wp2
  go_ret
  exact ⟨rfl, 0, rfl⟩

set_option maxHeartbeats 1000000 in
theorem total (h : UT w ow p g U C T) (res : Int) : Calls Try.prog 39 #[.pointer (some ⟨g, 0, none⟩), .int .i64 res] w fun e w' => e = .returned (.int .i64 (unitsOf U res)) ∧ Below w.heap.size w w' := by
  obtain ⟨rows, h⟩ := h
  have hhas := has w ow p g U C T rows h res
  change Calls _ _ _ _ fun e w' => e = .returned (.bool (known U res)) ∧ _ at hhas
  cases hk : known U res with
  | false =>
    rw [hk] at hhas
    rw [unitsOf_no hk]
    clear hk
    go_enter Try.func39, Try.ntmps39
    go_wp2_with fail
    refine hhas.mono ?_
    rintro e w1 ⟨rfl, k, rfl⟩
    go_wp2
    go_ret
    exact ⟨rfl, bdN (Below.refl _ _) _⟩
  | true =>
    rw [hk] at hhas
    obtain ⟨r, rfl, hr, u, hu⟩ := known_yes hk
    rw [unitsOf_at hu]
    obtain ⟨hi, ⟨vu, vf, vc, hc, h2, -⟩, -⟩ := h
    obtain ⟨b, off, cap, rfl, lb, eu, -⟩ := row_at h2 rfl r u hu
    have c0 := hc.get0
    have i0 : (r : Int) < (U.length : Int) := by omega
    clear hk hu hi h2 hc
    go_enter Try.func39, Try.ntmps39
    go_wp2_with fail
    refine hhas.mono ?_
    rintro e w1 ⟨rfl, k, rfl⟩
    go_wp2
    go_ret
    exact ⟨rfl, bdN (Below.refl _ _) _⟩

set_option maxHeartbeats 1000000 in
theorem free (h : UT w ow p g U C T) (res : Int) : Calls Try.prog 13 #[.pointer (some ⟨g, 0, none⟩), .int .i64 res] w fun e w' => e = .returned (.int .i64 (freeQ U T res)) ∧ Below w.heap.size w w' := by
  obtain ⟨rows, h⟩ := h
  have hhas := has w ow p g U C T rows h res
  change Calls _ _ _ _ fun e w' => e = .returned (.bool (known U res)) ∧ _ at hhas
  unfold freeQ
  cases hk : known U res with
  | false =>
    rw [hk] at hhas
    rw [if_neg (by simp)]
    clear hk
    go_enter Try.func13, Try.ntmps13
    go_wp2_with fail
    refine hhas.mono ?_
    rintro e w1 ⟨rfl, k, rfl⟩
    go_wp2
    go_ret
    exact ⟨rfl, bdN (Below.refl _ _) _⟩
  | true =>
    rw [hk] at hhas
    rw [if_pos rfl]
    obtain ⟨r, rfl, hr, u, hu⟩ := known_yes hk
    obtain ⟨hi, ⟨vu, vf, vc, hc, h2, h3, -⟩, -⟩ := h
    obtain ⟨b, off, cap, rfl, lb, eu, -⟩ := row_at h3 (fr_length U T) r _ (fr_at U T r hr)
    have c0 := hc.get 1 rfl
    simp only [Nat.zero_add] at c0
    have i0 : (r : Int) < (U.length : Int) := by omega
    generalize freeT U T r = y at *
    clear hk hu hi h2 h3 hc
    go_enter Try.func13, Try.ntmps13
    go_wp2_with fail
    refine hhas.mono ?_
    rintro e w1 ⟨rfl, k, rfl⟩
    go_wp2
    go_ret
    exact ⟨rfl, bdN (Below.refl _ _) _⟩

set_option maxHeartbeats 1000000 in
theorem held (h : UT w ow p g U C T) (job res : Int) : Calls Try.prog 14 #[.pointer (some ⟨g, 0, none⟩), .int .i64 job, .int .i64 res] w fun e w' => e = .returned (.int .i64 (heldQ U T job res)) ∧ Below w.heap.size w w' := by
  obtain ⟨rows, h⟩ := h
  have hhas := has w ow p g U C T rows h res
  change Calls _ _ _ _ fun e w' => e = .returned (.bool (known U res)) ∧ _ at hhas
  unfold heldQ
  cases hk : known U res with
  | false =>
    rw [hk] at hhas
    rw [if_neg (by simp)]
    clear hk
    go_enter Try.func14, Try.ntmps14
    go_wp2_with fail
    refine hhas.mono ?_
    rintro e w1 ⟨rfl, k, rfl⟩
    go_wp2
    go_ret
    exact ⟨rfl, bdN (Below.refl _ _) _⟩
  | true =>
    rw [hk] at hhas
    rw [if_pos rfl]
    obtain ⟨r, rfl, hr, u, hu⟩ := known_yes hk
    have hix := run_index16 (heldL (locksOf T job)) r (by have := h.1.ul; omega)
    have hof := fun k => of (w.drewN k) ow p g U C T rows (h.new_ ((New.refl _ _).drewN k)) job
    unfold heldT
    generalize heldL (locksOf T job) = f at *
    generalize (h16 f).toArray = V at *
    clear hk hu h
    go_enter Try.func14, Try.ntmps14
    go_wp2_with fail
    refine hhas.mono ?_
    rintro e w1 ⟨rfl, k, rfl⟩
    go_wp2_with fail
    refine (hof k).mono ?_
    rintro e w2 ⟨rfl, hb⟩
    have fin := (bdN (Below.refl w.heap.size w) k).trans hb
    clear hof hb hhas
    go_wp2
    go_ret
    exact ⟨rfl, fin⟩

set_option maxHeartbeats 1000000 in
theorem cell (h : UT w ow p g U C T) (res : Int) : Calls Try.prog 20 #[.pointer (some ⟨g, 0, none⟩), .int .i64 res] w fun e w' => e = .returned (.int .i64 (cellQ C res)) ∧ Below w.heap.size w w' := by
  obtain ⟨rows, h⟩ := h
  have hhas := has w ow p g U C T rows h res
  change Calls _ _ _ _ fun e w' => e = .returned (.bool (known U res)) ∧ _ at hhas
  have hCl := h.1.cl
  unfold cellQ
  cases hk : known U res with
  | false =>
    rw [hk] at hhas
    rw [unitsOf_no (U := C) (by unfold known at hk ⊢; rw [hCl]; exact hk)]
    clear hk
    go_enter Try.func20, Try.ntmps20
    go_wp2_with fail
    refine hhas.mono ?_
    rintro e w1 ⟨rfl, k, rfl⟩
    go_wp2
    go_ret
    exact ⟨rfl, bdN (Below.refl _ _) _⟩
  | true =>
    rw [hk] at hhas
    obtain ⟨r, rfl, hr, -, -⟩ := known_yes hk
    obtain ⟨x, hx⟩ : ∃ x, C[r]? = some x := ⟨_, List.getElem?_eq_getElem (by omega)⟩
    rw [unitsOf_at hx]
    obtain ⟨hi, ⟨vu, vf, vc, hc, h2, h3, h4⟩, -⟩ := h
    obtain ⟨b, off, cap, rfl, lb, eu, -⟩ := row_at h4 hCl r x hx
    have c0 := hc.get 2 rfl
    simp only [Nat.zero_add] at c0
    have i0 : (r : Int) < (U.length : Int) := by omega
    clear hk hx hi h2 h3 h4 hc hCl
    go_enter Try.func20, Try.ntmps20
    go_wp2_with fail
    refine hhas.mono ?_
    rintro e w1 ⟨rfl, k, rfl⟩
    go_wp2
    go_ret
    exact ⟨rfl, bdN (Below.refl _ _) _⟩

/-- What Load and Store refuse. -/
def cellE (U : List Int) (T : List Tk) (job res : Int) : Int := if job < 0 ∨ known U res = false then 1 else if heldT T job res = 0 then 23 else 0

set_option maxHeartbeats 1000000 in
theorem cellE_ (h : UT w ow p g U C T) (job res : Int) : Calls Try.prog 56 #[.pointer (some ⟨g, 0, none⟩), .int .i64 job, .int .i64 res] w fun e w' => e = .returned (.int .i64 (cellE U T job res)) ∧ Below w.heap.size w w' := by
  obtain ⟨rows, h⟩ := h
  have hhas := has w ow p g U C T rows h res
  change Calls _ _ _ _ fun e w' => e = .returned (.bool (known U res)) ∧ _ at hhas
  unfold cellE
  by_cases hj : job < 0
  · rw [if_pos (Or.inl hj)]
    go_enter Try.func56, Try.ntmps56
    go_wp2
    go_ret
    exact ⟨rfl, Below.refl _ _⟩
  · cases hk : known U res with
    | false =>
      rw [hk] at hhas
      rw [if_pos (Or.inr rfl)]
      clear hk
      go_enter Try.func56, Try.ntmps56
      go_wp2_with fail
      refine hhas.mono ?_
      rintro e w1 ⟨rfl, k, rfl⟩
      go_wp2
      go_ret
      exact ⟨rfl, bdN (Below.refl _ _) _⟩
    | true =>
      rw [hk] at hhas
      rw [if_neg (by simp [hj])]
      obtain ⟨r, rfl, hr, u, hu⟩ := known_yes hk
      have hix := run_index16 (heldL (locksOf T job)) r (by have := h.1.ul; omega)
      have hof := fun k => of (w.drewN k) ow p g U C T rows (h.new_ ((New.refl _ _).drewN k)) job
      unfold heldT
      generalize heldL (locksOf T job) = f at *
      generalize (h16 f).toArray = V at *
      clear hk hu h
      by_cases h0 : f r = 0
      · rw [if_pos h0]
        have b0 : (f r == 0) = true := beq_iff_eq.2 h0
        go_enter Try.func56, Try.ntmps56
        go_wp2_with fail
        refine hhas.mono ?_
        rintro e w1 ⟨rfl, k, rfl⟩
        go_wp2_with fail
        refine (hof k).mono ?_
        rintro e w2 ⟨rfl, hb⟩
        have fin := (bdN (Below.refl w.heap.size w) k).trans hb
        clear hof hb hhas
        go_wp2
        go_ret
        exact ⟨rfl, fin⟩
      · rw [if_neg h0]
        have b0 : (f r == 0) = false := beq_eq_false_iff_ne.2 h0
        go_enter Try.func56, Try.ntmps56
        go_wp2_with fail
        refine hhas.mono ?_
        rintro e w1 ⟨rfl, k, rfl⟩
        go_wp2_with fail
        refine (hof k).mono ?_
        rintro e w2 ⟨rfl, hb⟩
        have fin := (bdN (Below.refl w.heap.size w) k).trans hb
        clear hof hb hhas
        go_wp2
        go_ret
        exact ⟨rfl, fin⟩

set_option maxHeartbeats 1000000 in
theorem load (h : UT w ow p g U C T) (job res : Int) : Calls Try.prog 19 #[.pointer (some ⟨g, 0, none⟩), .int .i64 job, .int .i64 res] w fun e w' => e = .returned (.tuple #[.int .i64 (if cellE U T job res = 0 then cellQ C res else 0), .int .i64 (cellE U T job res)]) ∧ Below w.heap.size w w' := by
  have he := cellE_ w ow p g U C T h job res
  by_cases h0 : cellE U T job res = 0
  · rw [if_pos h0, h0]
    rw [h0] at he
    have hk : known U res = true := by
      cases hk : known U res with
      | true => rfl
      | false => unfold cellE at h0; rw [if_pos (Or.inr hk)] at h0; omega
    obtain ⟨r, rfl, hr, -, -⟩ := known_yes hk
    obtain ⟨rows, hi, ⟨vu, vf, vc, hc, h2, h3, h4⟩, -⟩ := h
    have hCl := hi.cl
    obtain ⟨x, hx⟩ : ∃ x, C[r]? = some x := ⟨_, List.getElem?_eq_getElem (by omega)⟩
    unfold cellQ
    rw [unitsOf_at hx]
    have hc0 := hc
    have h40 := h4
    clear h0 hk h2 h3 hi
    go_enter Try.func19, Try.ntmps19
    go_wp2_with fail
    refine he.mono ?_
    rintro e w1 ⟨rfl, hb⟩
    replace hc := hc.new_ (hb.nw ow)
    replace h4 := h4.new_ (hb.nw ow)
    obtain ⟨b, off, cap, rfl, lb, eu, -⟩ := row_at h4 hCl r x hx
    have c0 := hc.get 2 rfl
    simp only [Nat.zero_add] at c0
    have i0 : (r : Int) < (U.length : Int) := by omega
    clear hx h4 hc hCl he hc0 h40
    go_wp2
    go_ret2
    exact ⟨rfl, hb⟩
  · rw [if_neg h0]
    generalize cellE U T job res = y at *
    have b0 : (y == 0) = false := beq_eq_false_iff_ne.2 h0
    go_enter Try.func19, Try.ntmps19
    go_wp2_with fail
    refine he.mono ?_
    rintro e w1 ⟨rfl, hb⟩
    go_wp2
    go_ret2
    exact ⟨rfl, hb⟩
end
end UN
end Go.Proofs.Ytefagdbdimpcdaa
