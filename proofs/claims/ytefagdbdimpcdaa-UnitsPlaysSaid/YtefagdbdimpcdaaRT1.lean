/-
  KEELREF5: the table of the document's answer: the locks in the order in which they were taken; what asks it.
-/
import Derived.Test.YtefagdbdimpcdaaETk
import Derived.Test.YtefagdbdimpcdaaUSp
set_option linter.unusedVariables false
set_option linter.unusedSimpArgs false
namespace Go.Proofs.Ytefagdbdimpcdaa
open Go Go.RowKit

namespace RT5
open UN
def RT (w : World) (ow : Ow) (p : List Nat) (g : Nat) (U C : List Int) (T : List Tk) : Prop :=
  Inv U C T ∧ ∃ VU VL VC, Cells w ow (p ++ [0]) g 0 [VU, VL, VC] ∧ Row w ow (p ++ [1]) 3 1 VU U.length (EInt.css U) ∧ Row w ow (p ++ [2]) 132 3 VL T.length (ETk.css T) ∧ Row w ow (p ++ [3]) 3 1 VC C.length (EInt.css C)
section
variable {w w1 : World} {ow ow1 : Ow} {p q : List Nat} {g : Nat} {U C : List Int} {T : List Tk}
theorem RT.keep (h : RT w ow p g U C T) (t : Turn q w ow w1 ow1) (hq : ∀ s, ¬ q <+: p ++ s) : RT w1 ow1 p g U C T := by
  obtain ⟨hi, VU, VL, VC, h1, h2, h3, h4⟩ := h
  exact ⟨hi, VU, VL, VC, h1.keep t (hq _), h2.keep t (hq _), h3.keep t (hq _), h4.keep t (hq _)⟩
theorem RT.new_ (h : RT w ow p g U C T) (t : New w ow w1 ow1) : RT w1 ow1 p g U C T := by
  obtain ⟨hi, VU, VL, VC, h1, h2, h3, h4⟩ := h
  exact ⟨hi, VU, VL, VC, h1.new_ t, h2.new_ t, h3.new_ t, h4.new_ t⟩
theorem tk_c {b off n cap : Nat} {xs : List Tk} (h : Row w ow p 132 3 (.slice (some ⟨b, off, none⟩) n cap) n (ETk.css xs)) (r : Nat) (x : Tk) (hx : xs[r]? = some x) :
    w.cell? ⟨b, off + r * 3, none⟩ = some (.int .i64 x.job) ∧ w.cell? ⟨b, off + r * 3 + 1, none⟩ = some (.int .i64 x.res) ∧ w.cell? ⟨b, off + r * 3 + 2, none⟩ = some (.int .i64 x.n) := by
  obtain ⟨-, -, -, h4⟩ := h.open_
  have e0 := h4 (r * 3 + 0) _ (ETk.css_at xs r x hx 0 _ rfl (by omega))
  have e1 := h4 (r * 3 + 1) _ (ETk.css_at xs r x hx 1 _ rfl (by omega))
  have e2 := h4 (r * 3 + 2) _ (ETk.css_at xs r x hx 2 _ rfl (by omega))
  exact ⟨e0, e1, e2⟩
/-- The list, opened at one lock. -/
theorem RT.at_ (h : RT w ow p g U C T) : ∃ A c, w.cell? ⟨g, 1, none⟩ = some (.slice A T.length c) ∧ g < w.heap.size ∧ ∀ r x, T[r]? = some x → ∃ b off, A = some ⟨b, off, none⟩ ∧ b < w.heap.size ∧ w.cell? ⟨b, off + r * 3, none⟩ = some (.int .i64 x.job) ∧ w.cell? ⟨b, off + r * 3 + 1, none⟩ = some (.int .i64 x.res) ∧ w.cell? ⟨b, off + r * 3 + 2, none⟩ = some (.int .i64 x.n) := by
  obtain ⟨hi, VU, VL, VC, h1, h2, h3, h4⟩ := h
  obtain ⟨A, c, rfl, -⟩ := h3.slice
  have c1 := h1.get 1 rfl
  simp only [Nat.zero_add] at c1
  refine ⟨A, c, c1, h1.lt, fun r x hx => ?_⟩
  have hr := (List.getElem?_eq_some_iff.1 hx).1
  obtain ⟨b, off, cap, hv, -, -, hb, -⟩ := h3.at (by omega)
  simp only [Value.slice.injEq] at hv
  obtain ⟨rfl, -, rfl⟩ := hv
  obtain ⟨e0, e1, e2⟩ := tk_c h3 r x hx
  exact ⟨b, off, rfl, hb, e0, e1, e2⟩
theorem Inv.tkb (h : Inv U C T) : ∀ t ∈ T, 0 ≤ t.n ∧ t.n ≤ 255 := fun t ht => by
  have := h.lock_le (job := t.job) (l := ⟨t.res, t.n⟩) (by unfold locksOf; exact List.mem_map.2 ⟨t, List.mem_filter.2 ⟨ht, by simp⟩, rfl⟩)
  exact this
theorem take_snoc (k : Nat) (x : Tk) (hx : T[k]? = some x) : T.take (k + 1) = T.take k ++ [x] := by rw [List.take_add_one, hx]; rfl
theorem held_take (job r : Int) (k : Nat) (x : Tk) (hx : T[k]? = some x) : heldT (T.take (k + 1)) job r = heldT (T.take k) job r + if x.job = job ∧ x.res = r then x.n else 0 := by
  unfold heldT
  rw [take_snoc k x hx, locksOf_snoc]
  by_cases h1 : x.job = job
  · rw [if_pos h1, heldL_snoc]
    by_cases h2 : x.res = r
    · rw [if_pos h2, if_pos ⟨h1, h2⟩]
    · rw [if_neg h2, if_neg (fun h => h2 h.2)]
  · rw [if_neg h1, if_neg (fun h => h1 h.1)]; omega
theorem used_take (r : Int) (k : Nat) (x : Tk) (hx : T[k]? = some x) : usedT (T.take (k + 1)) r = usedT (T.take k) r + if x.res = r then x.n else 0 := by
  rw [take_snoc k x hx, usedT_snoc]
theorem sums_le (r : Int) : ∀ T : List Tk, (∀ t ∈ T, 0 ≤ t.n ∧ t.n ≤ 255) → 0 ≤ usedT T r ∧ usedT T r ≤ 255 * T.length
  | [], _ => ⟨Int.le_refl _, Int.le_refl _⟩
  | t :: T, h => by
    have ih := sums_le r T fun x hx => h x (List.mem_cons_of_mem _ hx)
    have ht := h t List.mem_cons_self
    rw [usedT_cons, List.length_cons]
    split <;> omega
theorem helds_le (job r : Int) : ∀ T : List Tk, (∀ t ∈ T, 0 ≤ t.n ∧ t.n ≤ 255) → 0 ≤ heldT T job r ∧ heldT T job r ≤ 255 * T.length
  | [], _ => ⟨Int.le_refl _, Int.le_refl _⟩
  | t :: T, h => by
    have ih := helds_le job r T fun x hx => h x (List.mem_cons_of_mem _ hx)
    have ht := h t List.mem_cons_self
    unfold heldT at *
    rw [locksOf_cons, List.length_cons]
    split
    · rw [heldL_cons]
      show 0 ≤ (if t.res = r then t.n else 0) + heldL (locksOf T job) r ∧ (if t.res = r then t.n else 0) + heldL (locksOf T job) r ≤ _
      split <;> omega
    · omega
theorem used_unknown (hi : Inv U C T) {res : Int} (hk : known U res = false) : usedT T res = 0 := by
  have h1 : ∀ t ∈ T, t.res ≠ res := fun t ht e => known_no hk (by have := hi.tb t ht; omega)
  clear hi hk
  induction T with
  | nil => rfl
  | cons t T ih => rw [usedT_cons, if_neg (h1 t List.mem_cons_self), ih fun x hx => h1 x (List.mem_cons_of_mem _ hx)]; rfl
theorem freeQ_eq (hi : Inv U C T) (res : Int) : freeQ U T res = unitsOf U res - usedT T res := by
  unfold freeQ freeT
  cases hk : known U res with
  | false => rw [if_neg (by simp), unitsOf_no hk, used_unknown hi hk]; rfl
  | true => rw [if_pos rfl]
theorem heldQ_eq (hi : Inv U C T) (job res : Int) : heldQ U T job res = heldT T job res := by
  unfold heldQ
  cases hk : known U res with
  | false => rw [if_neg (by simp), heldT_unknown hi hk job]
  | true => rw [if_pos rfl]
end

section
variable (w : World) (ow : Ow) (p : List Nat) (g : Nat) (U C : List Int) (T : List Tk)

set_option maxHeartbeats 1000000 in
theorem rknown (h : RT w ow p g U C T) (res : Int) : Calls Try.prog 83 #[.pointer (some ⟨g, 0, none⟩), .int .i64 res] w fun e w' => e = .returned (.bool (known U res)) ∧ w' = w := by
  obtain ⟨hi, VU, VL, VC, h1, h2, -⟩ := h
  obtain ⟨A, c, rfl, -⟩ := h2.slice
  have c0 := h1.get0
  have lg := h1.lt
  unfold known
  clear h1 h2 hi
  go_enter Try.func83, Try.ntmps83
  by_cases q0 : 0 ≤ res
  · by_cases q1 : res < U.length
    · go_wp2
      go_ret
      exact ⟨by rw [decide_eq_true ⟨q0, q1⟩]; rfl, rfl⟩
    · go_wp2
      go_ret
      exact ⟨by rw [decide_eq_false (by omega)]; rfl, rfl⟩
  · go_wp2
    go_ret
    exact ⟨by rw [decide_eq_false (by omega)]; rfl, rfl⟩

set_option maxHeartbeats 1000000 in
theorem rtotal (h : RT w ow p g U C T) (res : Int) : Calls Try.prog 69 #[.pointer (some ⟨g, 0, none⟩), .int .i64 res] w fun e w' => e = .returned (.int .i64 (unitsOf U res)) ∧ w' = w := by
  have hk := rknown w ow p g U C T h res
  cases hkn : known U res with
  | false =>
    rw [hkn] at hk
    rw [unitsOf_no hkn]
    clear h hkn
    go_enter Try.func69, Try.ntmps69
    go_wp2_with fail
    refine hk.mono ?_
    rintro e w' ⟨rfl, rfl⟩
    go_wp2
    go_ret
    exact ⟨rfl, rfl⟩
  | true =>
    rw [hkn] at hk
    obtain ⟨r, rfl, hr, u, hu⟩ := known_yes hkn
    obtain ⟨hi, VU, VL, VC, h1, h2, -⟩ := h
    obtain ⟨b, off, cap, rfl, lb, eu, -⟩ := row_at h2 rfl r u hu
    have c0 := h1.get0
    have lg := h1.lt
    rw [unitsOf_at hu]
    have i0 : (r : Int) < (U.length : Int) := by omega
    clear hkn h1 h2 hi hu
    go_enter Try.func69, Try.ntmps69
    go_wp2_with fail
    refine hk.mono ?_
    rintro e w' ⟨rfl, rfl⟩
    go_wp2
    go_ret
    exact ⟨rfl, rfl⟩

def sumR (f : Nat → Int) (N : Nat) (W : World) (gn : Nat) (n i : Value) (wr : World) : Prop := ∃ (k : Nat) (S : Int), gn = N - k ∧ k ≤ N ∧ i = .int .i64 (k : Int) ∧ n = .int .i64 S ∧ S = f k ∧ wr = W

set_option maxHeartbeats 2000000 in
theorem rheld (h : RT w ow p g U C T) (job res : Int) : Calls Try.prog 71 #[.pointer (some ⟨g, 0, none⟩), .int .i64 job, .int .i64 res] w fun e w' => e = .returned (.int .i64 (heldQ U T job res)) ∧ w' = w := by
  rw [heldQ_eq h.1]
  have hl := h.1.len
  have hb := Inv.tkb h.1
  obtain ⟨A, c, c1, lg, hat⟩ := h.at_
  have Hb := Lib.hid hb
  have Hat := Lib.hid hat
  clear h hat hb
  go_enter Try.func71, Try.ntmps71
  go_wp2_with fail
  go_loopg [7, 8] T.length (fun gn n i wr => sumR (fun k => heldT (T.take k) job res) T.length w gn n i wr)
  case atStart => exact ⟨0, 0, rfl, Nat.zero_le _, rfl, rfl, rfl, rfl⟩
  case round =>
    obtain ⟨k, S, hgk, hk, rfl, rfl, hS, rfl⟩ := hrel
    replace hS : S = heldT (T.take k) job res := hS
    have Hgk := Lib.hid hgk
    have hSb : 0 ≤ S ∧ S ≤ 255 * 4080 := by
      have := helds_le job res (T.take k) fun t ht => Hb.out t (List.mem_of_mem_take ht)
      have h2 := List.length_take_le k T
      omega
    have HS := Lib.hid hS
    clear hgk hS
    by_cases hlt : k < T.length
    · obtain ⟨x, hx⟩ : ∃ x, T[k]? = some x := ⟨_, List.getElem?_eq_getElem hlt⟩
      obtain ⟨b, off, rfl, lb, e0, e1, e2⟩ := Hat.out k x hx
      have hxb := Hb.out x (List.mem_of_getElem? hx)
      have hst := held_take job res k x hx
      have Hst := Lib.hid hst
      have i0 : (k : Int) < (T.length : Int) := by omega
      clear hx hst
      by_cases q1 : x.res = res
      · have b1 : (x.res == res) = true := beq_iff_eq.2 q1
        by_cases q2 : x.job = job
        · have b2 : (x.job == job) = true := beq_iff_eq.2 q2
          have hq : x.job = job ∧ x.res = res := ⟨q2, q1⟩
          have Hq := Lib.hid hq
          clear q1 q2 hq
          go_wp2
          go_roundg (T.length - (k + 1))
          case measure => have := Hgk.out; omega
          case rel => exact ⟨k + 1, S + x.n, rfl, by omega, by go_num, by go_num, by show _ = heldT (T.take (k + 1)) job res; rw [Hst.out, HS.out, if_pos Hq.out], rfl⟩
        · have b2 : (x.job == job) = false := beq_eq_false_iff_ne.2 q2
          have hq : ¬ (x.job = job ∧ x.res = res) := fun h => q2 h.1
          have Hq := Lib.hid hq
          clear q1 q2 hq
          go_wp2
          go_roundg (T.length - (k + 1))
          case measure => have := Hgk.out; omega
          case rel => exact ⟨k + 1, S, rfl, by omega, by go_num, rfl, by show _ = heldT (T.take (k + 1)) job res; rw [Hst.out, HS.out, if_neg Hq.out, Int.add_zero], rfl⟩
      · have b1 : (x.res == res) = false := beq_eq_false_iff_ne.2 q1
        have hq : ¬ (x.job = job ∧ x.res = res) := fun h => q1 h.2
        have Hq := Lib.hid hq
        clear q1 hq
        go_wp2
        go_roundg (T.length - (k + 1))
        case measure => have := Hgk.out; omega
        case rel => exact ⟨k + 1, S, rfl, by omega, by go_num, rfl, by show _ = heldT (T.take (k + 1)) job res; rw [Hst.out, HS.out, if_neg Hq.out, Int.add_zero], rfl⟩
    · obtain rfl : k = T.length := by omega
      have hS := HS.out
      rw [List.take_length] at hS
      subst hS
      clear hlt Hgk
      go_wp2
      go_ret
      exact ⟨rfl, rfl⟩

set_option maxHeartbeats 2000000 in
theorem rfree (h : RT w ow p g U C T) (res : Int) : Calls Try.prog 70 #[.pointer (some ⟨g, 0, none⟩), .int .i64 res] w fun e w' => e = .returned (.int .i64 (freeQ U T res)) ∧ w' = w := by
  rw [freeQ_eq h.1]
  have hl := h.1.len
  have hb := Inv.tkb h.1
  have hu := unitsOf_le h.1.ub res
  have hcall := rtotal w ow p g U C T h res
  obtain ⟨A, c, c1, lg, hat⟩ := h.at_
  have Hb := Lib.hid hb
  have Hat := Lib.hid hat
  clear h hat hb
  generalize unitsOf U res = u at *
  go_enter Try.func70, Try.ntmps70
  go_wp2_with fail
  refine hcall.mono ?_
  rintro e w1 ⟨rfl, rfl⟩
  clear hcall
  go_wp2_with fail
  go_loopg [5, 6] T.length (fun gn n i wr => sumR (fun k => u - usedT (T.take k) res) T.length w1 gn n i wr)
  case atStart => exact ⟨0, u, rfl, Nat.zero_le _, rfl, rfl, by show u = u - 0; omega, rfl⟩
  case round =>
    obtain ⟨k, S, hgk, hk, rfl, rfl, hS, rfl⟩ := hrel
    replace hS : S = u - usedT (T.take k) res := hS
    have Hgk := Lib.hid hgk
    have hSb : -(255 * 4080) ≤ S ∧ S ≤ 255 := by
      have := sums_le res (T.take k) fun t ht => Hb.out t (List.mem_of_mem_take ht)
      have h2 := List.length_take_le k T
      omega
    have HS := Lib.hid hS
    clear hgk hS
    by_cases hlt : k < T.length
    · obtain ⟨x, hx⟩ : ∃ x, T[k]? = some x := ⟨_, List.getElem?_eq_getElem hlt⟩
      obtain ⟨b, off, rfl, lb, e0, e1, e2⟩ := Hat.out k x hx
      have hxb := Hb.out x (List.mem_of_getElem? hx)
      have hst := used_take res k x hx
      have Hst := Lib.hid hst
      have i0 : (k : Int) < (T.length : Int) := by omega
      clear hx hst
      by_cases q1 : x.res = res
      · have b1 : (x.res == res) = true := beq_iff_eq.2 q1
        have Hq := Lib.hid q1
        clear q1
        go_wp2
        go_roundg (T.length - (k + 1))
        case measure => have := Hgk.out; omega
        case rel => exact ⟨k + 1, S - x.n, rfl, by omega, by go_num, by go_num, by show _ = u - usedT (T.take (k + 1)) res; rw [Hst.out, if_pos Hq.out]; have := HS.out; omega, rfl⟩
      · have b1 : (x.res == res) = false := beq_eq_false_iff_ne.2 q1
        have Hq := Lib.hid q1
        clear q1
        go_wp2
        go_roundg (T.length - (k + 1))
        case measure => have := Hgk.out; omega
        case rel => exact ⟨k + 1, S, rfl, by omega, by go_num, rfl, by show _ = u - usedT (T.take (k + 1)) res; rw [Hst.out, if_neg Hq.out]; have := HS.out; omega, rfl⟩
    · obtain rfl : k = T.length := by omega
      have hS := HS.out
      rw [List.take_length] at hS
      subst hS
      clear hlt Hgk
      go_wp2
      go_ret
      exact ⟨rfl, rfl⟩

/-- Where a job's innermost lock stands. -/
def Inner (T : List Tk) (job j : Int) : Prop := (j = -1 ∧ locksOf T job = []) ∨ ∃ (m : Nat) (t : Tk), j = m ∧ T[m]? = some t ∧ t.job = job ∧ locksOf (T.drop (m + 1)) job = []
theorem Inner.snoc {T : List Tk} {job j : Int} (k : Nat) (x : Tk) (hx : T[k]? = some x) (h : Inner (T.take k) job j) : Inner (T.take (k + 1)) job (if x.job = job then (k : Int) else j) := by
  have hk := (List.getElem?_eq_some_iff.1 hx).1
  by_cases e : x.job = job
  · rw [if_pos e]
    refine .inr ⟨k, x, rfl, by rw [List.getElem?_take_of_lt (by omega)]; exact hx, e, ?_⟩
    rw [List.drop_of_length_le (by rw [List.length_take]; omega)]; rfl
  · rw [if_neg e]
    rcases h with ⟨h1, h2⟩ | ⟨m, t, h1, h2, h3, h4⟩
    · exact .inl ⟨h1, by rw [take_snoc k x hx, locksOf_snoc, if_neg e, h2]⟩
    · have hm := (List.getElem?_eq_some_iff.1 h2).1
      rw [List.length_take] at hm
      refine .inr ⟨m, t, h1, by rw [take_snoc k x hx, List.getElem?_append_left (by rw [List.length_take]; omega)]; exact h2, h3, ?_⟩
      rw [take_snoc k x hx, List.drop_append_of_le_length (by rw [List.length_take]; omega), locksOf_snoc, if_neg e, h4]
theorem Inner.lt {T : List Tk} {job j : Int} (h : Inner T job j) : -1 ≤ j ∧ j < T.length := by
  rcases h with ⟨rfl, -⟩ | ⟨m, t, rfl, h2, -⟩
  · omega
  · have := (List.getElem?_eq_some_iff.1 h2).1; omega

set_option maxHeartbeats 2000000 in
theorem rinner (h : RT w ow p g U C T) (job : Int) : Calls Try.prog 84 #[.pointer (some ⟨g, 0, none⟩), .int .i64 job] w fun e w' => ∃ j, e = .returned (.int .i64 j) ∧ Inner T job j ∧ w' = w := by
  have hl := h.1.len
  obtain ⟨A, c, c1, lg, hat⟩ := h.at_
  have Hat := Lib.hid hat
  clear h hat
  go_enter Try.func84, Try.ntmps84
  go_wp2_with fail
  go_loopg [5, 6] T.length (fun gn n i wr => ∃ (k : Nat) (j : Int), gn = T.length - k ∧ k ≤ T.length ∧ i = .int .i64 (k : Int) ∧ n = .int .i64 j ∧ Inner (T.take k) job j ∧ wr = w)
  case atStart => exact ⟨0, -1, rfl, Nat.zero_le _, rfl, rfl, .inl ⟨rfl, rfl⟩, rfl⟩
  case round =>
    obtain ⟨k, j, hgk, hk, rfl, rfl, hS, rfl⟩ := hrel
    have Hgk := Lib.hid hgk
    have HS := Lib.hid hS
    clear hgk hS
    by_cases hlt : k < T.length
    · obtain ⟨x, hx⟩ : ∃ x, T[k]? = some x := ⟨_, List.getElem?_eq_getElem hlt⟩
      obtain ⟨b, off, rfl, lb, e0, e1, e2⟩ := Hat.out k x hx
      have hst := Inner.snoc k x hx HS.out
      have Hst := Lib.hid hst
      have i0 : (k : Int) < (T.length : Int) := by omega
      clear hx hst
      by_cases q1 : x.job = job
      · have b1 : (x.job == job) = true := beq_iff_eq.2 q1
        have Hq := Lib.hid q1
        clear q1
        go_wp2
        go_roundg (T.length - (k + 1))
        case measure => have := Hgk.out; omega
        case rel => exact ⟨k + 1, k, rfl, by omega, by go_num, rfl, by have := Hst.out; rw [if_pos Hq.out] at this; exact this, rfl⟩
      · have b1 : (x.job == job) = false := beq_eq_false_iff_ne.2 q1
        have Hq := Lib.hid q1
        clear q1
        go_wp2
        go_roundg (T.length - (k + 1))
        case measure => have := Hgk.out; omega
        case rel => exact ⟨k + 1, j, rfl, by omega, by go_num, rfl, by have := Hst.out; rw [if_neg Hq.out] at this; exact this, rfl⟩
    · obtain rfl : k = T.length := by omega
      have hS := HS.out
      rw [List.take_length] at hS
      clear hlt Hgk
      go_wp2
      go_ret
      exact ⟨j, rfl, hS, rfl⟩

set_option maxHeartbeats 1000000 in
theorem rcellE (h : RT w ow p g U C T) (job res : Int) : Calls Try.prog 85 #[.pointer (some ⟨g, 0, none⟩), .int .i64 job, .int .i64 res] w fun e w' => e = .returned (.int .i64 (cellE U T job res)) ∧ w' = w := by
  have hk := rknown w ow p g U C T h res
  have hh := rheld w ow p g U C T h job res
  have hhe := heldQ_eq h.1 job res
  unfold cellE
  clear h
  by_cases q0 : job < 0
  · rw [if_pos (.inl q0)]
    go_enter Try.func85, Try.ntmps85
    go_wp2
    go_ret
    exact ⟨rfl, rfl⟩
  · cases hkn : known U res with
    | false =>
      rw [hkn] at hk
      rw [if_pos (.inr rfl)]
      clear hkn
      go_enter Try.func85, Try.ntmps85
      go_wp2_with fail
      refine hk.mono ?_
      rintro e w' ⟨rfl, rfl⟩
      go_wp2
      go_ret
      exact ⟨rfl, rfl⟩
    | true =>
      rw [hkn] at hk
      rw [if_neg (by simp; omega)]
      rw [hhe] at hh
      generalize heldT T job res = hv at *
      clear hkn hhe
      by_cases q1 : hv = 0
      · rw [if_pos q1]
        subst q1
        go_enter Try.func85, Try.ntmps85
        go_wp2_with fail
        refine hk.mono ?_
        rintro e w' ⟨rfl, rfl⟩
        go_wp2_with fail
        refine hh.mono ?_
        rintro e w' ⟨rfl, rfl⟩
        clear hk hh
        go_wp2
        go_ret
        exact ⟨rfl, rfl⟩
      · rw [if_neg q1]
        have b1 : (hv == 0) = false := beq_eq_false_iff_ne.2 q1
        go_enter Try.func85, Try.ntmps85
        go_wp2_with fail
        refine hk.mono ?_
        rintro e w' ⟨rfl, rfl⟩
        go_wp2_with fail
        refine hh.mono ?_
        rintro e w' ⟨rfl, rfl⟩
        clear hk hh
        go_wp2
        go_ret
        exact ⟨rfl, rfl⟩
end
end RT5
end Go.Proofs.Ytefagdbdimpcdaa
