/-
  KEELREF5: what its cells hold, and its lists.
-/
import Derived.Test.YtefagdbdimpcdaaRT1
import Derived.Test.YtefagdbdimpcdaaU3
set_option linter.unusedVariables false
set_option linter.unusedSimpArgs false
namespace Go.Proofs.Ytefagdbdimpcdaa
open Go Go.RowKit

namespace RT5
open UN
section
variable {U C : List Int} {T : List Tk}
theorem drop_len (job : Int) : ∀ T : List Tk, (dropT job T).length + (locksOf T job).length = T.length
  | [] => rfl
  | t :: T => by
    have ih := drop_len job T
    rw [locksOf_cons, List.length_cons]
    unfold dropT at ih ⊢
    by_cases e : t.job = job
    · rw [if_pos e, List.filter_cons_of_neg (by simpa using e), List.length_cons]; omega
    · rw [if_neg e, List.filter_cons_of_pos (by simpa using e), List.length_cons]; omega
theorem dropU (job r : Int) : ∀ T : List Tk, usedT (dropT job T) r = usedT T r - heldT T job r
  | [] => rfl
  | t :: T => by
    have ih := dropU job r T
    rw [show heldT (t :: T) job r = (if t.job = job then (if t.res = r then t.n else 0) else 0) + heldT T job r by unfold heldT; rw [locksOf_cons]; split <;> simp [heldL_cons], usedT_cons]
    unfold dropT at ih ⊢
    by_cases e : t.job = job
    · rw [List.filter_cons_of_neg (by simpa using e), if_pos e, ih]; omega
    · rw [List.filter_cons_of_pos (by simpa using e), if_neg e, usedT_cons, ih]; omega
theorem Inv.drop_ (h : Inv U C T) (job : Int) : Inv U C (dropT job T) :=
  ⟨h.ul, h.cl, h.ub, fun t ht => h.tb t (List.mem_filter.1 ht).1, fun r => by
    have h1 := h.fb r
    have h2 := (h.held job r).1
    rw [dropU]; omega⟩
theorem drop_snoc (job : Int) (k : Nat) (x : Tk) (hx : T[k]? = some x) : dropT job (T.take (k + 1)) = if x.job = job then dropT job (T.take k) else dropT job (T.take k) ++ [x] := by
  unfold dropT
  rw [take_snoc k x hx, List.filter_append]
  by_cases e : x.job = job
  · rw [if_pos e, List.filter_cons_of_neg (by simpa using e)]; simp
  · rw [if_neg e, List.filter_cons_of_pos (by simpa using e)]; rfl
theorem drop_le (job : Int) (k : Nat) : (dropT job (T.take k)).length ≤ T.length := by
  have h1 := drop_len job (T.take k)
  have h2 := List.length_take_le' k T
  omega
theorem up_cell {w w' : World} {a : Addr} {v : Value} (b : Below w.heap.size w w') (h : w.cell? a = some v) : w'.cell? a = some v := (b.cell (World.block_lt_of_cell? w _ h)).trans h
theorem locks_take (job : Int) (k : Nat) (x : Tk) (hx : T[k]? = some x) : locksOf (T.take (k + 1)) job = if x.job = job then locksOf (T.take k) job ++ [⟨x.res, x.n⟩] else locksOf (T.take k) job := by rw [take_snoc k x hx, locksOf_snoc]
end

section
variable (w : World) (ow : Ow) (p : List Nat) (g : Nat) (U C : List Int) (T : List Tk)

set_option maxHeartbeats 1000000 in
theorem rcell (h : RT w ow p g U C T) (res : Int) : Calls Try.prog 74 #[.pointer (some ⟨g, 0, none⟩), .int .i64 res] w fun e w' => e = .returned (.int .i64 (cellQ C res)) ∧ w' = w := by
  obtain ⟨hi, VU, VL, VC, h1, h2, h3, h4⟩ := h
  have c2 := h1.get 2 rfl
  simp only [Nat.zero_add] at c2
  have lg := h1.lt
  unfold cellQ unitsOf
  by_cases q0 : 0 ≤ res
  · rw [if_pos q0]
    by_cases q1 : res < C.length
    · obtain ⟨x, hx⟩ : ∃ x, C[res.toNat]? = some x := ⟨_, List.getElem?_eq_getElem (by omega)⟩
      obtain ⟨r, rfl⟩ : ∃ r : Nat, res = (r : Int) := ⟨res.toNat, by omega⟩
      obtain ⟨b, off, cap, rfl, lb, eu, -⟩ := row_at h4 rfl r x (by simpa using hx)
      rw [hx]
      show Calls _ _ _ _ fun e w' => e = .returned (.int .i64 x) ∧ _
      clear h1 h2 h3 h4 hi hx
      go_enter Try.func74, Try.ntmps74
      go_wp2
      go_ret
      exact ⟨rfl, rfl⟩
    · obtain ⟨A, c, rfl, -⟩ := h4.slice
      rw [List.getElem?_eq_none (by omega)]
      show Calls _ _ _ _ fun e w' => e = .returned (.int .i64 0) ∧ _
      clear h1 h2 h3 h4 hi
      go_enter Try.func74, Try.ntmps74
      go_wp2
      go_ret
      exact ⟨rfl, rfl⟩
  · rw [if_neg q0]
    clear h1 h2 h3 h4 hi
    go_enter Try.func74, Try.ntmps74
    go_wp2
    go_ret
    exact ⟨rfl, rfl⟩

set_option maxHeartbeats 1000000 in
theorem rload (h : RT w ow p g U C T) (job res : Int) : Calls Try.prog 66 #[.pointer (some ⟨g, 0, none⟩), .int .i64 job, .int .i64 res] w fun e w' => e = .returned (.tuple #[.int .i64 (if cellE U T job res = 0 then cellQ C res else 0), .int .i64 (cellE U T job res)]) ∧ w' = w := by
  have he := rcellE w ow p g U C T h job res
  by_cases h0 : cellE U T job res = 0
  · rw [if_pos h0, h0]
    rw [h0] at he
    have hk : known U res = true := by
      cases hk : known U res with
      | true => rfl
      | false => unfold cellE at h0; rw [if_pos (Or.inr hk)] at h0; omega
    obtain ⟨r, rfl, hr, -, -⟩ := known_yes hk
    obtain ⟨hi, VU, VL, VC, h1, h2, h3, h4⟩ := h
    have hCl := hi.cl
    obtain ⟨x, hx⟩ : ∃ x, C[r]? = some x := ⟨_, List.getElem?_eq_getElem (by omega)⟩
    obtain ⟨b, off, cap, rfl, lb, eu, -⟩ := row_at h4 rfl r x hx
    have c2 := h1.get 2 rfl
    simp only [Nat.zero_add] at c2
    have lg := h1.lt
    unfold cellQ
    rw [unitsOf_at hx]
    have i0 : (r : Int) < (C.length : Int) := by omega
    clear h1 h2 h3 h4 hi hx h0 hk
    go_enter Try.func66, Try.ntmps66
    go_wp2_with fail
    refine he.mono ?_
    rintro e w' ⟨rfl, rfl⟩
    go_wp2
    go_ret2
    exact ⟨rfl, rfl⟩
  · rw [if_neg h0]
    generalize cellE U T job res = y at *
    have b0 : (y == 0) = false := beq_eq_false_iff_ne.2 h0
    have b1 : (y != 0) = true := by simp [bne, b0]
    clear h
    go_enter Try.func66, Try.ntmps66
    go_wp2_with fail
    refine he.mono ?_
    rintro e w' ⟨rfl, rfl⟩
    go_wp2
    go_ret2
    exact ⟨rfl, rfl⟩

set_option maxHeartbeats 1000000 in
theorem rstore (h : RT w ow p g U C T) (job res v : Int) : Calls Try.prog 67 #[.pointer (some ⟨g, 0, none⟩), .int .i64 job, .int .i64 res, .int .i64 v] w fun e w' => ∃ ow', e = .returned (.int .i64 (cellE U T job res)) ∧ RT w' ow' p g U (storeC U C T job res v) T ∧ Turn p w ow w' ow' := by
  have he := rcellE w ow p g U C T h job res
  unfold storeC
  by_cases h0 : cellE U T job res = 0
  · rw [if_pos h0, h0]
    rw [h0] at he
    have hk : known U res = true := by
      cases hk : known U res with
      | true => rfl
      | false => unfold cellE at h0; rw [if_pos (Or.inr hk)] at h0; omega
    obtain ⟨r, rfl, hr, -, -⟩ := known_yes hk
    obtain ⟨hi, VU, VL, VC, h1, h2, h3, h4⟩ := h
    have hCl := hi.cl
    obtain ⟨x, hx⟩ : ∃ x, C[r]? = some x := ⟨_, List.getElem?_eq_getElem (by omega)⟩
    obtain ⟨b, off, cap, rfl, lb, eu, hfz⟩ := row_at h4 rfl r x hx
    have c2 := h1.get 2 rfl
    simp only [Nat.zero_add] at c2
    have lg := h1.lt
    have i0 : (r : Int) < (C.length : Int) := by omega
    have tk := h4.turn (off + r) (.int .i64 v)
    have h4' := h4.set r (.int .i64 v)
    rw [css_cells1 C 0 v r] at h4'
    have f0 := hfz (off + r)
    have h1' := h1.keep tk (by simp)
    have h2' := h2.keep tk (by simp)
    have h3' := h3.keep tk (by simp)
    have hi' := hi.cell (C' := C.set r v) (by simp)
    have t2 := tk.up (p := p) (by simp)
    have hn : (r : Int).toNat = r := rfl
    clear h1 h2 h3 h4 hi hx h0 hk hfz tk
    go_enter Try.func67, Try.ntmps67
    go_wp2_with fail
    refine he.mono ?_
    rintro e w' ⟨rfl, rfl⟩
    clear he
    go_wp2
    go_ret
    exact ⟨ow, rfl, ⟨hi', _, _, _, h1', h2', h3', by show Row _ _ _ _ _ _ (C.set r v).length _; rw [List.length_set]; exact h4'⟩, t2⟩
  · rw [if_neg h0]
    generalize cellE U T job res = y at *
    have b0 : (y == 0) = false := beq_eq_false_iff_ne.2 h0
    go_enter Try.func67, Try.ntmps67
    go_wp2_with fail
    refine he.mono ?_
    rintro e w' ⟨rfl, rfl⟩
    go_wp2
    go_ret
    exact ⟨ow, rfl, h, Turn.refl _ _ _⟩

def lkR (w : World) (T : List Tk) (job : Int) (gn : Nat) (v i : Value) (wr : World) : Prop :=
  ∃ (k : Nat) (OW : Ow), gn = T.length - k ∧ k ≤ T.length ∧ i = .int .i64 (k : Int) ∧ Row wr OW [1] 51 2 v (locksOf (T.take k) job).length (ELk.css (locksOf (T.take k) job)) ∧ Turn [1] w ow0 wr OW

set_option maxRecDepth 100000 in
set_option maxHeartbeats 2000000 in
theorem rlocks (q : List Nat) (h : RT w ow p g U C T) (job : Int) : Calls Try.prog 73 #[.pointer (some ⟨g, 0, none⟩), .int .i64 job] w fun e w' => ∃ v' ow', e = .returned v' ∧ Row w' ow' q 51 2 v' (locksOf T job).length (ELk.css (locksOf T job)) ∧ New w ow w' ow' := by
  have hl := h.1.len
  obtain ⟨A, c, c1, lg, hat⟩ := h.at_
  have C1 := Lib.hid c1
  have Hat := Lib.hid hat
  clear h hat
  go_enter Try.func73, Try.ntmps73
  go_wp2_with fail
  go_loopg [5, 6] T.length (fun gn v i wr => lkR w T job gn v i wr)
  case atStart => exact ⟨0, ow0, rfl, Nat.zero_le _, rfl, Row.nil _ _ _ _ _, Turn.refl _ _ _⟩
  case round =>
    clear c1
    obtain ⟨k, OW, hgk, hk, rfl, hr, t⟩ := hrel
    have Hgk := Lib.hid hgk
    clear hgk
    have bw := (t.new_ ow [1]).below
    have c1 := up_cell bw C1.out
    have lg1 : g < wr.heap.size := Nat.lt_of_lt_of_le lg bw.size
    by_cases hlt : k < T.length
    · obtain ⟨x, hx⟩ : ∃ x, T[k]? = some x := ⟨_, List.getElem?_eq_getElem hlt⟩
      obtain ⟨b, off, rfl, lb, E0, E1, E2⟩ := Hat.out k x hx
      have lb1 : b < wr.heap.size := Nat.lt_of_lt_of_le lb bw.size
      have e0 := up_cell bw E0
      have e1 := up_cell bw E1
      have e2 := up_cell bw E2
      have E1 := Lib.hid E1
      have E2 := Lib.hid E2
      have hst := locks_take job k x hx
      have Hst := Lib.hid hst
      have i0 : (k : Int) < (T.length : Int) := by omega
      clear hx hst E0
      by_cases q1 : x.job = job
      · have b1 : (x.job == job) = true := beq_iff_eq.2 q1
        have Hq := Lib.hid q1
        have hll := locks_len (T.take k) job
        have hlk := List.length_take_le k T
        clear q1
        obtain ⟨Av, cv, rfl, hcv⟩ := hr.slice
        go_upto_region 6 with fail
        refine plain_regionN (fun W' : World => W'.cell? ⟨g, 1, none⟩ = some (.slice (some ⟨b, off, none⟩) T.length c) ∧ W'.cell? ⟨b, off + k * 3 + 1, none⟩ = some (.int .i64 x.res) ∧ W'.cell? ⟨b, off + k * 3 + 2, none⟩ = some (.int .i64 x.n)) [20] (by kernel_rfl) ?_
        have hS : (fun W' : World => W'.cell? ⟨g, 1, none⟩ = some (.slice (some ⟨b, off, none⟩) T.length c) ∧ W'.cell? ⟨b, off + k * 3 + 1, none⟩ = some (.int .i64 x.res) ∧ W'.cell? ⟨b, off + k * 3 + 2, none⟩ = some (.int .i64 x.n)) wr.drew := ⟨c1, e1, e2⟩
        refine anyX_takeNL 0 (v := ?_) rfl rfl (by as_aux_lemma => kernel_rfl) (by as_aux_lemma => kernel_rfl) (by as_aux_lemma => kernel_rfl) (by as_aux_lemma => kernel_rfl) (by as_aux_lemma => kernel_rfl) (fun _ _ _ h => h) rfl ?_ hS ?_
        rotate_left
        · intro W' hW'
          obtain ⟨s0, s1, s2⟩ := hW'
          all_goals (go_simp; first | done | rfl)
        intro l' hl
        dsimp only [List.set_cons_succ, List.set_cons_zero] at hl
        subst hl
        refine anyX_takeNL 1 (v := ?_) rfl rfl (by as_aux_lemma => kernel_rfl) (by as_aux_lemma => kernel_rfl) (by as_aux_lemma => kernel_rfl) (by as_aux_lemma => kernel_rfl) (by as_aux_lemma => kernel_rfl) (fun _ _ _ h => h) rfl ?_ hS ?_
        rotate_left
        · intro W' hW'
          obtain ⟨s0, s1, s2⟩ := hW'
          all_goals (go_simp; first | done | rfl)
        intro l' hl
        dsimp only [List.set_cons_succ, List.set_cons_zero] at hl
        subst hl
        refine anyX_takeNL 2 (v := ?_) rfl rfl (by as_aux_lemma => kernel_rfl) (by as_aux_lemma => kernel_rfl) (by as_aux_lemma => kernel_rfl) (by as_aux_lemma => kernel_rfl) (by as_aux_lemma => kernel_rfl) (fun _ _ _ h => h) rfl ?_ hS ?_
        rotate_left
        · intro W' hW'
          obtain ⟨s0, s1, s2⟩ := hW'
          all_goals (go_simp; first | done | rfl)
        intro l' hl
        dsimp only [List.set_cons_succ, List.set_cons_zero] at hl
        subst hl
        refine anyX_takeNL 3 (v := ?_) rfl rfl (by as_aux_lemma => kernel_rfl) (by as_aux_lemma => kernel_rfl) (by as_aux_lemma => kernel_rfl) (by as_aux_lemma => kernel_rfl) (by as_aux_lemma => kernel_rfl) (fun _ _ _ h => h) rfl ?_ hS ?_
        rotate_left
        · intro W' hW'
          obtain ⟨s0, s1, s2⟩ := hW'
          all_goals (go_simp; first | done | rfl)
        intro l' hl
        dsimp only [List.set_cons_succ, List.set_cons_zero] at hl
        subst hl
        refine anyX_takeNL 4 (v := ?_) rfl rfl (by as_aux_lemma => kernel_rfl) (by as_aux_lemma => kernel_rfl) (by as_aux_lemma => kernel_rfl) (by as_aux_lemma => kernel_rfl) (by as_aux_lemma => kernel_rfl) (fun _ _ _ h => h) rfl ?_ hS ?_
        rotate_left
        · intro W' hW'
          obtain ⟨s0, s1, s2⟩ := hW'
          all_goals (go_simp; first | done | rfl)
        intro l' hl
        dsimp only [List.set_cons_succ, List.set_cons_zero] at hl
        subst hl
        refine anyX_takeNL 5 (v := ?_) rfl rfl (by as_aux_lemma => kernel_rfl) (by as_aux_lemma => kernel_rfl) (by as_aux_lemma => kernel_rfl) (by as_aux_lemma => kernel_rfl) (by as_aux_lemma => kernel_rfl) (fun _ _ _ h => h) rfl ?_ hS ?_
        rotate_left
        · intro W' hW'
          obtain ⟨s0, s1, s2⟩ := hW'
          all_goals (go_simp; first | done | rfl)
        intro l' hl
        dsimp only [List.set_cons_succ, List.set_cons_zero] at hl
        subst hl
        refine anyX_takeNL 6 (v := ?_) rfl rfl (by as_aux_lemma => kernel_rfl) (by as_aux_lemma => kernel_rfl) (by as_aux_lemma => kernel_rfl) (by as_aux_lemma => kernel_rfl) (by as_aux_lemma => kernel_rfl) (fun _ _ _ h => h) rfl ?_ hS ?_
        rotate_left
        · intro W' hW'
          obtain ⟨s0, s1, s2⟩ := hW'
          all_goals (go_simp; first | done | rfl)
        intro l' hl
        dsimp only [List.set_cons_succ, List.set_cons_zero] at hl
        subst hl
        refine anyX_takeNL 7 (v := ?_) rfl rfl (by as_aux_lemma => kernel_rfl) (by as_aux_lemma => kernel_rfl) (by as_aux_lemma => kernel_rfl) (by as_aux_lemma => kernel_rfl) (by as_aux_lemma => kernel_rfl) (fun _ _ _ h => h) rfl ?_ hS ?_
        rotate_left
        · intro W' hW'
          obtain ⟨s0, s1, s2⟩ := hW'
          all_goals (go_simp; first | done | rfl)
        intro l' hl
        dsimp only [List.set_cons_succ, List.set_cons_zero] at hl
        subst hl
        refine anyX_takeNL 8 (v := ?_) rfl rfl (by as_aux_lemma => kernel_rfl) (by as_aux_lemma => kernel_rfl) (by as_aux_lemma => kernel_rfl) (by as_aux_lemma => kernel_rfl) (by as_aux_lemma => kernel_rfl) (fun _ _ _ h => h) rfl ?_ hS ?_
        rotate_left
        · intro W' hW'
          obtain ⟨s0, s1, s2⟩ := hW'
          all_goals (go_simp; first | done | rfl)
        intro l' hl
        dsimp only [List.set_cons_succ, List.set_cons_zero] at hl
        subst hl
        refine anyX_takeNL 9 (v := ?_) rfl rfl (by as_aux_lemma => kernel_rfl) (by as_aux_lemma => kernel_rfl) (by as_aux_lemma => kernel_rfl) (by as_aux_lemma => kernel_rfl) (by as_aux_lemma => kernel_rfl) (fun _ _ _ h => h) rfl ?_ hS ?_
        rotate_left
        · intro W' hW'
          obtain ⟨s0, s1, s2⟩ := hW'
          all_goals (go_simp; first | done | rfl)
        intro l' hl
        dsimp only [List.set_cons_succ, List.set_cons_zero] at hl
        subst hl
        refine anyX_takeNL 10 (v := ?_) rfl rfl (by as_aux_lemma => kernel_rfl) (by as_aux_lemma => kernel_rfl) (by as_aux_lemma => kernel_rfl) (by as_aux_lemma => kernel_rfl) (by as_aux_lemma => kernel_rfl) (fun _ _ _ h => h) rfl ?_ hS ?_
        rotate_left
        · intro W' hW'
          obtain ⟨s0, s1, s2⟩ := hW'
          all_goals (go_simp; first | done | rfl)
        intro l' hl
        dsimp only [List.set_cons_succ, List.set_cons_zero] at hl
        subst hl
        refine anyX_takeNL 11 (v := ?_) rfl rfl (by as_aux_lemma => kernel_rfl) (by as_aux_lemma => kernel_rfl) (by as_aux_lemma => kernel_rfl) (by as_aux_lemma => kernel_rfl) (by as_aux_lemma => kernel_rfl) (fun _ _ _ h => h) rfl ?_ hS ?_
        rotate_left
        · intro W' hW'
          obtain ⟨s0, s1, s2⟩ := hW'
          all_goals (go_simp; first | done | rfl)
        intro l' hl
        dsimp only [List.set_cons_succ, List.set_cons_zero] at hl
        subst hl
        refine anyX_takeNL 12 (v := ?_) rfl rfl (by as_aux_lemma => kernel_rfl) (by as_aux_lemma => kernel_rfl) (by as_aux_lemma => kernel_rfl) (by as_aux_lemma => kernel_rfl) (by as_aux_lemma => kernel_rfl) (fun _ _ _ h => h) rfl ?_ hS ?_
        rotate_left
        · intro W' hW'
          obtain ⟨s0, s1, s2⟩ := hW'
          all_goals (go_simp; first | done | rfl)
        intro l' hl
        dsimp only [List.set_cons_succ, List.set_cons_zero] at hl
        subst hl
        refine anyX_takeNL 13 (v := ?_) rfl rfl (by as_aux_lemma => kernel_rfl) (by as_aux_lemma => kernel_rfl) (by as_aux_lemma => kernel_rfl) (by as_aux_lemma => kernel_rfl) (by as_aux_lemma => kernel_rfl) (fun _ _ _ h => h) rfl ?_ hS ?_
        rotate_left
        · intro W' hW'
          obtain ⟨s0, s1, s2⟩ := hW'
          all_goals (go_simp; first | done | rfl)
        intro l' hl
        dsimp only [List.set_cons_succ, List.set_cons_zero] at hl
        subst hl
        refine anyX_takeNL 14 (v := ?_) rfl rfl (by as_aux_lemma => kernel_rfl) (by as_aux_lemma => kernel_rfl) (by as_aux_lemma => kernel_rfl) (by as_aux_lemma => kernel_rfl) (by as_aux_lemma => kernel_rfl) (fun _ _ _ h => h) rfl ?_ hS ?_
        rotate_left
        · intro W' hW'
          obtain ⟨s0, s1, s2⟩ := hW'
          all_goals (go_simp; first | done | rfl)
        intro l' hl
        dsimp only [List.set_cons_succ, List.set_cons_zero] at hl
        subst hl
        refine anyX_takeNL 15 (v := ?_) rfl rfl (by as_aux_lemma => kernel_rfl) (by as_aux_lemma => kernel_rfl) (by as_aux_lemma => kernel_rfl) (by as_aux_lemma => kernel_rfl) (by as_aux_lemma => kernel_rfl) (fun _ _ _ h => h) rfl ?_ hS ?_
        rotate_left
        · intro W' hW'
          obtain ⟨s0, s1, s2⟩ := hW'
          all_goals (go_simp; first | done | rfl)
        intro l' hl
        dsimp only [List.set_cons_succ, List.set_cons_zero] at hl
        subst hl
        refine anyX_takeNL 16 (v := ?_) rfl rfl (by as_aux_lemma => kernel_rfl) (by as_aux_lemma => kernel_rfl) (by as_aux_lemma => kernel_rfl) (by as_aux_lemma => kernel_rfl) (by as_aux_lemma => kernel_rfl) (fun _ _ _ h => h) rfl ?_ hS ?_
        rotate_left
        · intro W' hW'
          obtain ⟨s0, s1, s2⟩ := hW'
          all_goals (go_simp; first | done | rfl)
        intro l' hl
        dsimp only [List.set_cons_succ, List.set_cons_zero] at hl
        subst hl
        refine anyX_takeNL 17 (v := ?_) rfl rfl (by as_aux_lemma => kernel_rfl) (by as_aux_lemma => kernel_rfl) (by as_aux_lemma => kernel_rfl) (by as_aux_lemma => kernel_rfl) (by as_aux_lemma => kernel_rfl) (fun _ _ _ h => h) rfl ?_ hS ?_
        rotate_left
        · intro W' hW'
          obtain ⟨s0, s1, s2⟩ := hW'
          all_goals (go_simp; first | done | rfl)
        intro l' hl
        dsimp only [List.set_cons_succ, List.set_cons_zero] at hl
        subst hl
        refine anyX_one (i := 18) (by kernel_rfl) rfl rfl fun K' hK' => ?_
        unfold Oper.wp
        go_simp
        refine hK' _ _ (fun _ => ⟨cell_alloc hS.1 _, cell_alloc hS.2.1 _, cell_alloc hS.2.2 _⟩) ?_
        clear hK' K'
        refine anyX_one (i := 19) (by kernel_rfl) rfl rfl fun K' hK' => ?_
        refine wp_append_row (m := 1) (.tmp 26) (.tmp 44) 48 48 rfl 51 _ 2 16 Try.underlying48 ELk.info rfl rfl (hr.drew.alloc_ (Obj.cells #[Value.int .i64 x.res, Value.int .i64 x.n] 51)) rfl ((Reads.new wr.drew (ELk.cs ⟨x.res, x.n⟩) 51 1 1 (Nat.le_refl _)).src Try.underlying48 rfl (ELk.cs_one ⟨x.res, x.n⟩)) (by unfold maxLen; omega) (by omega) ?_
        intro v3 w3 ow3 hr3 t3
        have t3 := (t.drew.alloc_ (Obj.cells #[Value.int .i64 x.res, Value.int .i64 x.n] 51)).trans t3
        obtain ⟨A3, c3, rfl, hnc3⟩ := hr3.slice
        have b3 := (t3.new_ ow [1]).below
        have hS3 : (fun W' : World => W'.cell? ⟨g, 1, none⟩ = some (.slice (some ⟨b, off, none⟩) T.length c) ∧ W'.cell? ⟨b, off + k * 3 + 1, none⟩ = some (.int .i64 x.res) ∧ W'.cell? ⟨b, off + k * 3 + 2, none⟩ = some (.int .i64 x.n)) w3 := ⟨up_cell b3 C1.out, up_cell b3 E1.out, up_cell b3 E2.out⟩
        clear hS
        change K' (Act.put _ (some 45) _) _
        refine hK' _ _ (fun _ => hS3) ?_
        clear hK' K'
        simp only [Act.put, List.setIfInBounds_toArray, List.set_cons_succ, List.set_cons_zero]
        refine anyX_one (i := 20) (by kernel_rfl) rfl rfl fun K' hK' => ?_
        unfold Oper.wp
        go_simp
        refine hK' _ _ (fun hf => by cases hf) (anyX_done (by kernel_rfl) ?_ _)
        refine NoPanic.normal ?_
        clear hK' K'
        clear hS3 b3 c1 lg1 e0 e1 e2 lb1 hcv hnc3 hll hlk bw
        go_wp2
        go_roundg (T.length - (k + 1))
        case measure => have := Hgk.out; omega
        case rel => exact ⟨k + 1, ow3, rfl, by omega, by go_num, by rw [Hst.out, if_pos Hq.out, List.length_append, ELk.css_snoc]; exact hr3, t3⟩
      · have b1 : (x.job == job) = false := beq_eq_false_iff_ne.2 q1
        have Hq := Lib.hid q1
        clear q1
        go_wp2
        go_roundg (T.length - (k + 1))
        case measure => have := Hgk.out; omega
        case rel => exact ⟨k + 1, OW, rfl, by omega, by go_num, by rw [Hst.out, if_neg Hq.out]; exact hr, t⟩
    · obtain rfl : k = T.length := by omega
      rw [List.take_length] at hr
      clear hlt Hgk
      go_wp2
      go_ret
      exact ⟨_, ow.ren w.heap.size OW q, rfl, by simpa using hr.ren t ow q, t.new_ ow q⟩

def drR (w : World) (T : List Tk) (job : Int) (gn : Nat) (v i : Value) (wr : World) : Prop :=
  ∃ (k : Nat) (OW : Ow), gn = T.length - k ∧ k ≤ T.length ∧ i = .int .i64 (k : Int) ∧ Row wr OW [1] 132 3 v (dropT job (T.take k)).length (ETk.css (dropT job (T.take k))) ∧ Turn [1] w ow0 wr OW

set_option maxRecDepth 100000 in
set_option maxHeartbeats 2000000 in
theorem rdrop (h : RT w ow p g U C T) (job : Int) : Calls Try.prog 65 #[.pointer (some ⟨g, 0, none⟩), .int .i64 job] w fun e w' => ∃ ow', e = .returned (.int .i64 ((locksOf T job).length : Int)) ∧ RT w' ow' p g U C (dropT job T) ∧ Turn p w ow w' ow' := by
  have hl := h.1.len
  have H := Lib.hid h
  obtain ⟨A0, c0, c1, lg, -⟩ := h.at_
  clear h
  go_enter Try.func65, Try.ntmps65
  go_wp2_with fail
  go_loopg [5, 6] T.length (fun gn v i wr => drR w T job gn v i wr)
  case atStart => exact ⟨0, ow0, rfl, Nat.zero_le _, rfl, Row.nil _ _ _ _ _, Turn.refl _ _ _⟩
  case round =>
    clear c1 lg A0 c0
    obtain ⟨k, OW, hgk, hk, rfl, hr, t⟩ := hrel
    have Hgk := Lib.hid hgk
    clear hgk
    have hR := H.out.new_ (t.new_ ow [1])
    by_cases hlt : k < T.length
    · obtain ⟨A, c, c1, lg, hat⟩ := hR.at_
      obtain ⟨x, hx⟩ : ∃ x, T[k]? = some x := ⟨_, List.getElem?_eq_getElem hlt⟩
      obtain ⟨b, off, rfl, lb, e0, e1, e2⟩ := hat k x hx
      have hst := drop_snoc job k x hx
      have Hst := Lib.hid hst
      have i0 : (k : Int) < (T.length : Int) := by omega
      clear hx hst hat
      by_cases q1 : x.job = job
      · have b1 : (x.job == job) = true := beq_iff_eq.2 q1
        have b2 : (x.job != job) = false := by simp [bne, b1]
        have Hq := Lib.hid q1
        clear q1
        go_wp2
        go_roundg (T.length - (k + 1))
        case measure => have := Hgk.out; omega
        case rel => exact ⟨k + 1, OW, rfl, by omega, by go_num, by rw [Hst.out, if_pos Hq.out]; exact hr, t⟩
      · have b1 : (x.job == job) = false := beq_eq_false_iff_ne.2 q1
        have b2 : (x.job != job) = true := by simp [bne, b1]
        have Hq := Lib.hid q1
        have hll := drop_le (T := T) job k
        clear q1
        obtain ⟨Av, cv, rfl, hcv⟩ := hr.slice
        go_wp2_with (at_builtin; refine wpList_append_row (m := 1) rfl (.tmp 27) (.tmp 35) 114 114 rfl 132 _ 3 24 Try.underlying114 ETk.info rfl rfl (hr.alloc_ (Obj.cells #[Value.int .i64 x.job, Value.int .i64 x.res, Value.int .i64 x.n] 132)) rfl ((Reads.new _ (ETk.cs x) _ 1 1 (Nat.le_refl _)).src Try.underlying114 rfl (ETk.cs_one x)) (by unfold maxLen; omega) (by omega) ?_)
        intro v3 w3 ow3 hr3 t3
        have t3 := (t.alloc_ (Obj.cells #[Value.int .i64 x.job, Value.int .i64 x.res, Value.int .i64 x.n] 132)).trans t3
        clear c1 lg e0 e1 e2 lb hcv hll hR
        go_wp2
        go_roundg (T.length - (k + 1))
        case measure => have := Hgk.out; omega
        case rel => exact ⟨k + 1, ow3, rfl, by omega, by go_num, by rw [Hst.out, if_neg Hq.out, List.length_append, ETk.css_snoc]; exact hr3, t3⟩
    · obtain rfl : k = T.length := by omega
      rw [List.take_length] at hr
      clear hlt Hgk hR
      have hdl := drop_len job T
      have hw2 : IntKind.i64.wrap ((T.length : Int) - ((dropT job T).length : Int)) = ((locksOf T job).length : Int) := by rw [IntKind.wrap_i64]; omega
      have hw3 : (T.length : Int) - ((dropT job T).length : Int) = ((locksOf T job).length : Int) := by omega
      have hr2 := hr.ren t ow (p ++ [2])
      rw [List.append_nil] at hr2
      have n2 := t.new_ ow (p ++ [2])
      generalize ow.ren w.heap.size OW (p ++ [2]) = ow2 at *
      obtain ⟨hi, VU, VL, VC, h1, h2, h3, h4⟩ := H.out.new_ n2
      obtain ⟨A3, c3, rfl, -⟩ := h3.slice
      obtain ⟨Av, cv, rfl, -⟩ := hr.slice
      have c1 := h1.get 1 rfl
      simp only [Nat.zero_add] at c1
      have f0 := h1.free 1
      have lg := h1.lt
      have tk := h1.turn 1 (.slice Av (dropT job T).length cv) (by simp)
      have h1' := h1.set 1 (.slice Av (dropT job T).length cv) (by simp)
      have h2' := h2.keep tk (by simp)
      have h3' := hr2.keep tk (by simp)
      have h4' := h4.keep tk (by simp)
      have hi' := Inv.drop_ hi job
      have fin := (n2.turn p).trans (tk.up (by simp))
      simp only [Nat.zero_add] at h1' h2' h3' h4' fin
      have Hd := Lib.hid hdl
      clear h1 h2 h3 h4 hr hr2 t n2 hi tk hdl
      go_wp2
      go_ret
      exact ⟨ow2, rfl, ⟨hi', _, _, _, h1', h2', h3', h4'⟩, fin⟩
end
end RT5
end Go.Proofs.Ytefagdbdimpcdaa
