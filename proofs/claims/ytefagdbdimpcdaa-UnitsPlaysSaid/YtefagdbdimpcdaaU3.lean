/-
  UNITS.TABLE: Locks, Cells, Store.
-/
import Derived.Test.YtefagdbdimpcdaaU3p
set_option linter.unusedVariables false
set_option linter.unusedSimpArgs false
namespace Go.Proofs.Ytefagdbdimpcdaa
open Go Go.RowKit

/-- make([]T, l, c), as one operation. -/
theorem wp_make_row {P : Program} {w : World} (q : List Nat) (ow : Ow) {o : Oper} {a : Act} {K : Act → World → Prop} {Q : Exit → Act → World → Prop} (lo co : Operand) (t : TypeId)
    (ho : o.op = .makeSlice t lo co) (T : TypeId) (z : Value) (sz bytes : Nat) (ht : P.underlying t = some (.slice T))
    (hinfo : (P.info? T).map (fun i => (i.zero, i.size, i.bytes)) = some (some z, sz, bytes)) (hz : z.cells.size = sz)
    (kl kc : IntKind) (L C : Int) (l c : Nat) (hl : a.eval lo = .int kl L) (hL : L = (l : Int)) (hc : a.eval co = .int kc C) (hC : C = (c : Int)) (hlc : l ≤ c) (hb : bytes * c ≤ 281474976710656) (h63 : c ≤ maxLen)
    (h : ∀ v w' ow', Row w' ow' q T sz v l (madeCells z.cells (l * sz)).toList → New w ow w' ow' → K (a.put o.dst v) w') : o.wp P a w K Q := by
  obtain ⟨v', w', ow', hrun, h2, h3⟩ := run_make_row (w := w) (ow := ow) q ht hinfo hz kl kc l c hlc hb h63
  subst hL
  subst hC
  unfold Oper.wp execOp
  simp only [ho, hl, hc, hrun, Sem.run_bind, Sem.run_pure, Result.andThen_ok]
  exact h v' w' ow' h2 h3
namespace UN
section
variable (w : World) (ow : Ow) (p : List Nat) (g : Nat) (U C : List Int) (T : List Tk)

set_option maxRecDepth 100000 in
set_option maxHeartbeats 1000000 in
theorem locks (q : List Nat) (h : UT w ow p g U C T) (job : Int) : Calls Try.prog 27 #[.pointer (some ⟨g, 0, none⟩), .int .i64 job] w fun e w' => ∃ v' ow', e = .returned v' ∧ Row w' ow' q 51 2 v' (locksOf T job).length (ELk.css (locksOf T job)) ∧ New w ow w' ow' ∧ Fresh w.heap.size v' := by
  obtain ⟨rows, h⟩ := h
  by_cases hn : locksOf T job = []
  · have hcall := get_no w ow p g U C T rows h job hn
    rw [hn]
    clear h hn
    go_enter Try.func27, Try.ntmps27
    go_wp2_with fail
    refine hcall.mono ?_
    rintro e w1 ⟨rfl, hb⟩
    go_wp2
    go_ret
    exact ⟨_, ow, rfl, Row.nil _ _ _ _ _, hb.nw ow, fun k hk => by simp [Value.ownBlock] at hk⟩
  · obtain ⟨G, hG, hcall⟩ := get_yes w ow p g U C T rows h job hn
    have hlen : (locksOf T job).length ≤ 1099511627776 := by have := locks_len T job; have := h.1.len; omega
    have hSt := (h.2.2.2.2.2.2 _ hG).1
    simp only at hSt
    generalize locksOf T job = ls at *
    clear h hG
    go_enter Try.func27, Try.ntmps27
    go_wp2_with fail
    refine hcall.mono ?_
    rintro e w1 ⟨rfl, hb⟩
    clear hcall
    go_wp2_with fail
    refine (ELk.s_list w1 ow (p ++ [5, G]) q G 0 ls (hSt.new_ (hb.nw ow)) hlen).mono ?_
    rintro e w2 ⟨v2, ow2, rfl, hr, nn, hf⟩
    go_wp2
    go_ret
    exact ⟨_, ow2, rfl, hr, (hb.nw ow).trans nn, hf.mono hb.size⟩

set_option maxRecDepth 100000 in
set_option maxHeartbeats 1000000 in
theorem cells (q : List Nat) (h : UT w ow p g U C T) : Calls Try.prog 24 #[.pointer (some ⟨g, 0, none⟩)] w fun e w' => ∃ v' ow', e = .returned v' ∧ Row w' ow' q 3 1 v' C.length (EInt.css C) ∧ New w ow w' ow' ∧ Fresh w.heap.size v' := by
  obtain ⟨rows, hi, ⟨vu, vf, vc, hc, -, -, h4⟩, -⟩ := h
  have hCl := hi.cl
  have hul := hi.ul
  rw [← hCl] at h4
  have hlen : C.length ≤ 16 := by omega
  obtain ⟨A, c, rfl, hnc⟩ := h4.slice
  have c2 := hc.get 2 rfl
  simp only [Nat.zero_add] at c2
  have lg := hc.lt
  have hrd := h4.reads
  clear h4 hc hi hCl hul
  go_enter Try.func24, Try.ntmps24
  go_wp2_with fail
  refine plain_regionN (fun W' : World => W'.cell? ⟨g, 2, none⟩ = some (.slice A C.length c)) [] (by kernel_rfl) ?_
  have hS : (fun W' : World => W'.cell? ⟨g, 2, none⟩ = some (.slice A C.length c)) w.drew := c2
  refine anyX_takeNL 0 (v := ?_) rfl rfl (by as_aux_lemma => kernel_rfl) (by as_aux_lemma => kernel_rfl) (by as_aux_lemma => kernel_rfl) (by as_aux_lemma => kernel_rfl) (by as_aux_lemma => kernel_rfl) (fun _ _ _ h => h) rfl ?_ hS ?_
  rotate_left
  · intro W' hW'
    obtain s0 := hW'
    all_goals (go_simp; first | done | rfl)
  intro l' hl
  dsimp only [List.set_cons_succ, List.set_cons_zero] at hl
  subst hl
  refine anyX_takeNL 1 (v := ?_) rfl rfl (by as_aux_lemma => kernel_rfl) (by as_aux_lemma => kernel_rfl) (by as_aux_lemma => kernel_rfl) (by as_aux_lemma => kernel_rfl) (by as_aux_lemma => kernel_rfl) (fun _ _ _ h => h) rfl ?_ hS ?_
  rotate_left
  · intro W' hW'
    obtain s0 := hW'
    all_goals (go_simp; first | done | rfl)
  intro l' hl
  dsimp only [List.set_cons_succ, List.set_cons_zero] at hl
  subst hl
  refine anyX_takeNL 2 (v := ?_) rfl rfl (by as_aux_lemma => kernel_rfl) (by as_aux_lemma => kernel_rfl) (by as_aux_lemma => kernel_rfl) (by as_aux_lemma => kernel_rfl) (by as_aux_lemma => kernel_rfl) (fun _ _ _ h => h) rfl ?_ hS ?_
  rotate_left
  · intro W' hW'
    obtain s0 := hW'
    all_goals (go_simp; first | done | rfl)
  intro l' hl
  dsimp only [List.set_cons_succ, List.set_cons_zero] at hl
  subst hl
  refine anyX_takeNL 3 (v := ?_) rfl rfl (by as_aux_lemma => kernel_rfl) (by as_aux_lemma => kernel_rfl) (by as_aux_lemma => kernel_rfl) (by as_aux_lemma => kernel_rfl) (by as_aux_lemma => kernel_rfl) (fun _ _ _ h => h) rfl ?_ hS ?_
  rotate_left
  · intro W' hW'
    obtain s0 := hW'
    all_goals (go_simp; first | done | rfl)
  intro l' hl
  dsimp only [List.set_cons_succ, List.set_cons_zero] at hl
  subst hl
  refine anyX_takeNL 4 (v := ?_) rfl rfl (by as_aux_lemma => kernel_rfl) (by as_aux_lemma => kernel_rfl) (by as_aux_lemma => kernel_rfl) (by as_aux_lemma => kernel_rfl) (by as_aux_lemma => kernel_rfl) (fun _ _ _ h => h) rfl ?_ hS ?_
  rotate_left
  · intro W' hW'
    obtain s0 := hW'
    all_goals (go_simp; first | done | rfl)
  intro l' hl
  dsimp only [List.set_cons_succ, List.set_cons_zero] at hl
  subst hl
  refine anyX_takeNL 6 (v := ?_) rfl rfl (by as_aux_lemma => kernel_rfl) (by as_aux_lemma => kernel_rfl) (by as_aux_lemma => kernel_rfl) (by as_aux_lemma => kernel_rfl) (by as_aux_lemma => kernel_rfl) (fun _ _ _ h => h) rfl ?_ hS ?_
  rotate_left
  · intro W' hW'
    obtain s0 := hW'
    all_goals (go_simp; first | done | rfl)
  intro l' hl
  dsimp only [List.set_cons_succ, List.set_cons_zero] at hl
  subst hl
  refine anyX_takeNL 7 (v := ?_) rfl rfl (by as_aux_lemma => kernel_rfl) (by as_aux_lemma => kernel_rfl) (by as_aux_lemma => kernel_rfl) (by as_aux_lemma => kernel_rfl) (by as_aux_lemma => kernel_rfl) (fun _ _ _ h => h) rfl ?_ hS ?_
  rotate_left
  · intro W' hW'
    obtain s0 := hW'
    all_goals (go_simp; first | done | rfl)
  intro l' hl
  dsimp only [List.set_cons_succ, List.set_cons_zero] at hl
  subst hl
  refine anyX_takeNL 8 (v := ?_) rfl rfl (by as_aux_lemma => kernel_rfl) (by as_aux_lemma => kernel_rfl) (by as_aux_lemma => kernel_rfl) (by as_aux_lemma => kernel_rfl) (by as_aux_lemma => kernel_rfl) (fun _ _ _ h => h) rfl ?_ hS ?_
  rotate_left
  · intro W' hW'
    obtain s0 := hW'
    all_goals (go_simp; first | done | rfl)
  intro l' hl
  dsimp only [List.set_cons_succ, List.set_cons_zero] at hl
  subst hl
  refine anyX_takeNL 9 (v := ?_) rfl rfl (by as_aux_lemma => kernel_rfl) (by as_aux_lemma => kernel_rfl) (by as_aux_lemma => kernel_rfl) (by as_aux_lemma => kernel_rfl) (by as_aux_lemma => kernel_rfl) (fun _ _ _ h => h) rfl ?_ hS ?_
  rotate_left
  · intro W' hW'
    obtain s0 := hW'
    all_goals (go_simp; first | done | rfl)
  intro l' hl
  dsimp only [List.set_cons_succ, List.set_cons_zero] at hl
  subst hl
  refine anyX_one (i := 5) (by kernel_rfl) rfl rfl fun K' hK' => ?_
  refine wp_make_row [1] ow0 _ _ 38 rfl 3 _ 1 8 Try.underlying38 EInt.info rfl _ _ _ _ 0 C.length rfl rfl rfl rfl (by omega) (by omega) (by unfold maxLen; omega) ?_
  intro v1 w1 ow1 hr1 n1
  have hS1 : (fun W' : World => W'.cell? ⟨g, 2, none⟩ = some (.slice A C.length c)) w1 := (n1.below.cell (World.block_lt_of_cell? _ _ hS)).trans hS
  change K' (Act.put _ (some 8) _) _
  refine hK' _ _ (fun _ => hS1) ?_
  clear hK' K'
  simp only [Act.put, List.setIfInBounds_toArray, List.set_cons_succ, List.set_cons_zero]
  have n1' := (New.refl w ow0).drew.trans n1
  refine anyX_one (i := 10) (by kernel_rfl) rfl rfl fun K' hK' => ?_
  refine wp_append_row (.tmp 8) (.tmp 12) 38 38 rfl 3 _ 1 8 Try.underlying38 EInt.info rfl rfl hr1 rfl ((hrd.new_ n1'.below).src Try.underlying38 (EInt.css_length C) (EInt.css_one C)) (by unfold maxLen; omega) (by omega) ?_
  intro v2 w2 ow2 hr2 t2
  have t := (n1'.turn [1]).trans t2
  have hS2 : (fun W' : World => W'.cell? ⟨g, 2, none⟩ = some (.slice A C.length c)) w2 := ((t.new_ ow [1]).below.cell (World.block_lt_of_cell? w _ c2)).trans c2
  change K' (Act.put _ (some 13) _) _
  refine hK' _ _ (fun _ => hS2) ?_
  clear hK' K'
  simp only [Act.put, List.setIfInBounds_toArray, List.set_cons_succ, List.set_cons_zero]
  clear hS hS1
  have hS := hS2
  refine anyX_takeNL 11 (v := ?_) rfl rfl (by as_aux_lemma => kernel_rfl) (by as_aux_lemma => kernel_rfl) (by as_aux_lemma => kernel_rfl) (by as_aux_lemma => kernel_rfl) (by as_aux_lemma => kernel_rfl) (fun _ _ _ h => h) rfl ?_ hS ?_
  rotate_left
  · intro W' hW'
    obtain s0 := hW'
    all_goals (go_simp; first | done | rfl)
  intro l' hl
  dsimp only [List.set_cons_succ, List.set_cons_zero] at hl
  subst hl
  refine anyX_done (by kernel_rfl) ?_ _
  refine NoPanic.normal ?_
  go_wp2
  go_ret
  exact ⟨_, rfl, _, by have := hr2.ren t ow q; simpa [madeCells] using this, t.new_ ow q, hr2.fresh t⟩

/-- What Store leaves. -/
def storeC (U C : List Int) (T : List Tk) (job res v : Int) : List Int := if cellE U T job res = 0 then C.set res.toNat v else C
theorem storeC_length (job res v : Int) : (storeC U C T job res v).length = C.length := by unfold storeC; split <;> simp

set_option maxRecDepth 100000 in
set_option maxHeartbeats 1000000 in
theorem store (h : UT w ow p g U C T) (job res v : Int) : Calls Try.prog 18 #[.pointer (some ⟨g, 0, none⟩), .int .i64 job, .int .i64 res, .int .i64 v] w fun e w' => ∃ ow', e = .returned (.int .i64 (cellE U T job res)) ∧ UT w' ow' p g U (storeC U C T job res v) T ∧ Turn p w ow w' ow' := by
  have he := cellE_ w ow p g U C T h job res
  unfold storeC
  by_cases h0 : cellE U T job res = 0
  · rw [if_pos h0, h0]
    rw [h0] at he
    have hk : known U res = true := by
      cases hk : known U res with
      | true => rfl
      | false => unfold cellE at h0; rw [if_pos (Or.inr hk)] at h0; omega
    obtain ⟨r, rfl, hr, -, -⟩ := known_yes hk
    obtain ⟨rows, h⟩ := h
    clear h0 hk
    go_enter Try.func18, Try.ntmps18
    go_wp2_with fail
    refine he.mono ?_
    rintro e w1 ⟨rfl, hb⟩
    replace h := h.new_ (hb.nw ow)
    have t1 := (hb.nw ow).turn p
    clear he hb
    obtain ⟨hi, ⟨vu, vf, vc, hc, h2, h3, h4⟩, h5, h6, h7, h8, h9⟩ := h
    have hCl := hi.cl
    obtain ⟨x, hx⟩ : ∃ x, C[r]? = some x := ⟨_, List.getElem?_eq_getElem (by omega)⟩
    obtain ⟨b, off, cap, rfl, lb, eu, hfz⟩ := row_at h4 hCl r x hx
    have c0 := hc.get 2 rfl
    simp only [Nat.zero_add] at c0
    have i0 : (r : Int) < (U.length : Int) := by omega
    have tk := h4.turn (off + r) (.int .i64 v)
    have h4' := h4.set r (.int .i64 v)
    rw [css_cells1 C 0 v r] at h4'
    have f0 := hfz (off + r)
    have hc' := hc.keep tk (by simp)
    have h2' := h2.keep tk (by simp)
    have h3' := h3.keep tk (by simp)
    have h5' := h5.keep tk (by simp) (by simp)
    have h9' := fun r hr => (h9 r hr).keepK tk (by decide)
    have H9 := Lib.hid h9'
    have hi' := hi.cell (C' := C.set r v) (by simp)
    have t2 := t1.trans (tk.up (by simp))
    have hci := hc.get 2 rfl
    clear h2 h3 h4 h5 h9 h9' hfz hx tk hi
    go_wp2
    go_ret
    exact ⟨ow, rfl, ⟨rows, hi', ⟨_, _, _, hc', h2', h3', h4'⟩, h5', h6, h7, h8, H9.out⟩, t2⟩
  · rw [if_neg h0]
    generalize cellE U T job res = y at *
    have b0 : (y == 0) = false := beq_eq_false_iff_ne.2 h0
    go_enter Try.func18, Try.ntmps18
    go_wp2_with fail
    refine he.mono ?_
    rintro e w1 ⟨rfl, hb⟩
    go_wp2
    go_ret
    exact ⟨ow, rfl, h.new_ (hb.nw ow), (hb.nw ow).turn p⟩
end
end UN
end Go.Proofs.Ytefagdbdimpcdaa
