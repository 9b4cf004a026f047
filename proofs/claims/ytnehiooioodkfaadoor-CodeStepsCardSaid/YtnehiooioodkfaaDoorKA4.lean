/-
  CODE: an operation behind its first word: none, end.
-/
import Derived.Test.YtnehiooioodkfaaDoorKA
set_option linter.unusedVariables false
set_option linter.unusedSimpArgs false
namespace Go.Proofs.YtnehiooioodkfaaDoor
open Go Go.RowKit
namespace CD

set_option maxRecDepth 100000 in
set_option maxHeartbeats 4000000 in
theorem one_none (w : World) (ow : Ow) (g : Nat) (s : ByteArray) (k0 : Nat) (vs : Value) (opn : Nat) (ops : List Op4) (hs : s.size ≤ 1000000) (h0 : k0 ≤ s.size) (hR : RB w ow [1, 0] g s k0 vs opn) (hQ : Row w ow [1, 1] 32 4 vs ops.length (EOq.css ops)) (hV : VO w ow) (hn : ops.length ≤ 1000000) (ho : opn ≤ 1000000) (kind : Int) (h10 : ¬ kind = 10) (h11 : ¬ kind = 11) (hk0 : kindB kind = true) (hh : hasOf kind = 0) :
    Calls Tryd.prog 40 #[.pointer (some ⟨g, 0, none⟩), .int .i64 kind] w (OneP w ow g s k0 opn ops kind) := by
  have hks : fieldsOf kind = [] := by simp [fieldsOf, hh]
  have hrow := rowOf
  have Hrow := Lib.hid hrow
  clear hrow
  go_enter Tryd.func40, Tryd.ntmps40
  go_wp2_with fail
  obtain ⟨ow1, hO, nn, hsz⟩ := SH.add_cells w ow [1, 0, 2] [.int .i64 kind, .int .i64 0, .int .i64 0, .int .i64 0] 32
  have hc := Hrow.out (w.alloc (.cells #[.int .i64 kind, .int .i64 0, .int .i64 0, .int .i64 0] 32)) kind
  rw [hh] at hc
  refine hc.mono ?_
  rintro e w2 ⟨rfl, b2⟩
  replace nn := nn.trans (b2.nw ow1)
  replace hO := hO.new_ (b2.nw ow1)
  replace hR := Cells.new_ hR nn
  replace hQ := hQ.new_ nn
  have tt := nn.turn [1]
  replace hV := hV.turn tt (by simp)
  clear hc Hrow b2 nn hsz
  generalize w.heap.size = bo at *
  have hl0 := hO.lt
  generalize wordOf kind = wk at *
  go_wp2_with fail
  obtain ⟨ow3, hx3, n3, z3⟩ := SH.add_cells w2 ow1 [1, 4] [.string wk, .int .i64 0] 82
  generalize w2.alloc (.cells #[.string wk, .int .i64 0] 82) = w4 at *
  have n34 := n3
  replace hR := Cells.new_ hR n34
  replace hQ := hQ.new_ n34
  replace hO := hO.new_ n34
  replace tt := tt.trans (n34.turn [1])
  replace hV := hV.turn (n34.turn [1]) (by simp)
  clear hx3 n3 n34
  refine wp_loop_rounds 1 ?_
  rw [rounds_succ]
  have HR := Lib.hid hR
  have HQ := Lib.hid hQ
  have HO := Lib.hid hO
  have HT := Lib.hid tt
  have HV := Lib.hid hV
  clear hR hQ hO tt hV
  have hone : oneG s kind opn k0 = .ok (⟨kind, 0, 0, 0⟩, opn, k0) := by unfold oneG; rw [hks]; simp [fieldsG, h10, h11]
  have HON := Lib.hid hone
  clear hone
  as_aux_lemma =>
  go_wp2_with fail
  have hR := HR.out
  have hQ := HQ.out
  have hO := HO.out
  have tt := HT.out
  have hV := HV.out
  clear HR HQ HO HT HV
  obtain ⟨A, cap, rfl, hcap⟩ := hQ.slice
  have c2 := Cells.get hR 2 rfl
  have f2 := Cells.free hR 2
  have lg := Cells.lt hR
  have d0 := hO.get 0 rfl
  have d1 := hO.get 1 rfl
  have d2 := hO.get 2 rfl
  have d3 := hO.get 3 rfl
  simp only [EOq.cs, Nat.zero_add] at c2 d0 d1 d2 d3
  refine plain_regionN (fun W' : World => W'.cell? ⟨g, 2, none⟩ = some (.slice A ops.length cap) ∧ W'.cell? ⟨bo, 0, none⟩ = some (.int .i64 kind) ∧ W'.cell? ⟨bo, 1, none⟩ = some (.int .i64 0) ∧ W'.cell? ⟨bo, 2, none⟩ = some (.int .i64 0) ∧ W'.cell? ⟨bo, 3, none⟩ = some (.int .i64 0)) [10] (by kernel_rfl) ?_
  have hS : (fun W' : World => W'.cell? ⟨g, 2, none⟩ = some (.slice A ops.length cap) ∧ W'.cell? ⟨bo, 0, none⟩ = some (.int .i64 kind) ∧ W'.cell? ⟨bo, 1, none⟩ = some (.int .i64 0) ∧ W'.cell? ⟨bo, 2, none⟩ = some (.int .i64 0) ∧ W'.cell? ⟨bo, 3, none⟩ = some (.int .i64 0)) w4.drew := ⟨c2, d0, d1, d2, d3⟩
  replace hV := hV.turn ((Turn.refl [1] w4 ow3).drew) (by simp)
  replace tt := tt.drew
  replace hQ := hQ.drew
  replace hO := hO.drew
  replace hR := Cells.drew hR
  generalize w4.drew = WD at *
  refine anyX_takeNL 0 (v := ?_) rfl rfl (by as_aux_lemma => kernel_rfl) (by as_aux_lemma => kernel_rfl) (by as_aux_lemma => kernel_rfl) (by as_aux_lemma => kernel_rfl) (by as_aux_lemma => kernel_rfl) (fun _ _ _ h => h) rfl ?_ hS ?_
  rotate_left
  · intro W' hW'
    obtain ⟨s2, s3, s4, s5, s6⟩ := hW'
    all_goals (go_simp; first | done | rfl)
  intro l' hl
  dsimp only [List.set_cons_succ, List.set_cons_zero] at hl
  subst hl
  refine anyX_takeNL 1 (v := ?_) rfl rfl (by as_aux_lemma => kernel_rfl) (by as_aux_lemma => kernel_rfl) (by as_aux_lemma => kernel_rfl) (by as_aux_lemma => kernel_rfl) (by as_aux_lemma => kernel_rfl) (fun _ _ _ h => h) rfl ?_ hS ?_
  rotate_left
  · intro W' hW'
    obtain ⟨s2, s3, s4, s5, s6⟩ := hW'
    all_goals (go_simp; first | done | rfl)
  intro l' hl
  dsimp only [List.set_cons_succ, List.set_cons_zero] at hl
  subst hl
  refine anyX_takeNL 2 (v := ?_) rfl rfl (by as_aux_lemma => kernel_rfl) (by as_aux_lemma => kernel_rfl) (by as_aux_lemma => kernel_rfl) (by as_aux_lemma => kernel_rfl) (by as_aux_lemma => kernel_rfl) (fun _ _ _ h => h) rfl ?_ hS ?_
  rotate_left
  · intro W' hW'
    obtain ⟨s2, s3, s4, s5, s6⟩ := hW'
    all_goals (go_simp; first | done | rfl)
  intro l' hl
  dsimp only [List.set_cons_succ, List.set_cons_zero] at hl
  subst hl
  refine anyX_takeNL 3 (v := ?_) rfl rfl (by as_aux_lemma => kernel_rfl) (by as_aux_lemma => kernel_rfl) (by as_aux_lemma => kernel_rfl) (by as_aux_lemma => kernel_rfl) (by as_aux_lemma => kernel_rfl) (fun _ _ _ h => h) rfl ?_ hS ?_
  rotate_left
  · intro W' hW'
    obtain ⟨s2, s3, s4, s5, s6⟩ := hW'
    all_goals (go_simp; first | done | rfl)
  intro l' hl
  dsimp only [List.set_cons_succ, List.set_cons_zero] at hl
  subst hl
  refine anyX_takeNL 4 (v := ?_) rfl rfl (by as_aux_lemma => kernel_rfl) (by as_aux_lemma => kernel_rfl) (by as_aux_lemma => kernel_rfl) (by as_aux_lemma => kernel_rfl) (by as_aux_lemma => kernel_rfl) (fun _ _ _ h => h) rfl ?_ hS ?_
  rotate_left
  · intro W' hW'
    obtain ⟨s2, s3, s4, s5, s6⟩ := hW'
    all_goals (go_simp; first | done | rfl)
  intro l' hl
  dsimp only [List.set_cons_succ, List.set_cons_zero] at hl
  subst hl
  refine anyX_takeNL 5 (v := ?_) rfl rfl (by as_aux_lemma => kernel_rfl) (by as_aux_lemma => kernel_rfl) (by as_aux_lemma => kernel_rfl) (by as_aux_lemma => kernel_rfl) (by as_aux_lemma => kernel_rfl) (fun _ _ _ h => h) rfl ?_ hS ?_
  rotate_left
  · intro W' hW'
    obtain ⟨s2, s3, s4, s5, s6⟩ := hW'
    all_goals (go_simp; first | done | rfl)
  intro l' hl
  dsimp only [List.set_cons_succ, List.set_cons_zero] at hl
  subst hl
  refine anyX_one (i := 6) (by kernel_rfl) rfl rfl fun K' hK' => ?_
  unfold Oper.wp
  go_simp
  refine hK' _ _ (fun _ => ⟨cell_alloc hS.1 _, cell_alloc hS.2.1 _, cell_alloc hS.2.2.1 _, cell_alloc hS.2.2.2.1 _, cell_alloc hS.2.2.2.2 _⟩) ?_
  clear hK' K'
  refine anyX_one (i := 7) (by kernel_rfl) rfl rfl fun K' hK' => ?_
  have hsrc : Src Tryd.prog 4 22 (.slice (some ⟨WD.heap.size, 0, none⟩) 1 1) 1 (EOq.cs (⟨kind, 0, 0, 0⟩ : Op4)) (WD.alloc (.cells (EOq.cs (⟨kind, 0, 0, 0⟩ : Op4)).toArray 32)) := (Reads.new WD (EOq.cs (⟨kind, 0, 0, 0⟩ : Op4)) 32 1 1 (Nat.le_refl _)).src Tryd.underlying22 rfl (EOq.cs_one (⟨kind, 0, 0, 0⟩ : Op4))
  refine wp_append_row (.tmp 98) (.tmp 100) 22 22 rfl 32 _ 4 32 Tryd.underlying22 EOq.info rfl rfl (hQ.alloc (.cells (EOq.cs (⟨kind, 0, 0, 0⟩ : Op4)).toArray 32) [1, 5]) rfl hsrc (by unfold maxLen; omega) (by omega) ?_
  intro v' w' ow' hrow' ht'
  obtain ⟨A', c', rfl, hnc'⟩ := hrow'.slice
  have hcc := Cells.keep (Cells.alloc hR (.cells #[.int .i64 kind, .int .i64 0, .int .i64 0, .int .i64 0] 32) [1, 5]) ht' (by simp)
  have hOO := Cells.keep (Cells.alloc hO (.cells #[.int .i64 kind, .int .i64 0, .int .i64 0, .int .i64 0] 32) [1, 5]) ht' (by simp)
  have hS9 : (fun W' : World => W'.cell? ⟨g, 2, none⟩ = some (.slice A ops.length cap) ∧ W'.cell? ⟨bo, 0, none⟩ = some (.int .i64 kind) ∧ W'.cell? ⟨bo, 1, none⟩ = some (.int .i64 0) ∧ W'.cell? ⟨bo, 2, none⟩ = some (.int .i64 0) ∧ W'.cell? ⟨bo, 3, none⟩ = some (.int .i64 0)) w' := ⟨by have := Cells.get hcc 2 rfl; simpa only [Nat.zero_add] using this, hOO.get 0 rfl, hOO.get 1 rfl, hOO.get 2 rfl, hOO.get 3 rfl⟩
  clear hS c2 f2 lg d0 d1 d2 d3 hOO
  change K' (Act.put _ (some 101) _) _
  refine hK' _ _ (fun _ => hS9) ?_
  clear hK' K'
  simp only [Act.put, List.setIfInBounds_toArray, List.set_cons_succ, List.set_cons_zero]
  have hS := hS9
  refine anyX_one (i := 8) (by kernel_rfl) rfl rfl fun K' hK' => ?_
  unfold Oper.wp
  go_simp
  refine hK' _ _ (fun _ => hS) ?_
  clear hK' K'
  refine anyX_one (i := 9) (by kernel_rfl) rfl rfl fun K' hK' => ?_
  unfold Oper.wp
  go_simp
  refine hK' _ _ (fun _ => hS) ?_
  clear hK' K'
  have c2 := Cells.get hcc 2 rfl
  have f2 := Cells.free hcc 2
  have lg := Cells.lt hcc
  simp only [Nat.zero_add] at c2
  refine anyX_one (i := 10) (by kernel_rfl) rfl rfl fun K' hK' => ?_
  unfold Oper.wp
  go_simp
  refine hK' _ _ (fun hf => by cases hf) (anyX_done (by kernel_rfl) ?_ _)
  refine NoPanic.normal ?_
  clear hK' K'
  go_wp2
  go_ret2
  have TT := ((((Turn.refl [1] WD ow3).alloc (.cells #[.int .i64 kind, .int .i64 0, .int .i64 0, .int .i64 0] 32) [1, 5]).trans (ht'.up (by simp))).setCell (.slice A' (ops.length + 1) c') (Cells.under hcc 2 (by simp) (by simp)))
  have hR' := Cells.set hcc 2 (.slice A' (ops.length + 1) c') (by simp)
  have hQ' := hrow'.keep (Cells.turn hcc 2 (.slice A' (ops.length + 1) c') (by simp)) (by simp)
  simp only [Nat.zero_add, List.set_cons_zero, List.set_cons_succ] at TT hR' hQ'
  refine ⟨_, 0, 0, rfl, tt.trans TT, hV.turn TT (by simp), (fun e2 h2 => by rw [HON.out] at h2; cases h2), (fun x hx => ?_)⟩
  rw [HON.out] at hx
  injection hx with hx
  subst hx
  refine ⟨rfl, rfl, _, hR', ?_⟩
  rw [EOq.css_snoc, List.length_append]
  exact hQ'

set_option maxRecDepth 100000 in
set_option maxHeartbeats 4000000 in
theorem one_end (w : World) (ow : Ow) (g : Nat) (s : ByteArray) (k0 : Nat) (vs : Value) (opn : Nat) (ops : List Op4) (hs : s.size ≤ 1000000) (h0 : k0 ≤ s.size) (hR : RB w ow [1, 0] g s k0 vs opn) (hQ : Row w ow [1, 1] 32 4 vs ops.length (EOq.css ops)) (hV : VO w ow) (hn : ops.length ≤ 1000000) (ho : opn ≤ 1000000) (hop : 1 ≤ opn) :
    Calls Tryd.prog 40 #[.pointer (some ⟨g, 0, none⟩), .int .i64 11] w (OneP w ow g s k0 opn ops 11) := by
  have hh : hasOf 11 = 0 := by decide
  have hk0 : kindB 11 = true := by decide
  have hks : fieldsOf 11 = [] := by simp [fieldsOf, hh]
  have hrow := rowOf
  have Hrow := Lib.hid hrow
  clear hrow
  go_enter Tryd.func40, Tryd.ntmps40
  go_wp2_with fail
  obtain ⟨ow1, hO, nn, hsz⟩ := SH.add_cells w ow [1, 0, 2] [.int .i64 11, .int .i64 0, .int .i64 0, .int .i64 0] 32
  have hc := Hrow.out (w.alloc (.cells #[.int .i64 11, .int .i64 0, .int .i64 0, .int .i64 0] 32)) 11
  rw [hh] at hc
  refine hc.mono ?_
  rintro e w2 ⟨rfl, b2⟩
  replace nn := nn.trans (b2.nw ow1)
  replace hO := hO.new_ (b2.nw ow1)
  replace hR := Cells.new_ hR nn
  replace hQ := hQ.new_ nn
  have tt := nn.turn [1]
  replace hV := hV.turn tt (by simp)
  clear hc Hrow b2 nn hsz
  generalize w.heap.size = bo at *
  have hl0 := hO.lt
  generalize wordOf 11 = wk at *
  go_wp2_with fail
  obtain ⟨ow3, hx3, n3, z3⟩ := SH.add_cells w2 ow1 [1, 4] [.string wk, .int .i64 0] 82
  generalize w2.alloc (.cells #[.string wk, .int .i64 0] 82) = w4 at *
  have n34 := n3
  replace hR := Cells.new_ hR n34
  replace hQ := hQ.new_ n34
  replace hO := hO.new_ n34
  replace tt := tt.trans (n34.turn [1])
  replace hV := hV.turn (n34.turn [1]) (by simp)
  clear hx3 n3 n34
  refine wp_loop_rounds 1 ?_
  rw [rounds_succ]
  have HR := Lib.hid hR
  have HQ := Lib.hid hQ
  have HO := Lib.hid hO
  have HT := Lib.hid tt
  have HV := Lib.hid hV
  clear hR hQ hO tt hV
  have hR := HR.out
  have hQ := HQ.out
  have hO := HO.out
  have tt := HT.out
  have hV := HV.out
  clear HR HQ HO HT HV
  have c3 := Cells.get hR 3 rfl
  have f3 := Cells.free hR 3
  have lg3 := Cells.lt hR
  have t3 := Cells.turn hR 3 (.int .i64 ((opn - 1 : Nat) : Int)) (by simp)
  replace hR := Cells.set hR 3 (.int .i64 ((opn - 1 : Nat) : Int)) (by simp)
  simp only [Nat.zero_add, List.set_cons_zero, List.set_cons_succ] at c3 f3 t3 hR
  replace hQ := hQ.keep t3 (by simp)
  replace hO := hO.keep t3 (by simp)
  replace tt := tt.trans (t3.up (by simp))
  replace hV := hV.turn (t3.up (p := [1]) (by simp)) (by simp)
  clear t3
  have hwr : IntKind.i64.wrap ((opn : Int) - 1) = ((opn - 1 : Nat) : Int) := by rw [IntKind.wrap_i64]; omega
  have HR := Lib.hid hR
  have HQ := Lib.hid hQ
  have HO := Lib.hid hO
  have HT := Lib.hid tt
  have HV := Lib.hid hV
  clear hR hQ hO tt hV
  have hone : oneG s 11 opn k0 = .ok (⟨11, 0, 0, 0⟩, opn - 1, k0) := by unfold oneG; rw [hks]; simp [fieldsG]
  have HON := Lib.hid hone
  clear hone
  as_aux_lemma =>
  go_wp2_with fail
  generalize w4.setCell ⟨g, 3, none⟩ (.int .i64 ((opn - 1 : Nat) : Int)) = WZ at *
  have hR := HR.out
  have hQ := HQ.out
  have hO := HO.out
  have tt := HT.out
  have hV := HV.out
  clear HR HQ HO HT HV
  obtain ⟨A, cap, rfl, hcap⟩ := hQ.slice
  have c2 := Cells.get hR 2 rfl
  have f2 := Cells.free hR 2
  have lg := Cells.lt hR
  have d0 := hO.get 0 rfl
  have d1 := hO.get 1 rfl
  have d2 := hO.get 2 rfl
  have d3 := hO.get 3 rfl
  simp only [EOq.cs, Nat.zero_add] at c2 d0 d1 d2 d3
  refine plain_regionN (fun W' : World => W'.cell? ⟨g, 2, none⟩ = some (.slice A ops.length cap) ∧ W'.cell? ⟨bo, 0, none⟩ = some (.int .i64 11) ∧ W'.cell? ⟨bo, 1, none⟩ = some (.int .i64 0) ∧ W'.cell? ⟨bo, 2, none⟩ = some (.int .i64 0) ∧ W'.cell? ⟨bo, 3, none⟩ = some (.int .i64 0)) [10] (by kernel_rfl) ?_
  have hS : (fun W' : World => W'.cell? ⟨g, 2, none⟩ = some (.slice A ops.length cap) ∧ W'.cell? ⟨bo, 0, none⟩ = some (.int .i64 11) ∧ W'.cell? ⟨bo, 1, none⟩ = some (.int .i64 0) ∧ W'.cell? ⟨bo, 2, none⟩ = some (.int .i64 0) ∧ W'.cell? ⟨bo, 3, none⟩ = some (.int .i64 0)) WZ.drew := ⟨c2, d0, d1, d2, d3⟩
  replace hV := hV.turn ((Turn.refl [1] WZ ow3).drew) (by simp)
  replace tt := tt.drew
  replace hQ := hQ.drew
  replace hO := hO.drew
  replace hR := Cells.drew hR
  generalize WZ.drew = WD at *
  refine anyX_takeNL 0 (v := ?_) rfl rfl (by as_aux_lemma => kernel_rfl) (by as_aux_lemma => kernel_rfl) (by as_aux_lemma => kernel_rfl) (by as_aux_lemma => kernel_rfl) (by as_aux_lemma => kernel_rfl) (fun _ _ _ h => h) rfl ?_ hS ?_
  rotate_left
  · intro W' hW'
    obtain ⟨s2, s3, s4, s5, s6⟩ := hW'
    all_goals (go_simp; first | done | rfl)
  intro l' hl
  dsimp only [List.set_cons_succ, List.set_cons_zero] at hl
  subst hl
  refine anyX_takeNL 1 (v := ?_) rfl rfl (by as_aux_lemma => kernel_rfl) (by as_aux_lemma => kernel_rfl) (by as_aux_lemma => kernel_rfl) (by as_aux_lemma => kernel_rfl) (by as_aux_lemma => kernel_rfl) (fun _ _ _ h => h) rfl ?_ hS ?_
  rotate_left
  · intro W' hW'
    obtain ⟨s2, s3, s4, s5, s6⟩ := hW'
    all_goals (go_simp; first | done | rfl)
  intro l' hl
  dsimp only [List.set_cons_succ, List.set_cons_zero] at hl
  subst hl
  refine anyX_takeNL 2 (v := ?_) rfl rfl (by as_aux_lemma => kernel_rfl) (by as_aux_lemma => kernel_rfl) (by as_aux_lemma => kernel_rfl) (by as_aux_lemma => kernel_rfl) (by as_aux_lemma => kernel_rfl) (fun _ _ _ h => h) rfl ?_ hS ?_
  rotate_left
  · intro W' hW'
    obtain ⟨s2, s3, s4, s5, s6⟩ := hW'
    all_goals (go_simp; first | done | rfl)
  intro l' hl
  dsimp only [List.set_cons_succ, List.set_cons_zero] at hl
  subst hl
  refine anyX_takeNL 3 (v := ?_) rfl rfl (by as_aux_lemma => kernel_rfl) (by as_aux_lemma => kernel_rfl) (by as_aux_lemma => kernel_rfl) (by as_aux_lemma => kernel_rfl) (by as_aux_lemma => kernel_rfl) (fun _ _ _ h => h) rfl ?_ hS ?_
  rotate_left
  · intro W' hW'
    obtain ⟨s2, s3, s4, s5, s6⟩ := hW'
    all_goals (go_simp; first | done | rfl)
  intro l' hl
  dsimp only [List.set_cons_succ, List.set_cons_zero] at hl
  subst hl
  refine anyX_takeNL 4 (v := ?_) rfl rfl (by as_aux_lemma => kernel_rfl) (by as_aux_lemma => kernel_rfl) (by as_aux_lemma => kernel_rfl) (by as_aux_lemma => kernel_rfl) (by as_aux_lemma => kernel_rfl) (fun _ _ _ h => h) rfl ?_ hS ?_
  rotate_left
  · intro W' hW'
    obtain ⟨s2, s3, s4, s5, s6⟩ := hW'
    all_goals (go_simp; first | done | rfl)
  intro l' hl
  dsimp only [List.set_cons_succ, List.set_cons_zero] at hl
  subst hl
  refine anyX_takeNL 5 (v := ?_) rfl rfl (by as_aux_lemma => kernel_rfl) (by as_aux_lemma => kernel_rfl) (by as_aux_lemma => kernel_rfl) (by as_aux_lemma => kernel_rfl) (by as_aux_lemma => kernel_rfl) (fun _ _ _ h => h) rfl ?_ hS ?_
  rotate_left
  · intro W' hW'
    obtain ⟨s2, s3, s4, s5, s6⟩ := hW'
    all_goals (go_simp; first | done | rfl)
  intro l' hl
  dsimp only [List.set_cons_succ, List.set_cons_zero] at hl
  subst hl
  refine anyX_one (i := 6) (by kernel_rfl) rfl rfl fun K' hK' => ?_
  unfold Oper.wp
  go_simp
  refine hK' _ _ (fun _ => ⟨cell_alloc hS.1 _, cell_alloc hS.2.1 _, cell_alloc hS.2.2.1 _, cell_alloc hS.2.2.2.1 _, cell_alloc hS.2.2.2.2 _⟩) ?_
  clear hK' K'
  refine anyX_one (i := 7) (by kernel_rfl) rfl rfl fun K' hK' => ?_
  have hsrc : Src Tryd.prog 4 22 (.slice (some ⟨WD.heap.size, 0, none⟩) 1 1) 1 (EOq.cs (⟨11, 0, 0, 0⟩ : Op4)) (WD.alloc (.cells (EOq.cs (⟨11, 0, 0, 0⟩ : Op4)).toArray 32)) := (Reads.new WD (EOq.cs (⟨11, 0, 0, 0⟩ : Op4)) 32 1 1 (Nat.le_refl _)).src Tryd.underlying22 rfl (EOq.cs_one (⟨11, 0, 0, 0⟩ : Op4))
  refine wp_append_row (.tmp 98) (.tmp 100) 22 22 rfl 32 _ 4 32 Tryd.underlying22 EOq.info rfl rfl (hQ.alloc (.cells (EOq.cs (⟨11, 0, 0, 0⟩ : Op4)).toArray 32) [1, 5]) rfl hsrc (by unfold maxLen; omega) (by omega) ?_
  intro v' w' ow' hrow' ht'
  obtain ⟨A', c', rfl, hnc'⟩ := hrow'.slice
  have hcc := Cells.keep (Cells.alloc hR (.cells #[.int .i64 11, .int .i64 0, .int .i64 0, .int .i64 0] 32) [1, 5]) ht' (by simp)
  have hOO := Cells.keep (Cells.alloc hO (.cells #[.int .i64 11, .int .i64 0, .int .i64 0, .int .i64 0] 32) [1, 5]) ht' (by simp)
  have hS9 : (fun W' : World => W'.cell? ⟨g, 2, none⟩ = some (.slice A ops.length cap) ∧ W'.cell? ⟨bo, 0, none⟩ = some (.int .i64 11) ∧ W'.cell? ⟨bo, 1, none⟩ = some (.int .i64 0) ∧ W'.cell? ⟨bo, 2, none⟩ = some (.int .i64 0) ∧ W'.cell? ⟨bo, 3, none⟩ = some (.int .i64 0)) w' := ⟨by have := Cells.get hcc 2 rfl; simpa only [Nat.zero_add] using this, hOO.get 0 rfl, hOO.get 1 rfl, hOO.get 2 rfl, hOO.get 3 rfl⟩
  clear hS c2 f2 lg d0 d1 d2 d3 hOO
  change K' (Act.put _ (some 101) _) _
  refine hK' _ _ (fun _ => hS9) ?_
  clear hK' K'
  simp only [Act.put, List.setIfInBounds_toArray, List.set_cons_succ, List.set_cons_zero]
  have hS := hS9
  refine anyX_one (i := 8) (by kernel_rfl) rfl rfl fun K' hK' => ?_
  unfold Oper.wp
  go_simp
  refine hK' _ _ (fun _ => hS) ?_
  clear hK' K'
  refine anyX_one (i := 9) (by kernel_rfl) rfl rfl fun K' hK' => ?_
  unfold Oper.wp
  go_simp
  refine hK' _ _ (fun _ => hS) ?_
  clear hK' K'
  have c2 := Cells.get hcc 2 rfl
  have f2 := Cells.free hcc 2
  have lg := Cells.lt hcc
  simp only [Nat.zero_add] at c2
  refine anyX_one (i := 10) (by kernel_rfl) rfl rfl fun K' hK' => ?_
  unfold Oper.wp
  go_simp
  refine hK' _ _ (fun hf => by cases hf) (anyX_done (by kernel_rfl) ?_ _)
  refine NoPanic.normal ?_
  clear hK' K'
  go_wp2
  go_ret2
  have TT := ((((Turn.refl [1] WD ow3).alloc (.cells #[.int .i64 11, .int .i64 0, .int .i64 0, .int .i64 0] 32) [1, 5]).trans (ht'.up (by simp))).setCell (.slice A' (ops.length + 1) c') (Cells.under hcc 2 (by simp) (by simp)))
  have hR' := Cells.set hcc 2 (.slice A' (ops.length + 1) c') (by simp)
  have hQ' := hrow'.keep (Cells.turn hcc 2 (.slice A' (ops.length + 1) c') (by simp)) (by simp)
  simp only [Nat.zero_add, List.set_cons_zero, List.set_cons_succ] at TT hR' hQ'
  refine ⟨_, 0, 0, rfl, tt.trans TT, hV.turn TT (by simp), (fun e2 h2 => by rw [HON.out] at h2; cases h2), (fun x hx => ?_)⟩
  rw [HON.out] at hx
  injection hx with hx
  subst hx
  refine ⟨rfl, rfl, _, hR', ?_⟩
  rw [EOq.css_snoc, List.length_append]
  exact hQ'

end CD
end Go.Proofs.YtnehiooioodkfaaDoor
