/-
  CODE: an operation behind its first word: val, work.
-/
import Derived.Test.YtnehiooioodkfaaDoorKA
set_option linter.unusedVariables false
set_option linter.unusedSimpArgs false
namespace Go.Proofs.YtnehiooioodkfaaDoor
open Go Go.RowKit
namespace CD

set_option maxRecDepth 100000 in
set_option maxHeartbeats 4000000 in
theorem one_val (w : World) (ow : Ow) (g : Nat) (s : ByteArray) (k0 : Nat) (vs : Value) (opn : Nat) (ops : List Op4) (hs : s.size ≤ 1000000) (h0 : k0 ≤ s.size) (hR : RB w ow [1, 0] g s k0 vs opn) (hQ : Row w ow [1, 1] 32 4 vs ops.length (EOq.css ops)) (hV : VO w ow) (hn : ops.length ≤ 1000000) (ho : opn ≤ 1000000) (kind : Int) (h10 : ¬ kind = 10) (h11 : ¬ kind = 11) (hk0 : kindB kind = true) (hh : hasOf kind = 3) (hk1 : kind ≠ 1) :
    Calls Tryd.prog 40 #[.pointer (some ⟨g, 0, none⟩), .int .i64 kind] w (OneP w ow g s k0 opn ops kind) := by
  have hks : fieldsOf kind = [3] := by simp [fieldsOf, hh]
  have hrow := rowOf
  have Hrow := Lib.hid hrow
  clear hrow
  go_enter Tryd.func40, Tryd.ntmps40
  go_wp2_with fail
  obtain ⟨ow1, hO, nn, hsz⟩ := SH.add_cells w ow [1, 0, 2] [.int .i64 kind, .int .i64 0, .int .i64 0, .int .i64 0] 32
  have hc := Hrow.out (w.alloc (.cells #[.int .i64 kind, .int .i64 0, .int .i64 0, .int .i64 0] 32)) kind
  rw [hh] at hc
  refine hc.mono ?_
  rintro e w2 ⟨rfl, b2⟩
  replace nn := nn.trans (b2.nw ow1)
  replace hO := hO.new_ (b2.nw ow1)
  replace hR := Cells.new_ hR nn
  replace hQ := hQ.new_ nn
  have tt := nn.turn [1]
  replace hV := hV.turn tt (by simp)
  clear hc Hrow b2 nn hsz
  generalize w.heap.size = bo at *
  have hl0 := hO.lt
  generalize wordOf kind = wk at *
  go_wp2_with fail
  obtain ⟨ow3, hx3, n3, z3⟩ := SH.add_cells w2 ow1 [1, 4] [.string wk, .int .i64 3] 82
  obtain ⟨ow4, hL, n4, z4⟩ := SH.add_cells (w2.alloc (.cells #[.string wk, .int .i64 3] 82)) ow3 [1, 3] [.pointer (some ⟨bo, 3, none⟩)] 107
  rw [z3] at *
  generalize (w2.alloc (.cells #[.string wk, .int .i64 3] 82)).alloc (.cells #[.pointer (some ⟨bo, 3, none⟩)] 107) = w4 at *
  have n34 := n3.trans n4
  replace hR := Cells.new_ hR n34
  replace hQ := hQ.new_ n34
  replace hO := hO.new_ n34
  replace tt := tt.trans (n34.turn [1])
  replace hV := hV.turn (n34.turn [1]) (by simp)
  clear hx3 n3 n34 n4
  refine wp_loop_rounds 2 ?_
  have l0 := hL.get 0 rfl
  simp only [Nat.zero_add] at l0
  rw [rounds_succ]
  have HR := Lib.hid hR
  have HQ := Lib.hid hQ
  have HO := Lib.hid hO
  have HT := Lib.hid tt
  have HV := Lib.hid hV
  clear hR hQ hO tt hV
  go_wp2_with fail
  have hR := HR.out
  have hQ := HQ.out
  have hO := HO.out
  have tt := HT.out
  have hV := HV.out
  clear HR HQ HO HT HV
  have hfc := field3 w4 ow4 g s k0 vs opn bo ⟨kind, 0, 0, 0⟩ hs h0 hR hO hV hk1
  refine hfc.mono ?_
  rintro e w5 ⟨ow5, o0, a0, c0, rfl, hR0, hO0, t0, hV0, he0, hx0⟩
  replace hQ := hQ.keep t0 (by simp)
  replace hL := hL.keep t0 (by simp)
  replace tt := tt.trans (t0.up (by simp))
  clear hfc hR hO hV t0
  have hR := hR0
  have hO := hO0
  have hV := hV0
  clear hR0 hO0 hV0 l0
  cases hf0 : fieldG s ⟨kind, 0, 0, 0⟩ 3 k0 with
  | error er =>
    obtain ⟨rfl, rfl, hcn⟩ := he0 er hf0
    have hone : oneG s kind opn k0 = .error er := by unfold oneG; rw [hks]; simp only [fieldsG, hf0]
    have HON := Lib.hid hone
    have hcb : (er.2 != 0) = true := by simp [hcn]
    have HT := Lib.hid tt
    have HV := Lib.hid hV
    clear hR hQ hO tt hV hone he0 hx0 hL hf0
    as_aux_lemma =>
    go_wp2
    go_ret2
    exact ⟨ow5, _, _, rfl, HT.out, HV.out, (fun e2 h2 => by rw [HON.out] at h2; injection h2 with h2; subst h2; exact ⟨rfl, rfl, hcn⟩), (fun x hx => by rw [HON.out] at hx; cases hx)⟩
  | ok x0 =>
    obtain ⟨rfl, rfl, rfl⟩ := hx0 x0 hf0
    clear he0 hx0
    have HR := Lib.hid hR
    have HQ := Lib.hid hQ
    have HO := Lib.hid hO
    have HT := Lib.hid tt
    have HV := Lib.hid hV
    clear hR hQ hO tt hV
    go_wp2_with fail
    have hR := HR.out
    have hQ := HQ.out
    have hO := HO.out
    have tt := HT.out
    have hV := HV.out
    clear HR HQ HO HT HV
    rw [rounds_succ]
    have HR := Lib.hid hR
    have HQ := Lib.hid hQ
    have HO := Lib.hid hO
    have HT := Lib.hid tt
    have HV := Lib.hid hV
    clear hR hQ hO tt hV
    clear hL
    have hone : oneG s kind opn k0 = .ok (o0, opn, (past s (skip s k0))) := by unfold oneG; rw [hks]; simp [fieldsG, hf0, h10, h11]
    have HON := Lib.hid hone
    clear hone hf0
    as_aux_lemma =>
    go_wp2_with fail
    have hR := HR.out
    have hQ := HQ.out
    have hO := HO.out
    have tt := HT.out
    have hV := HV.out
    clear HR HQ HO HT HV
    obtain ⟨A, cap, rfl, hcap⟩ := hQ.slice
    obtain ⟨kx, rx, nx, vx⟩ := o0
    have c2 := Cells.get hR 2 rfl
    have f2 := Cells.free hR 2
    have lg := Cells.lt hR
    have d0 := hO.get 0 rfl
    have d1 := hO.get 1 rfl
    have d2 := hO.get 2 rfl
    have d3 := hO.get 3 rfl
    simp only [EOq.cs, Nat.zero_add] at c2 d0 d1 d2 d3
    refine plain_regionN (fun W' : World => W'.cell? ⟨g, 2, none⟩ = some (.slice A ops.length cap) ∧ W'.cell? ⟨bo, 0, none⟩ = some (.int .i64 kx) ∧ W'.cell? ⟨bo, 1, none⟩ = some (.int .i64 rx) ∧ W'.cell? ⟨bo, 2, none⟩ = some (.int .i64 nx) ∧ W'.cell? ⟨bo, 3, none⟩ = some (.int .i64 vx)) [10] (by kernel_rfl) ?_
    have hS : (fun W' : World => W'.cell? ⟨g, 2, none⟩ = some (.slice A ops.length cap) ∧ W'.cell? ⟨bo, 0, none⟩ = some (.int .i64 kx) ∧ W'.cell? ⟨bo, 1, none⟩ = some (.int .i64 rx) ∧ W'.cell? ⟨bo, 2, none⟩ = some (.int .i64 nx) ∧ W'.cell? ⟨bo, 3, none⟩ = some (.int .i64 vx)) w5.drew := ⟨c2, d0, d1, d2, d3⟩
    replace hV := hV.turn ((Turn.refl [1] w5 ow5).drew) (by simp)
    replace tt := tt.drew
    replace hQ := hQ.drew
    replace hO := hO.drew
    replace hR := Cells.drew hR
    generalize w5.drew = WD at *
    refine anyX_takeNL 0 (v := ?_) rfl rfl (by as_aux_lemma => kernel_rfl) (by as_aux_lemma => kernel_rfl) (by as_aux_lemma => kernel_rfl) (by as_aux_lemma => kernel_rfl) (by as_aux_lemma => kernel_rfl) (fun _ _ _ h => h) rfl ?_ hS ?_
    rotate_left
    · intro W' hW'
      obtain ⟨s2, s3, s4, s5, s6⟩ := hW'
      all_goals (go_simp; first | done | rfl)
    intro l' hl
    dsimp only [List.set_cons_succ, List.set_cons_zero] at hl
    subst hl
    refine anyX_takeNL 1 (v := ?_) rfl rfl (by as_aux_lemma => kernel_rfl) (by as_aux_lemma => kernel_rfl) (by as_aux_lemma => kernel_rfl) (by as_aux_lemma => kernel_rfl) (by as_aux_lemma => kernel_rfl) (fun _ _ _ h => h) rfl ?_ hS ?_
    rotate_left
    · intro W' hW'
      obtain ⟨s2, s3, s4, s5, s6⟩ := hW'
      all_goals (go_simp; first | done | rfl)
    intro l' hl
    dsimp only [List.set_cons_succ, List.set_cons_zero] at hl
    subst hl
    refine anyX_takeNL 2 (v := ?_) rfl rfl (by as_aux_lemma => kernel_rfl) (by as_aux_lemma => kernel_rfl) (by as_aux_lemma => kernel_rfl) (by as_aux_lemma => kernel_rfl) (by as_aux_lemma => kernel_rfl) (fun _ _ _ h => h) rfl ?_ hS ?_
    rotate_left
    · intro W' hW'
      obtain ⟨s2, s3, s4, s5, s6⟩ := hW'
      all_goals (go_simp; first | done | rfl)
    intro l' hl
    dsimp only [List.set_cons_succ, List.set_cons_zero] at hl
    subst hl
    refine anyX_takeNL 3 (v := ?_) rfl rfl (by as_aux_lemma => kernel_rfl) (by as_aux_lemma => kernel_rfl) (by as_aux_lemma => kernel_rfl) (by as_aux_lemma => kernel_rfl) (by as_aux_lemma => kernel_rfl) (fun _ _ _ h => h) rfl ?_ hS ?_
    rotate_left
    · intro W' hW'
      obtain ⟨s2, s3, s4, s5, s6⟩ := hW'
      all_goals (go_simp; first | done | rfl)
    intro l' hl
    dsimp only [List.set_cons_succ, List.set_cons_zero] at hl
    subst hl
    refine anyX_takeNL 4 (v := ?_) rfl rfl (by as_aux_lemma => kernel_rfl) (by as_aux_lemma => kernel_rfl) (by as_aux_lemma => kernel_rfl) (by as_aux_lemma => kernel_rfl) (by as_aux_lemma => kernel_rfl) (fun _ _ _ h => h) rfl ?_ hS ?_
    rotate_left
    · intro W' hW'
      obtain ⟨s2, s3, s4, s5, s6⟩ := hW'
      all_goals (go_simp; first | done | rfl)
    intro l' hl
    dsimp only [List.set_cons_succ, List.set_cons_zero] at hl
    subst hl
    refine anyX_takeNL 5 (v := ?_) rfl rfl (by as_aux_lemma => kernel_rfl) (by as_aux_lemma => kernel_rfl) (by as_aux_lemma => kernel_rfl) (by as_aux_lemma => kernel_rfl) (by as_aux_lemma => kernel_rfl) (fun _ _ _ h => h) rfl ?_ hS ?_
    rotate_left
    · intro W' hW'
      obtain ⟨s2, s3, s4, s5, s6⟩ := hW'
      all_goals (go_simp; first | done | rfl)
    intro l' hl
    dsimp only [List.set_cons_succ, List.set_cons_zero] at hl
    subst hl
    refine anyX_one (i := 6) (by kernel_rfl) rfl rfl fun K' hK' => ?_
    unfold Oper.wp
    go_simp
    refine hK' _ _ (fun _ => ⟨cell_alloc hS.1 _, cell_alloc hS.2.1 _, cell_alloc hS.2.2.1 _, cell_alloc hS.2.2.2.1 _, cell_alloc hS.2.2.2.2 _⟩) ?_
    clear hK' K'
    refine anyX_one (i := 7) (by kernel_rfl) rfl rfl fun K' hK' => ?_
    have hsrc : Src Tryd.prog 4 22 (.slice (some ⟨WD.heap.size, 0, none⟩) 1 1) 1 (EOq.cs ⟨kx, rx, nx, vx⟩) (WD.alloc (.cells (EOq.cs ⟨kx, rx, nx, vx⟩).toArray 32)) := (Reads.new WD (EOq.cs ⟨kx, rx, nx, vx⟩) 32 1 1 (Nat.le_refl _)).src Tryd.underlying22 rfl (EOq.cs_one ⟨kx, rx, nx, vx⟩)
    refine wp_append_row (.tmp 98) (.tmp 100) 22 22 rfl 32 _ 4 32 Tryd.underlying22 EOq.info rfl rfl (hQ.alloc (.cells (EOq.cs ⟨kx, rx, nx, vx⟩).toArray 32) [1, 5]) rfl hsrc (by unfold maxLen; omega) (by omega) ?_
    intro v' w' ow' hrow' ht'
    obtain ⟨A', c', rfl, hnc'⟩ := hrow'.slice
    have hcc := Cells.keep (Cells.alloc hR (.cells #[.int .i64 kx, .int .i64 rx, .int .i64 nx, .int .i64 vx] 32) [1, 5]) ht' (by simp)
    have hOO := Cells.keep (Cells.alloc hO (.cells #[.int .i64 kx, .int .i64 rx, .int .i64 nx, .int .i64 vx] 32) [1, 5]) ht' (by simp)
    have hS9 : (fun W' : World => W'.cell? ⟨g, 2, none⟩ = some (.slice A ops.length cap) ∧ W'.cell? ⟨bo, 0, none⟩ = some (.int .i64 kx) ∧ W'.cell? ⟨bo, 1, none⟩ = some (.int .i64 rx) ∧ W'.cell? ⟨bo, 2, none⟩ = some (.int .i64 nx) ∧ W'.cell? ⟨bo, 3, none⟩ = some (.int .i64 vx)) w' := ⟨by have := Cells.get hcc 2 rfl; simpa only [Nat.zero_add] using this, hOO.get 0 rfl, hOO.get 1 rfl, hOO.get 2 rfl, hOO.get 3 rfl⟩
    clear hS c2 f2 lg d0 d1 d2 d3 hOO
    change K' (Act.put _ (some 101) _) _
    refine hK' _ _ (fun _ => hS9) ?_
    clear hK' K'
    simp only [Act.put, List.setIfInBounds_toArray, List.set_cons_succ, List.set_cons_zero]
    have hS := hS9
    refine anyX_one (i := 8) (by kernel_rfl) rfl rfl fun K' hK' => ?_
    unfold Oper.wp
    go_simp
    refine hK' _ _ (fun _ => hS) ?_
    clear hK' K'
    refine anyX_one (i := 9) (by kernel_rfl) rfl rfl fun K' hK' => ?_
    unfold Oper.wp
    go_simp
    refine hK' _ _ (fun _ => hS) ?_
    clear hK' K'
    have c2 := Cells.get hcc 2 rfl
    have f2 := Cells.free hcc 2
    have lg := Cells.lt hcc
    simp only [Nat.zero_add] at c2
    refine anyX_one (i := 10) (by kernel_rfl) rfl rfl fun K' hK' => ?_
    unfold Oper.wp
    go_simp
    refine hK' _ _ (fun hf => by cases hf) (anyX_done (by kernel_rfl) ?_ _)
    refine NoPanic.normal ?_
    clear hK' K'
    go_wp2
    go_ret2
    have TT := ((((Turn.refl [1] WD ow5).alloc (.cells #[.int .i64 kx, .int .i64 rx, .int .i64 nx, .int .i64 vx] 32) [1, 5]).trans (ht'.up (by simp))).setCell (.slice A' (ops.length + 1) c') (Cells.under hcc 2 (by simp) (by simp)))
    have hR' := Cells.set hcc 2 (.slice A' (ops.length + 1) c') (by simp)
    have hQ' := hrow'.keep (Cells.turn hcc 2 (.slice A' (ops.length + 1) c') (by simp)) (by simp)
    simp only [Nat.zero_add, List.set_cons_zero, List.set_cons_succ] at TT hR' hQ'
    refine ⟨_, 0, 0, rfl, tt.trans TT, hV.turn TT (by simp), (fun e2 h2 => by rw [HON.out] at h2; cases h2), (fun x hx => ?_)⟩
    rw [HON.out] at hx
    injection hx with hx
    subst hx
    refine ⟨rfl, rfl, _, hR', ?_⟩
    rw [EOq.css_snoc, List.length_append]
    exact hQ'

set_option maxRecDepth 100000 in
set_option maxHeartbeats 4000000 in
theorem one_work (w : World) (ow : Ow) (g : Nat) (s : ByteArray) (k0 : Nat) (vs : Value) (opn : Nat) (ops : List Op4) (hs : s.size ≤ 1000000) (h0 : k0 ≤ s.size) (hR : RB w ow [1, 0] g s k0 vs opn) (hQ : Row w ow [1, 1] 32 4 vs ops.length (EOq.css ops)) (hV : VO w ow) (hn : ops.length ≤ 1000000) (ho : opn ≤ 1000000) (kind : Int) (h10 : ¬ kind = 10) (h11 : ¬ kind = 11) (hk0 : kindB kind = true) (hh : hasOf kind = 4) :
    Calls Tryd.prog 40 #[.pointer (some ⟨g, 0, none⟩), .int .i64 kind] w (OneP w ow g s k0 opn ops kind) := by
  have hks : fieldsOf kind = [2] := by simp [fieldsOf, hh]
  have hrow := rowOf
  have Hrow := Lib.hid hrow
  clear hrow
  go_enter Tryd.func40, Tryd.ntmps40
  go_wp2_with fail
  obtain ⟨ow1, hO, nn, hsz⟩ := SH.add_cells w ow [1, 0, 2] [.int .i64 kind, .int .i64 0, .int .i64 0, .int .i64 0] 32
  have hc := Hrow.out (w.alloc (.cells #[.int .i64 kind, .int .i64 0, .int .i64 0, .int .i64 0] 32)) kind
  rw [hh] at hc
  refine hc.mono ?_
  rintro e w2 ⟨rfl, b2⟩
  replace nn := nn.trans (b2.nw ow1)
  replace hO := hO.new_ (b2.nw ow1)
  replace hR := Cells.new_ hR nn
  replace hQ := hQ.new_ nn
  have tt := nn.turn [1]
  replace hV := hV.turn tt (by simp)
  clear hc Hrow b2 nn hsz
  generalize w.heap.size = bo at *
  have hl0 := hO.lt
  generalize wordOf kind = wk at *
  go_wp2_with fail
  obtain ⟨ow3, hx3, n3, z3⟩ := SH.add_cells w2 ow1 [1, 4] [.string wk, .int .i64 4] 82
  obtain ⟨ow4, hL, n4, z4⟩ := SH.add_cells (w2.alloc (.cells #[.string wk, .int .i64 4] 82)) ow3 [1, 3] [.pointer (some ⟨bo, 2, none⟩)] 107
  rw [z3] at *
  generalize (w2.alloc (.cells #[.string wk, .int .i64 4] 82)).alloc (.cells #[.pointer (some ⟨bo, 2, none⟩)] 107) = w4 at *
  have n34 := n3.trans n4
  replace hR := Cells.new_ hR n34
  replace hQ := hQ.new_ n34
  replace hO := hO.new_ n34
  replace tt := tt.trans (n34.turn [1])
  replace hV := hV.turn (n34.turn [1]) (by simp)
  clear hx3 n3 n34 n4
  refine wp_loop_rounds 2 ?_
  have l0 := hL.get 0 rfl
  simp only [Nat.zero_add] at l0
  rw [rounds_succ]
  have HR := Lib.hid hR
  have HQ := Lib.hid hQ
  have HO := Lib.hid hO
  have HT := Lib.hid tt
  have HV := Lib.hid hV
  clear hR hQ hO tt hV
  go_wp2_with fail
  have hR := HR.out
  have hQ := HQ.out
  have hO := HO.out
  have tt := HT.out
  have hV := HV.out
  clear HR HQ HO HT HV
  have hfc := field2 w4 ow4 g s k0 vs opn bo ⟨kind, 0, 0, 0⟩ hs h0 hR hO hV
  refine hfc.mono ?_
  rintro e w5 ⟨ow5, o0, a0, c0, rfl, hR0, hO0, t0, hV0, he0, hx0⟩
  replace hQ := hQ.keep t0 (by simp)
  replace hL := hL.keep t0 (by simp)
  replace tt := tt.trans (t0.up (by simp))
  clear hfc hR hO hV t0
  have hR := hR0
  have hO := hO0
  have hV := hV0
  clear hR0 hO0 hV0 l0
  cases hf0 : fieldG s ⟨kind, 0, 0, 0⟩ 2 k0 with
  | error er =>
    obtain ⟨rfl, rfl, hcn⟩ := he0 er hf0
    have hone : oneG s kind opn k0 = .error er := by unfold oneG; rw [hks]; simp only [fieldsG, hf0]
    have HON := Lib.hid hone
    have hcb : (er.2 != 0) = true := by simp [hcn]
    have HT := Lib.hid tt
    have HV := Lib.hid hV
    clear hR hQ hO tt hV hone he0 hx0 hL hf0
    as_aux_lemma =>
    go_wp2
    go_ret2
    exact ⟨ow5, _, _, rfl, HT.out, HV.out, (fun e2 h2 => by rw [HON.out] at h2; injection h2 with h2; subst h2; exact ⟨rfl, rfl, hcn⟩), (fun x hx => by rw [HON.out] at hx; cases hx)⟩
  | ok x0 =>
    obtain ⟨rfl, rfl, rfl⟩ := hx0 x0 hf0
    clear he0 hx0
    have HR := Lib.hid hR
    have HQ := Lib.hid hQ
    have HO := Lib.hid hO
    have HT := Lib.hid tt
    have HV := Lib.hid hV
    clear hR hQ hO tt hV
    go_wp2_with fail
    have hR := HR.out
    have hQ := HQ.out
    have hO := HO.out
    have tt := HT.out
    have hV := HV.out
    clear HR HQ HO HT HV
    rw [rounds_succ]
    have HR := Lib.hid hR
    have HQ := Lib.hid hQ
    have HO := Lib.hid hO
    have HT := Lib.hid tt
    have HV := Lib.hid hV
    clear hR hQ hO tt hV
    clear hL
    have hone : oneG s kind opn k0 = .ok (o0, opn, (past s (skip s k0))) := by unfold oneG; rw [hks]; simp [fieldsG, hf0, h10, h11]
    have HON := Lib.hid hone
    clear hone hf0
    as_aux_lemma =>
    go_wp2_with fail
    have hR := HR.out
    have hQ := HQ.out
    have hO := HO.out
    have tt := HT.out
    have hV := HV.out
    clear HR HQ HO HT HV
    obtain ⟨A, cap, rfl, hcap⟩ := hQ.slice
    obtain ⟨kx, rx, nx, vx⟩ := o0
    have c2 := Cells.get hR 2 rfl
    have f2 := Cells.free hR 2
    have lg := Cells.lt hR
    have d0 := hO.get 0 rfl
    have d1 := hO.get 1 rfl
    have d2 := hO.get 2 rfl
    have d3 := hO.get 3 rfl
    simp only [EOq.cs, Nat.zero_add] at c2 d0 d1 d2 d3
    refine plain_regionN (fun W' : World => W'.cell? ⟨g, 2, none⟩ = some (.slice A ops.length cap) ∧ W'.cell? ⟨bo, 0, none⟩ = some (.int .i64 kx) ∧ W'.cell? ⟨bo, 1, none⟩ = some (.int .i64 rx) ∧ W'.cell? ⟨bo, 2, none⟩ = some (.int .i64 nx) ∧ W'.cell? ⟨bo, 3, none⟩ = some (.int .i64 vx)) [10] (by kernel_rfl) ?_
    have hS : (fun W' : World => W'.cell? ⟨g, 2, none⟩ = some (.slice A ops.length cap) ∧ W'.cell? ⟨bo, 0, none⟩ = some (.int .i64 kx) ∧ W'.cell? ⟨bo, 1, none⟩ = some (.int .i64 rx) ∧ W'.cell? ⟨bo, 2, none⟩ = some (.int .i64 nx) ∧ W'.cell? ⟨bo, 3, none⟩ = some (.int .i64 vx)) w5.drew := ⟨c2, d0, d1, d2, d3⟩
    replace hV := hV.turn ((Turn.refl [1] w5 ow5).drew) (by simp)
    replace tt := tt.drew
    replace hQ := hQ.drew
    replace hO := hO.drew
    replace hR := Cells.drew hR
    generalize w5.drew = WD at *
    refine anyX_takeNL 0 (v := ?_) rfl rfl (by as_aux_lemma => kernel_rfl) (by as_aux_lemma => kernel_rfl) (by as_aux_lemma => kernel_rfl) (by as_aux_lemma => kernel_rfl) (by as_aux_lemma => kernel_rfl) (fun _ _ _ h => h) rfl ?_ hS ?_
    rotate_left
    · intro W' hW'
      obtain ⟨s2, s3, s4, s5, s6⟩ := hW'
      all_goals (go_simp; first | done | rfl)
    intro l' hl
    dsimp only [List.set_cons_succ, List.set_cons_zero] at hl
    subst hl
    refine anyX_takeNL 1 (v := ?_) rfl rfl (by as_aux_lemma => kernel_rfl) (by as_aux_lemma => kernel_rfl) (by as_aux_lemma => kernel_rfl) (by as_aux_lemma => kernel_rfl) (by as_aux_lemma => kernel_rfl) (fun _ _ _ h => h) rfl ?_ hS ?_
    rotate_left
    · intro W' hW'
      obtain ⟨s2, s3, s4, s5, s6⟩ := hW'
      all_goals (go_simp; first | done | rfl)
    intro l' hl
    dsimp only [List.set_cons_succ, List.set_cons_zero] at hl
    subst hl
    refine anyX_takeNL 2 (v := ?_) rfl rfl (by as_aux_lemma => kernel_rfl) (by as_aux_lemma => kernel_rfl) (by as_aux_lemma => kernel_rfl) (by as_aux_lemma => kernel_rfl) (by as_aux_lemma => kernel_rfl) (fun _ _ _ h => h) rfl ?_ hS ?_
    rotate_left
    · intro W' hW'
      obtain ⟨s2, s3, s4, s5, s6⟩ := hW'
      all_goals (go_simp; first | done | rfl)
    intro l' hl
    dsimp only [List.set_cons_succ, List.set_cons_zero] at hl
    subst hl
    refine anyX_takeNL 3 (v := ?_) rfl rfl (by as_aux_lemma => kernel_rfl) (by as_aux_lemma => kernel_rfl) (by as_aux_lemma => kernel_rfl) (by as_aux_lemma => kernel_rfl) (by as_aux_lemma => kernel_rfl) (fun _ _ _ h => h) rfl ?_ hS ?_
    rotate_left
    · intro W' hW'
      obtain ⟨s2, s3, s4, s5, s6⟩ := hW'
      all_goals (go_simp; first | done | rfl)
    intro l' hl
    dsimp only [List.set_cons_succ, List.set_cons_zero] at hl
    subst hl
    refine anyX_takeNL 4 (v := ?_) rfl rfl (by as_aux_lemma => kernel_rfl) (by as_aux_lemma => kernel_rfl) (by as_aux_lemma => kernel_rfl) (by as_aux_lemma => kernel_rfl) (by as_aux_lemma => kernel_rfl) (fun _ _ _ h => h) rfl ?_ hS ?_
    rotate_left
    · intro W' hW'
      obtain ⟨s2, s3, s4, s5, s6⟩ := hW'
      all_goals (go_simp; first | done | rfl)
    intro l' hl
    dsimp only [List.set_cons_succ, List.set_cons_zero] at hl
    subst hl
    refine anyX_takeNL 5 (v := ?_) rfl rfl (by as_aux_lemma => kernel_rfl) (by as_aux_lemma => kernel_rfl) (by as_aux_lemma => kernel_rfl) (by as_aux_lemma => kernel_rfl) (by as_aux_lemma => kernel_rfl) (fun _ _ _ h => h) rfl ?_ hS ?_
    rotate_left
    · intro W' hW'
      obtain ⟨s2, s3, s4, s5, s6⟩ := hW'
      all_goals (go_simp; first | done | rfl)
    intro l' hl
    dsimp only [List.set_cons_succ, List.set_cons_zero] at hl
    subst hl
    refine anyX_one (i := 6) (by kernel_rfl) rfl rfl fun K' hK' => ?_
    unfold Oper.wp
    go_simp
    refine hK' _ _ (fun _ => ⟨cell_alloc hS.1 _, cell_alloc hS.2.1 _, cell_alloc hS.2.2.1 _, cell_alloc hS.2.2.2.1 _, cell_alloc hS.2.2.2.2 _⟩) ?_
    clear hK' K'
    refine anyX_one (i := 7) (by kernel_rfl) rfl rfl fun K' hK' => ?_
    have hsrc : Src Tryd.prog 4 22 (.slice (some ⟨WD.heap.size, 0, none⟩) 1 1) 1 (EOq.cs ⟨kx, rx, nx, vx⟩) (WD.alloc (.cells (EOq.cs ⟨kx, rx, nx, vx⟩).toArray 32)) := (Reads.new WD (EOq.cs ⟨kx, rx, nx, vx⟩) 32 1 1 (Nat.le_refl _)).src Tryd.underlying22 rfl (EOq.cs_one ⟨kx, rx, nx, vx⟩)
    refine wp_append_row (.tmp 98) (.tmp 100) 22 22 rfl 32 _ 4 32 Tryd.underlying22 EOq.info rfl rfl (hQ.alloc (.cells (EOq.cs ⟨kx, rx, nx, vx⟩).toArray 32) [1, 5]) rfl hsrc (by unfold maxLen; omega) (by omega) ?_
    intro v' w' ow' hrow' ht'
    obtain ⟨A', c', rfl, hnc'⟩ := hrow'.slice
    have hcc := Cells.keep (Cells.alloc hR (.cells #[.int .i64 kx, .int .i64 rx, .int .i64 nx, .int .i64 vx] 32) [1, 5]) ht' (by simp)
    have hOO := Cells.keep (Cells.alloc hO (.cells #[.int .i64 kx, .int .i64 rx, .int .i64 nx, .int .i64 vx] 32) [1, 5]) ht' (by simp)
    have hS9 : (fun W' : World => W'.cell? ⟨g, 2, none⟩ = some (.slice A ops.length cap) ∧ W'.cell? ⟨bo, 0, none⟩ = some (.int .i64 kx) ∧ W'.cell? ⟨bo, 1, none⟩ = some (.int .i64 rx) ∧ W'.cell? ⟨bo, 2, none⟩ = some (.int .i64 nx) ∧ W'.cell? ⟨bo, 3, none⟩ = some (.int .i64 vx)) w' := ⟨by have := Cells.get hcc 2 rfl; simpa only [Nat.zero_add] using this, hOO.get 0 rfl, hOO.get 1 rfl, hOO.get 2 rfl, hOO.get 3 rfl⟩
    clear hS c2 f2 lg d0 d1 d2 d3 hOO
    change K' (Act.put _ (some 101) _) _
    refine hK' _ _ (fun _ => hS9) ?_
    clear hK' K'
    simp only [Act.put, List.setIfInBounds_toArray, List.set_cons_succ, List.set_cons_zero]
    have hS := hS9
    refine anyX_one (i := 8) (by kernel_rfl) rfl rfl fun K' hK' => ?_
    unfold Oper.wp
    go_simp
    refine hK' _ _ (fun _ => hS) ?_
    clear hK' K'
    refine anyX_one (i := 9) (by kernel_rfl) rfl rfl fun K' hK' => ?_
    unfold Oper.wp
    go_simp
    refine hK' _ _ (fun _ => hS) ?_
    clear hK' K'
    have c2 := Cells.get hcc 2 rfl
    have f2 := Cells.free hcc 2
    have lg := Cells.lt hcc
    simp only [Nat.zero_add] at c2
    refine anyX_one (i := 10) (by kernel_rfl) rfl rfl fun K' hK' => ?_
    unfold Oper.wp
    go_simp
    refine hK' _ _ (fun hf => by cases hf) (anyX_done (by kernel_rfl) ?_ _)
    refine NoPanic.normal ?_
    clear hK' K'
    go_wp2
    go_ret2
    have TT := ((((Turn.refl [1] WD ow5).alloc (.cells #[.int .i64 kx, .int .i64 rx, .int .i64 nx, .int .i64 vx] 32) [1, 5]).trans (ht'.up (by simp))).setCell (.slice A' (ops.length + 1) c') (Cells.under hcc 2 (by simp) (by simp)))
    have hR' := Cells.set hcc 2 (.slice A' (ops.length + 1) c') (by simp)
    have hQ' := hrow'.keep (Cells.turn hcc 2 (.slice A' (ops.length + 1) c') (by simp)) (by simp)
    simp only [Nat.zero_add, List.set_cons_zero, List.set_cons_succ] at TT hR' hQ'
    refine ⟨_, 0, 0, rfl, tt.trans TT, hV.turn TT (by simp), (fun e2 h2 => by rw [HON.out] at h2; cases h2), (fun x hx => ?_)⟩
    rw [HON.out] at hx
    injection hx with hx
    subst hx
    refine ⟨rfl, rfl, _, hR', ?_⟩
    rw [EOq.css_snoc, List.length_append]
    exact hQ'

end CD
end Go.Proofs.YtnehiooioodkfaaDoor
