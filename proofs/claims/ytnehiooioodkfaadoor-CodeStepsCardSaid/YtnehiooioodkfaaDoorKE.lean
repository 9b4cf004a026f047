/-
  CODE: one step further.
-/
import Derived.Test.YtnehiooioodkfaaDoorKP
import Derived.Test.YtnehiooioodkfaaDoorBox
import Derived.Test.YtnehiooioodkfaaDoorFn
import Derived.Test.YtnehiooioodkfaaDoorCalc
import Derived.Test.YtnehiooioodkfaaDoorMore
set_option linter.unusedVariables false
set_option linter.unusedSimpArgs false
namespace Go.Proofs.YtnehiooioodkfaaDoor
open Go Go.RowKit
namespace CD
theorem fn_eqIn_nil (d : Nat) (W : World) : (Op.equalIn (d + 1) 90 .nilFunc .nilFunc).run Tryd.prog W = .ok true W := by
  have h := Tryd.underlying90
  simp [Op.equalIn, run_underlying h]
theorem fn_eq_nil (W : World) : (Op.equal 90 .nilFunc .nilFunc).run Tryd.prog W = .ok true W := fn_eqIn_nil 9999 W
theorem fn_ne_nil (W : World) : (binOp .neq 90 .nilFunc .nilFunc).run Tryd.prog W = .ok (.bool false) W := by
  simp only [binOp]
  simp [fn_eq_nil W]
theorem fn_ne_fn (f : Fn) (x y : Array Value) (W : World) : (binOp .neq 90 (.func f x y) .nilFunc).run Tryd.prog W = .ok (.bool true) W := by
  have e : (Op.equal 90 (.func f x y) .nilFunc).run Tryd.prog W = .ok false W := run_equalIn_fn W 9999 _ _ _ _ f x y Tryd.underlying90
  simp only [binOp]
  simp [e]
/-- The list to which a step is told. -/
def TLc (w : World) (ow : Ow) (G : Nat) (l : List Op4) : Prop := ∃ vs, Cells w ow [1, 2, 1, 0] G 0 [vs] ∧ Row w ow [1, 2, 1, 1] 32 4 vs l.length (EOq.css l)
def TL (w : World) (ow : Ow) (tv : Value) : Option (List Op4) → Prop
  | none => tv = .nilFunc
  | some l => ∃ G, tv = .func (.func 48) #[] #[.pointer (some ⟨G, 0, none⟩)] ∧ TLc w ow G l
theorem TLc.keep {w w1 : World} {ow ow1 : Ow} {q : List Nat} {G : Nat} {l : List Op4} (h : TLc w ow G l) (t : Turn q w ow w1 ow1) (h0 : ¬ q <+: [1, 2, 1, 0]) (h1 : ¬ q <+: [1, 2, 1, 1]) : TLc w1 ow1 G l := by
  obtain ⟨vs, a, b⟩ := h
  exact ⟨vs, a.keep t h0, b.keep t h1⟩
theorem TL.keep {w w1 : World} {ow ow1 : Ow} {q : List Nat} {tv : Value} {told : Option (List Op4)} (h : TL w ow tv told) (t : Turn q w ow w1 ow1) (h0 : ¬ q <+: [1, 2, 1, 0]) (h1 : ¬ q <+: [1, 2, 1, 1]) : TL w1 ow1 tv told := by
  cases told with
  | none => exact h
  | some l => obtain ⟨G, e, k⟩ := h; exact ⟨G, e, k.keep t h0 h1⟩
theorem TL.new_ {w w1 : World} {ow ow1 : Ow} {tv : Value} {told : Option (List Op4)} (h : TL w ow tv told) (t : New w ow w1 ow1) : TL w1 ow1 tv told := by
  cases told with
  | none => exact h
  | some l => obtain ⟨G, e, vs, a, b⟩ := h; exact ⟨G, e, vs, a.new_ t, b.new_ t⟩
/-- The walker. -/
def WS (w : World) (ow : Ow) (g : Nat) (pv : Value) (n : Nat) (over : Bool) (ev tv : Value) (told : Option (List Op4)) : Prop :=
  Cells w ow [1, 2, 0] g 0 [pv, .int .i64 (n : Int), .bool over, ev, tv] ∧ TL w ow tv told
theorem WS.new_ {w w1 : World} {ow ow1 : Ow} {g n : Nat} {pv ev tv : Value} {over : Bool} {told : Option (List Op4)} (h : WS w ow g pv n over ev tv told) (t : New w ow w1 ow1) : WS w1 ow1 g pv n over ev tv told := ⟨h.1.new_ t, h.2.new_ t⟩
def opV (o : Op4) : Value := .agg #[.int .i64 o.kind, .int .i64 o.res, .int .i64 o.n, .int .i64 o.v]
set_option maxRecDepth 100000 in
set_option maxHeartbeats 1000000 in
theorem tell1 (w : World) (ow : Ow) (G : Nat) (l : List Op4) (o : Op4) (h : TLc w ow G l) (hn : l.length ≤ 1000000) :
    Calls Tryd.prog 48 #[.agg #[.int .i64 o.kind, .int .i64 o.res, .int .i64 o.n, .int .i64 o.v], .pointer (some ⟨G, 0, none⟩)] w fun e w' => ∃ OW, e = .returned (.tuple #[]) ∧ TLc w' OW G (l ++ [o]) ∧ Turn [1, 2, 1] w ow w' OW := by
  obtain ⟨kind, res, n, v⟩ := o
  obtain ⟨vs, hc, hr⟩ := h
  obtain ⟨A, c, rfl, hnc⟩ := hr.slice
  obtain ⟨ow1, hX, nn, -⟩ := SH.add_cells w ow [1, 2, 1, 2] [.int .i64 kind, .int .i64 res, .int .i64 n, .int .i64 v] 32
  obtain ⟨ow2, hY, nn2, -⟩ := SH.add_cells (w.alloc (.cells #[.int .i64 kind, .int .i64 res, .int .i64 n, .int .i64 v] 32)) ow1 [1, 2, 1, 2] [.int .i64 kind, .int .i64 res, .int .i64 n, .int .i64 v] 32
  have hc0 := hc.new_ nn
  have hr2 := (hr.new_ nn).new_ nn2
  have hc2 := (hc.new_ nn).new_ nn2
  have hT := (nn.trans nn2).turn [1, 2, 1]
  have c0 := hc0.get0
  have lg := hc0.lt
  have HR2 := Lib.hid hr2
  have HC2 := Lib.hid hc2
  have HT := Lib.hid hT
  have hsrc : Src Tryd.prog 4 22 (.slice (some ⟨(w.alloc (.cells #[.int .i64 kind, .int .i64 res, .int .i64 n, .int .i64 v] 32)).heap.size, 0, none⟩) 1 1) 1 (EOq.cs ⟨kind, res, n, v⟩) ((w.alloc (.cells #[.int .i64 kind, .int .i64 res, .int .i64 n, .int .i64 v] 32)).alloc (.cells (EOq.cs ⟨kind, res, n, v⟩).toArray 32)) := (Reads.new _ (EOq.cs ⟨kind, res, n, v⟩) 32 1 1 (Nat.le_refl _)).src Tryd.underlying22 rfl (EOq.cs_one ⟨kind, res, n, v⟩)
  have ez : (w.alloc (.cells #[.int .i64 kind, .int .i64 res, .int .i64 n, .int .i64 v] 32)).heap.size = w.heap.size + 1 := by simp [World.alloc_eq]
  rw [ez] at hsrc
  have HS := Lib.hid hsrc
  clear ez
  clear hX nn hY nn2 hc0 hr2 hc2 hT hc hr hsrc
  go_enter Tryd.func48, Tryd.ntmps48
  go_wp2_with (at_builtin; refine wpList_append_row rfl (.tmp 3) (.tmp 5) 22 22 rfl 32 _ 4 32 Tryd.underlying22 EOq.info rfl rfl HR2.out rfl HS.out (by unfold maxLen; omega) (by omega) ?_)
  intro v' w' ow' hrow' ht'
  obtain ⟨A', c', rfl, hnc'⟩ := hrow'.slice
  have hcc := HC2.out.keep ht' (by simp)
  have e0 := hcc.get0
  have f0 := hcc.free 0
  have lg' := hcc.lt
  have TT := (HT.out.trans (ht'.up (by simp))).setCell (.slice A' (l.length + 1) c') (hcc.under0 (by simp))
  have hcc' := hcc.set0 (.slice A' (l.length + 1) c')
  have hrr := hrow'.keep (hcc.turn 0 (.slice A' (l.length + 1) c') (by simp)) (by simp)
  simp only [Nat.zero_add] at hrr
  have HH := Lib.hid (And.intro TT (And.intro hcc' hrr))
  clear TT hcc' hrr HT HC2 HR2 HS hrow' ht' hcc
  go_wp2
  go_end0
  obtain ⟨TT, hcc', hrr⟩ := HH.out
  refine ⟨_, rfl, ⟨_, hcc', ?_⟩, TT⟩
  rw [EOq.css_snoc, List.length_append]
  exact hrr
set_option maxRecDepth 100000 in
set_option maxHeartbeats 1000000 in
theorem step_over (w : World) (ow : Ow) (g : Nat) (pv : Value) (over : Bool) (ev tv : Value) (told : Option (List Op4)) (o : Op4) (h : WS w ow g pv 4096 over ev tv told) :
    Calls Tryd.prog 63 #[.pointer (some ⟨g, 0, none⟩), .agg #[.int .i64 o.kind, .int .i64 o.res, .int .i64 o.n, .int .i64 o.v]] w fun e w' => ∃ OW, e = .returned (.bool false) ∧ WS w' OW g pv 4096 true ev tv told ∧ Turn [1, 2] w ow w' OW := by
  obtain ⟨kind, res, n, v⟩ := o
  obtain ⟨ow1, hX, nn, -⟩ := SH.add_cells w ow [1, 2, 1, 2] [.int .i64 kind, .int .i64 res, .int .i64 n, .int .i64 v] 32
  have h1 := h.new_ nn
  obtain ⟨hc, ht⟩ := h1
  have c1 := hc.get 1 rfl
  have c2 := hc.get 2 rfl
  have f2 := hc.free 2
  have lg := hc.lt
  have tk := hc.turn 2 (.bool true) (by simp)
  have hc' := hc.set 2 (.bool true) (by simp)
  have ht' := ht.keep tk (by simp) (by simp)
  have TT := (nn.turn [1, 2]).trans (tk.up (by simp))
  simp only [Nat.zero_add, List.set_cons_zero, List.set_cons_succ] at c1 c2 f2 tk hc' ht' TT
  have HH := Lib.hid (And.intro (show WS _ _ _ _ 4096 true _ _ _ from ⟨hc', ht'⟩) TT)
  clear h hX nn hc ht tk hc' ht' TT
  go_enter Tryd.func63, Tryd.ntmps63
  go_wp2
  go_ret
  exact ⟨_, rfl, HH.out⟩
set_option maxRecDepth 100000 in
set_option maxHeartbeats 1000000 in
theorem step_nil (w : World) (ow : Ow) (g : Nat) (pv : Value) (k : Nat) (over : Bool) (ev tv : Value) (o : Op4) (h : WS w ow g pv k over ev tv none) (hk : k ≠ 4096) (hk2 : k ≤ 4096) :
    Calls Tryd.prog 63 #[.pointer (some ⟨g, 0, none⟩), .agg #[.int .i64 o.kind, .int .i64 o.res, .int .i64 o.n, .int .i64 o.v]] w fun e w' => ∃ OW, e = .returned (.bool true) ∧ WS w' OW g pv (k + 1) over ev tv none ∧ Turn [1, 2] w ow w' OW := by
  obtain ⟨kind, res, n, v⟩ := o
  obtain ⟨ow1, hX, nn, -⟩ := SH.add_cells w ow [1, 2, 1, 2] [.int .i64 kind, .int .i64 res, .int .i64 n, .int .i64 v] 32
  have h1 := h.new_ nn
  obtain ⟨hc, ht⟩ := h1
  have htv : tv = .nilFunc := ht
  subst htv
  have c1 := hc.get 1 rfl
  have c4 := hc.get 4 rfl
  have f1 := hc.free 1
  have lg := hc.lt
  have tk := hc.turn 1 (.int .i64 ((k : Int) + 1)) (by simp)
  have hc' := hc.set 1 (.int .i64 ((k : Int) + 1)) (by simp)
  have TT := (nn.turn [1, 2]).trans (tk.up (by simp))
  simp only [Nat.zero_add, List.set_cons_zero, List.set_cons_succ] at c1 c4 f1 tk hc' TT
  have HH := Lib.hid (And.intro (show WS _ _ _ _ (k + 1) over _ _ none from ⟨hc', rfl⟩) TT)
  have hfn := fn_ne_nil
  have e1 : ((k : Int) == 4096) = false := beq_eq_false_iff_ne.2 (by omega)
  have hwr : IntKind.i64.wrap ((k : Int) + 1) = (k : Int) + 1 := by rw [IntKind.wrap_i64]; omega
  clear h hX nn hc ht tk hc' TT
  go_enter Tryd.func63, Tryd.ntmps63
  go_wp2
  go_ret
  exact ⟨_, rfl, HH.out⟩
set_option maxRecDepth 100000 in
set_option maxHeartbeats 1000000 in
theorem step_tell (w : World) (ow : Ow) (g : Nat) (pv : Value) (k : Nat) (over : Bool) (ev tv : Value) (l : List Op4) (o : Op4) (h : WS w ow g pv k over ev tv (some l)) (hk : k ≠ 4096) (hk2 : k ≤ 4096) (hn : l.length ≤ 1000000) :
    Calls Tryd.prog 63 #[.pointer (some ⟨g, 0, none⟩), .agg #[.int .i64 o.kind, .int .i64 o.res, .int .i64 o.n, .int .i64 o.v]] w fun e w' => ∃ OW, e = .returned (.bool true) ∧ WS w' OW g pv (k + 1) over ev tv (some (l ++ [o])) ∧ Turn [1, 2] w ow w' OW := by
  obtain ⟨kind, res, n, v⟩ := o
  obtain ⟨ow1, hX, nn, -⟩ := SH.add_cells w ow [1, 2, 2] [.int .i64 kind, .int .i64 res, .int .i64 n, .int .i64 v] 32
  have h1 := h.new_ nn
  obtain ⟨hc, ht⟩ := h1
  obtain ⟨G, rfl, htl⟩ := ht
  have c1 := hc.get 1 rfl
  have f1 := hc.free 1
  have lg := hc.lt
  have tk := hc.turn 1 (.int .i64 ((k : Int) + 1)) (by simp)
  have hc' := hc.set 1 (.int .i64 ((k : Int) + 1)) (by simp)
  have htl' := htl.keep tk (by simp) (by simp)
  have hX' := hX.keep tk (by simp)
  have TT := (nn.turn [1, 2]).trans (tk.up (by simp))
  simp only [Nat.zero_add, List.set_cons_zero, List.set_cons_succ] at c1 f1 tk hc' TT hX' htl'
  have c4 := hc'.get 4 rfl
  simp only [Nat.zero_add] at c4
  have HH := Lib.hid (And.intro hc' (And.intro htl' (And.intro hX' TT)))
  have e1 : ((k : Int) == 4096) = false := beq_eq_false_iff_ne.2 (by omega)
  have hwr : IntKind.i64.wrap ((k : Int) + 1) = (k : Int) + 1 := by rw [IntKind.wrap_i64]; omega
  have hfn := fn_ne_fn (.func 48) #[] #[.pointer (some ⟨G, 0, none⟩)]
  clear h nn hc tk hc' TT htl htl' hX hX'
  have c4' := c4
  go_enter Tryd.func63, Tryd.ntmps63
  go_wp2_with fail
  obtain ⟨hc, htl, hX, TT⟩ := HH.out
  generalize (w.alloc (.cells #[.int .i64 kind, .int .i64 res, .int .i64 n, .int .i64 v] 32)).setCell ⟨g, 1, none⟩ (.int .i64 ((k : Int) + 1)) = w2 at *
  generalize w.heap.size = ob at *
  clear HH c4' c1 f1 lg
  have n1 : New w2 ow1 w2.drew ow1 := (New.refl _ _).drew
  replace hc := hc.new_ n1
  replace hX := hX.new_ n1
  replace htl : TLc w2.drew ow1 G l := by obtain ⟨vs, a, b⟩ := htl; exact ⟨vs, a.new_ n1, b.new_ n1⟩
  replace TT := TT.trans (n1.turn [1, 2])
  clear n1 c4
  refine plain_regionN (fun W' : World => W'.cell? ⟨g, 4, none⟩ = some (.func (.func 48) #[] #[.pointer (some ⟨G, 0, none⟩)]) ∧ W'.cell? ⟨ob, 0, none⟩ = some (.int .i64 kind) ∧ W'.cell? ⟨ob, 1, none⟩ = some (.int .i64 res) ∧ W'.cell? ⟨ob, 2, none⟩ = some (.int .i64 n) ∧ W'.cell? ⟨ob, 3, none⟩ = some (.int .i64 v)) [] (by kernel_rfl) ?_
  have hS : (fun W' : World => W'.cell? ⟨g, 4, none⟩ = some (.func (.func 48) #[] #[.pointer (some ⟨G, 0, none⟩)]) ∧ W'.cell? ⟨ob, 0, none⟩ = some (.int .i64 kind) ∧ W'.cell? ⟨ob, 1, none⟩ = some (.int .i64 res) ∧ W'.cell? ⟨ob, 2, none⟩ = some (.int .i64 n) ∧ W'.cell? ⟨ob, 3, none⟩ = some (.int .i64 v)) w2.drew := ⟨by have := hc.get 4 rfl; simpa only [Nat.zero_add] using this, hX.get 0 rfl, hX.get 1 rfl, hX.get 2 rfl, hX.get 3 rfl⟩
  generalize w2.drew = w3 at *
  refine anyX_takeNL 0 (v := ?_) rfl rfl (by as_aux_lemma => kernel_rfl) (by as_aux_lemma => kernel_rfl) (by as_aux_lemma => kernel_rfl) (by as_aux_lemma => kernel_rfl) (by as_aux_lemma => kernel_rfl) (fun _ _ _ h => h) rfl ?_ hS ?_
  rotate_left
  · intro W' hW'
    obtain ⟨s0, s1, s2, s3, s4⟩ := hW'
    all_goals (go_simp; first | done | rfl)
  intro l' hl
  dsimp only [List.set_cons_succ, List.set_cons_zero] at hl
  subst hl
  refine anyX_takeNL 1 (v := ?_) rfl rfl (by as_aux_lemma => kernel_rfl) (by as_aux_lemma => kernel_rfl) (by as_aux_lemma => kernel_rfl) (by as_aux_lemma => kernel_rfl) (by as_aux_lemma => kernel_rfl) (fun _ _ _ h => h) rfl ?_ hS ?_
  rotate_left
  · intro W' hW'
    obtain ⟨s0, s1, s2, s3, s4⟩ := hW'
    all_goals (go_simp; first | done | rfl)
  intro l' hl
  dsimp only [List.set_cons_succ, List.set_cons_zero] at hl
  subst hl
  refine anyX_takeNL 2 (v := ?_) rfl rfl (by as_aux_lemma => kernel_rfl) (by as_aux_lemma => kernel_rfl) (by as_aux_lemma => kernel_rfl) (by as_aux_lemma => kernel_rfl) (by as_aux_lemma => kernel_rfl) (fun _ _ _ h => h) rfl ?_ hS ?_
  rotate_left
  · intro W' hW'
    obtain ⟨s0, s1, s2, s3, s4⟩ := hW'
    all_goals (go_simp; first | done | rfl)
  intro l' hl
  dsimp only [List.set_cons_succ, List.set_cons_zero] at hl
  subst hl
  refine anyX_takeNL 3 (v := ?_) rfl rfl (by as_aux_lemma => kernel_rfl) (by as_aux_lemma => kernel_rfl) (by as_aux_lemma => kernel_rfl) (by as_aux_lemma => kernel_rfl) (by as_aux_lemma => kernel_rfl) (fun _ _ _ h => h) rfl ?_ hS ?_
  rotate_left
  · intro W' hW'
    obtain ⟨s0, s1, s2, s3, s4⟩ := hW'
    all_goals (go_simp; first | done | rfl)
  intro l' hl
  dsimp only [List.set_cons_succ, List.set_cons_zero] at hl
  subst hl
  refine anyX_takeNL 4 (v := ?_) rfl rfl (by as_aux_lemma => kernel_rfl) (by as_aux_lemma => kernel_rfl) (by as_aux_lemma => kernel_rfl) (by as_aux_lemma => kernel_rfl) (by as_aux_lemma => kernel_rfl) (fun _ _ _ h => h) rfl ?_ hS ?_
  rotate_left
  · intro W' hW'
    obtain ⟨s0, s1, s2, s3, s4⟩ := hW'
    all_goals (go_simp; first | done | rfl)
  intro l' hl
  dsimp only [List.set_cons_succ, List.set_cons_zero] at hl
  subst hl
  refine anyX_one (i := 5) (by kernel_rfl) rfl rfl fun K' hK' => ?_
  unfold Oper.wp
  go_simp
  refine (tell1 w3 ow1 G l ⟨kind, res, n, v⟩ htl hn).mono ?_
  rintro e w4 ⟨OW, rfl, htl4, t4⟩
  have hc4 := hc.keep t4 (by simp)
  have hX4 := hX.keep t4 (by simp)
  have TT4 := TT.trans (t4.up (by simp))
  have hS4 : (fun W' : World => W'.cell? ⟨g, 4, none⟩ = some (.func (.func 48) #[] #[.pointer (some ⟨G, 0, none⟩)]) ∧ W'.cell? ⟨ob, 0, none⟩ = some (.int .i64 kind) ∧ W'.cell? ⟨ob, 1, none⟩ = some (.int .i64 res) ∧ W'.cell? ⟨ob, 2, none⟩ = some (.int .i64 n) ∧ W'.cell? ⟨ob, 3, none⟩ = some (.int .i64 v)) w4 := ⟨by have := hc4.get 4 rfl; simpa only [Nat.zero_add] using this, hX4.get 0 rfl, hX4.get 1 rfl, hX4.get 2 rfl, hX4.get 3 rfl⟩
  refine hK' _ _ (fun _ => hS4) (anyX_done (by kernel_rfl) ?_ _)
  refine NoPanic.normal ?_
  clear hK' K' hS hS4
  have HH := Lib.hid (And.intro (show WS w4 OW g pv (k + 1) over ev _ (some (l ++ [⟨kind, res, n, v⟩])) from ⟨hc4, G, rfl, htl4⟩) TT4)
  clear hc4 hX4 TT4 htl4 t4 hc hX TT htl
  go_wp2
  go_ret
  exact ⟨_, rfl, HH.out⟩
end CD
end Go.Proofs.YtnehiooioodkfaaDoor
