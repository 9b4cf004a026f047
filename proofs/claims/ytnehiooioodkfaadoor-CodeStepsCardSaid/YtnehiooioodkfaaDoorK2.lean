/-
  CODE: the words of the operations.
-/
import Derived.Test.YtnehiooioodkfaaDoorKP
import Derived.Test.YtnehiooioodkfaaDoorBox
import Derived.Laws.Tables
import Derived.Deep.WholeRow
set_option linter.unusedVariables false
set_option linter.unusedSimpArgs false
namespace Go.Proofs.YtnehiooioodkfaaDoor
open Go Go.RowKit
namespace CD
/-- A value is built: which one is said. -/
theorem wpL_build {P : Program} {ops : Array Oper} {rest : List Oper} {o : Oper} {a : Act} {w : World} {Q : Exit → Act → World → Prop} (hg : o.guard = none) (t : TypeId) (parts : Array (Nat × Operand)) (ho : o.op = .build t parts)
    (d : Option Tmp) (hd : o.dst = d) (cells : Array Value) (hf : P.built t (parts.map fun (i, x) => (i, a.eval x)).toList = some cells)
    (h : wpList P ops Q rest (a.put d (.agg cells)) w) : wpList P ops Q (o :: rest) a w := by
  subst hd
  refine wpList_build hg t parts ho (by rw [hf]; rfl) ?_
  rw [hf]
  exact h
/-- An operation is done: what it yields and leaves is said. -/
theorem wpL_run {P : Program} {ops : Array Oper} {rest : List Oper} {o : Oper} {a : Act} {w : World} {Q : Exit → Act → World → Prop} (hg : o.guard = none) (d : Option Tmp) (hd : o.dst = d)
    (v : Value) (w' : World) (hrun : (execOp a.eval o).run P w = .ok (.value v) w') (h : wpList P ops Q rest (a.put d v) w') : wpList P ops Q (o :: rest) a w := by
  subst hd
  refine wpList_plain hg fun K hK => ?_
  unfold Oper.wp
  rw [hrun, Oper.upon_value]
  exact hK _ _ h
theorem wpK_frame {P : Program} {c : Code} {Q : Exit → Act → World → Prop} {a a' : Act} {w : World} (h : a = a') (k : Code.wp P c Q a' w) : Code.wp P c Q a w := h ▸ k
/-- The table's cells, and the empty ones. -/
def rowsL : List Value := [.string ⟨#[]⟩, .int .i64 0, .string ⟨#[108, 111, 99, 107]⟩, .int .i64 1, .string ⟨#[117, 110, 108, 111, 99, 107]⟩, .int .i64 2, .string ⟨#[112, 117, 115, 104]⟩, .int .i64 3, .string ⟨#[112, 111, 112]⟩, .int .i64 0, .string ⟨#[119, 111, 114, 107]⟩, .int .i64 4, .string ⟨#[108, 111, 97, 100]⟩, .int .i64 2, .string ⟨#[115, 116, 111, 114, 101]⟩, .int .i64 2, .string ⟨#[97, 100, 100]⟩, .int .i64 0, .string ⟨#[102, 105, 110, 105, 115, 104]⟩, .int .i64 0, .string ⟨#[114, 101, 112, 101, 97, 116]⟩, .int .i64 4, .string ⟨#[125]⟩, .int .i64 0]
def rowsA : Array Value := rowsL.toArray
def zsA : Array Value := #[.string ⟨#[]⟩, .int .i64 0, .string ⟨#[]⟩, .int .i64 0, .string ⟨#[]⟩, .int .i64 0, .string ⟨#[]⟩, .int .i64 0, .string ⟨#[]⟩, .int .i64 0, .string ⟨#[]⟩, .int .i64 0, .string ⟨#[]⟩, .int .i64 0, .string ⟨#[]⟩, .int .i64 0, .string ⟨#[]⟩, .int .i64 0, .string ⟨#[]⟩, .int .i64 0, .string ⟨#[]⟩, .int .i64 0, .string ⟨#[]⟩, .int .i64 0]
theorem rowsL_at (n : Nat) (h : 1 ≤ n ∧ n ≤ 11) : rowsL[n * 2]? = some (.string (wordOf n)) ∧ rowsL[n * 2 + 1]? = some (.int .i64 (hasOf n)) := by
  have c : n = 1 ∨ n = 2 ∨ n = 3 ∨ n = 4 ∨ n = 5 ∨ n = 6 ∨ n = 7 ∨ n = 8 ∨ n = 9 ∨ n = 10 ∨ n = 11 := by omega
  rcases c with rfl | rfl | rfl | rfl | rfl | rfl | rfl | rfl | rfl | rfl | rfl <;> exact ⟨rfl, rfl⟩
/-- The table is laid. -/
def laid (w : World) (W : World) : Prop := Below w.heap.size w W ∧ W.heap.size = w.heap.size + 2 ∧ (∃ OW : Ow, Cells W OW [1] w.heap.size 0 [.string ⟨#[]⟩, .int .i64 0] ∧ Cells W OW [2] (w.heap.size + 1) 0 rowsL)
theorem laid_new (w : World) : laid w ((w.alloc (.cells #[.string ⟨#[]⟩, .int .i64 0] 82)).alloc (.cells rowsA 113)) := by
  have e : (w.alloc (.cells #[.string ⟨#[]⟩, .int .i64 0] 82)).heap.size = w.heap.size + 1 := by simp [World.alloc_eq]
  have c1 := Cells.new w ow0 [1] [.string ⟨#[]⟩, .int .i64 0] 82
  have n1 : New w ow0 (w.alloc (.cells #[.string ⟨#[]⟩, .int .i64 0] 82)) _ := (New.refl w ow0).alloc (.cells #[.string ⟨#[]⟩, .int .i64 0] 82) [1]
  have c1' := c1.alloc (.cells rowsA 113) [2]
  have n2 := n1.alloc (.cells rowsA 113) [2]
  have c2 := Cells.new (w.alloc (.cells #[.string ⟨#[]⟩, .int .i64 0] 82)) (ow0.set w.heap.size [1]) [2] rowsL 113
  rw [e] at c2 c1' n2
  exact ⟨n2.below, by simp [World.alloc_eq], _, c1', c2⟩
set_option maxRecDepth 100000 in
set_option maxHeartbeats 1000000 in
theorem rowOf (w : World) (k : Int) : Calls Tryd.prog 43 #[.int .i64 k] w fun e w' => e = .returned (.tuple #[.agg #[.string (wordOf k), .int .i64 (hasOf k)], .bool (kindB k)]) ∧ Below w.heap.size w w' := by
  have hk : (k < 1 ∨ 11 < k) ∨ (∃ n : Nat, k = n ∧ 1 ≤ n ∧ n ≤ 11) := by
    by_cases h : 1 ≤ k ∧ k ≤ 11
    · exact .inr ⟨k.toNat, by omega, by omega, by omega⟩
    · exact .inl (by omega)
  rcases hk with hk | ⟨n, rfl, hn1, hn2⟩
  · have e1 : wordOf k = ⟨#[]⟩ := by unfold wordOf; rw [if_neg (by omega)]
    have e2 : hasOf k = 0 := by unfold hasOf; rw [if_neg (by omega)]
    have e3 : kindB k = false := by unfold kindB; exact decide_eq_false (by omega)
    rw [e1, e2, e3]
    clear e1 e2 e3
    rcases hk with hk | hk
    · as_aux_lemma =>
        go_enter Tryd.func43, Tryd.ntmps43
        go_step
        go_step
        go_step
        go_step
        go_step
        go_step
        go_step
        go_step
        go_step
        go_step
        go_step
        go_step
        obtain ⟨w1, hw1⟩ : ∃ w1, w1 = w.alloc (.cells #[.string ⟨#[]⟩, .int .i64 0] 82) := ⟨_, rfl⟩
        rw [← hw1]
        have HL := Lib.hid (hw1 ▸ laid_new w)
        have hs1 : w1.heap.size = w.heap.size + 1 := by rw [hw1]; simp [World.alloc_eq]
        clear hw1
        go_step
        go_step
        refine wpL_build rfl 82 _ rfl (some 5) rfl #[.string ⟨#[108, 111, 99, 107]⟩, .int .i64 1] (by as_aux_lemma => kernel_rfl) ?_
        refine wpL_build rfl 82 _ rfl (some 6) rfl #[.string ⟨#[117, 110, 108, 111, 99, 107]⟩, .int .i64 2] (by as_aux_lemma => kernel_rfl) ?_
        refine wpL_build rfl 82 _ rfl (some 7) rfl #[.string ⟨#[112, 117, 115, 104]⟩, .int .i64 3] (by as_aux_lemma => kernel_rfl) ?_
        refine wpL_build rfl 82 _ rfl (some 8) rfl #[.string ⟨#[112, 111, 112]⟩, .int .i64 0] (by as_aux_lemma => kernel_rfl) ?_
        refine wpL_build rfl 82 _ rfl (some 9) rfl #[.string ⟨#[119, 111, 114, 107]⟩, .int .i64 4] (by as_aux_lemma => kernel_rfl) ?_
        refine wpL_build rfl 82 _ rfl (some 10) rfl #[.string ⟨#[108, 111, 97, 100]⟩, .int .i64 2] (by as_aux_lemma => kernel_rfl) ?_
        refine wpL_build rfl 82 _ rfl (some 11) rfl #[.string ⟨#[115, 116, 111, 114, 101]⟩, .int .i64 2] (by as_aux_lemma => kernel_rfl) ?_
        refine wpL_build rfl 82 _ rfl (some 12) rfl #[.string ⟨#[97, 100, 100]⟩, .int .i64 0] (by as_aux_lemma => kernel_rfl) ?_
        refine wpL_build rfl 82 _ rfl (some 13) rfl #[.string ⟨#[102, 105, 110, 105, 115, 104]⟩, .int .i64 0] (by as_aux_lemma => kernel_rfl) ?_
        refine wpL_build rfl 82 _ rfl (some 14) rfl #[.string ⟨#[114, 101, 112, 101, 97, 116]⟩, .int .i64 4] (by as_aux_lemma => kernel_rfl) ?_
        refine wpL_build rfl 82 _ rfl (some 15) rfl #[.string ⟨#[125]⟩, .int .i64 0] (by as_aux_lemma => kernel_rfl) ?_
        refine wpL_build rfl 113 _ rfl (some 16) rfl rowsA (by as_aux_lemma => kernel_rfl) ?_
        refine wpL_run rfl (some 4) rfl (.pointer (some ⟨w1.heap.size, 0, none⟩)) (w1.alloc (.cells zsA 113)) (by as_aux_lemma => kernel_rfl) ?_
        refine wpList_store_row rfl 113 (.tmp 4) (.tmp 16) rfl w1.heap.size rowsA (by as_aux_lemma => kernel_rfl) (by as_aux_lemma => kernel_rfl) 113 zsA (heap_alloc_last _ _) (by as_aux_lemma => kernel_rfl) rfl (by as_aux_lemma => kernel_rfl) ?_
        rw [World.setRow_alloc_new]
        rw [hs1] at *
        go_step
        rename_i hK_
        refine hK_ _ _ ?_
        obtain ⟨bd, hsz, OW, c1, c2⟩ := HL.out
        clear HL
        generalize w1.alloc (.cells rowsA 113) = W at *
        clear hs1
        refine wpK_frame (a' := ⟨#[.int .i64 k, undef, .pointer (some ⟨w.heap.size, 0, none⟩), .bool false, .pointer (some ⟨w.heap.size + 1, 0, none⟩), .agg #[.string ⟨#[108, 111, 99, 107]⟩, .int .i64 1], .agg #[.string ⟨#[117, 110, 108, 111, 99, 107]⟩, .int .i64 2], .agg #[.string ⟨#[112, 117, 115, 104]⟩, .int .i64 3], .agg #[.string ⟨#[112, 111, 112]⟩, .int .i64 0], .agg #[.string ⟨#[119, 111, 114, 107]⟩, .int .i64 4], .agg #[.string ⟨#[108, 111, 97, 100]⟩, .int .i64 2], .agg #[.string ⟨#[115, 116, 111, 114, 101]⟩, .int .i64 2], .agg #[.string ⟨#[97, 100, 100]⟩, .int .i64 0], .agg #[.string ⟨#[102, 105, 110, 105, 115, 104]⟩, .int .i64 0], .agg #[.string ⟨#[114, 101, 112, 101, 97, 116]⟩, .int .i64 4], .agg #[.string ⟨#[125]⟩, .int .i64 0], .agg rowsA, undef, undef, undef, undef, undef, undef, undef, undef, undef, undef], []⟩) (by as_aux_lemma => kernel_rfl) ?_
        generalize Value.agg #[.string ⟨#[108, 111, 99, 107]⟩, .int .i64 1] = x5
        generalize Value.agg #[.string ⟨#[117, 110, 108, 111, 99, 107]⟩, .int .i64 2] = x6
        generalize Value.agg #[.string ⟨#[112, 117, 115, 104]⟩, .int .i64 3] = x7
        generalize Value.agg #[.string ⟨#[112, 111, 112]⟩, .int .i64 0] = x8
        generalize Value.agg #[.string ⟨#[119, 111, 114, 107]⟩, .int .i64 4] = x9
        generalize Value.agg #[.string ⟨#[108, 111, 97, 100]⟩, .int .i64 2] = x10
        generalize Value.agg #[.string ⟨#[115, 116, 111, 114, 101]⟩, .int .i64 2] = x11
        generalize Value.agg #[.string ⟨#[97, 100, 100]⟩, .int .i64 0] = x12
        generalize Value.agg #[.string ⟨#[102, 105, 110, 105, 115, 104]⟩, .int .i64 0] = x13
        generalize Value.agg #[.string ⟨#[114, 101, 112, 101, 97, 116]⟩, .int .i64 4] = x14
        generalize Value.agg #[.string ⟨#[125]⟩, .int .i64 0] = x15
        generalize Value.agg rowsA = x16
        have d1 := (c1.set 0 (.string ⟨#[]⟩) (by simp)).set 1 (.int .i64 0) (by simp)
        simp only [Nat.zero_add, List.set_cons_zero, List.set_cons_succ] at d1
        have z0 := d1.get 0 rfl
        have z1 := d1.get 1 rfl
        have zl := d1.lt
        have a0 := c1.get 0 rfl
        have a1 := c1.get 1 rfl
        have f0 := c1.free 0
        have f1 := c1.free 1
        have lg := c1.lt
        simp only [Nat.zero_add] at a0 a1 z0 z1
        have fin := bdS (p := ⟨w.heap.size, 1, none⟩) (Nat.le_refl _) (bdS (p := ⟨w.heap.size, 0, none⟩) (Nat.le_refl _) bd (.string ⟨#[]⟩)) (.int .i64 0)
        have Fin := Lib.hid fin
        clear c1 c2 d1 bd fin hsz
        go_wp2
        refine bodyPost_ret (v := .tuple #[.agg #[.string ⟨#[]⟩, .int .i64 0], .bool false]) (by simp [results, Tryd.results43, go_sem, zl, z0, z1]) rfl ⟨rfl, Fin.out⟩
    · have hk1 : ¬ k < 1 := by omega
      as_aux_lemma =>
        go_enter Tryd.func43, Tryd.ntmps43
        go_step
        go_step
        go_step
        go_step
        go_step
        go_step
        go_step
        go_step
        go_step
        go_step
        go_step
        go_step
        obtain ⟨w1, hw1⟩ : ∃ w1, w1 = w.alloc (.cells #[.string ⟨#[]⟩, .int .i64 0] 82) := ⟨_, rfl⟩
        rw [← hw1]
        have HL := Lib.hid (hw1 ▸ laid_new w)
        have hs1 : w1.heap.size = w.heap.size + 1 := by rw [hw1]; simp [World.alloc_eq]
        clear hw1
        go_step
        go_step
        refine wpL_build rfl 82 _ rfl (some 5) rfl #[.string ⟨#[108, 111, 99, 107]⟩, .int .i64 1] (by as_aux_lemma => kernel_rfl) ?_
        refine wpL_build rfl 82 _ rfl (some 6) rfl #[.string ⟨#[117, 110, 108, 111, 99, 107]⟩, .int .i64 2] (by as_aux_lemma => kernel_rfl) ?_
        refine wpL_build rfl 82 _ rfl (some 7) rfl #[.string ⟨#[112, 117, 115, 104]⟩, .int .i64 3] (by as_aux_lemma => kernel_rfl) ?_
        refine wpL_build rfl 82 _ rfl (some 8) rfl #[.string ⟨#[112, 111, 112]⟩, .int .i64 0] (by as_aux_lemma => kernel_rfl) ?_
        refine wpL_build rfl 82 _ rfl (some 9) rfl #[.string ⟨#[119, 111, 114, 107]⟩, .int .i64 4] (by as_aux_lemma => kernel_rfl) ?_
        refine wpL_build rfl 82 _ rfl (some 10) rfl #[.string ⟨#[108, 111, 97, 100]⟩, .int .i64 2] (by as_aux_lemma => kernel_rfl) ?_
        refine wpL_build rfl 82 _ rfl (some 11) rfl #[.string ⟨#[115, 116, 111, 114, 101]⟩, .int .i64 2] (by as_aux_lemma => kernel_rfl) ?_
        refine wpL_build rfl 82 _ rfl (some 12) rfl #[.string ⟨#[97, 100, 100]⟩, .int .i64 0] (by as_aux_lemma => kernel_rfl) ?_
        refine wpL_build rfl 82 _ rfl (some 13) rfl #[.string ⟨#[102, 105, 110, 105, 115, 104]⟩, .int .i64 0] (by as_aux_lemma => kernel_rfl) ?_
        refine wpL_build rfl 82 _ rfl (some 14) rfl #[.string ⟨#[114, 101, 112, 101, 97, 116]⟩, .int .i64 4] (by as_aux_lemma => kernel_rfl) ?_
        refine wpL_build rfl 82 _ rfl (some 15) rfl #[.string ⟨#[125]⟩, .int .i64 0] (by as_aux_lemma => kernel_rfl) ?_
        refine wpL_build rfl 113 _ rfl (some 16) rfl rowsA (by as_aux_lemma => kernel_rfl) ?_
        refine wpL_run rfl (some 4) rfl (.pointer (some ⟨w1.heap.size, 0, none⟩)) (w1.alloc (.cells zsA 113)) (by as_aux_lemma => kernel_rfl) ?_
        refine wpList_store_row rfl 113 (.tmp 4) (.tmp 16) rfl w1.heap.size rowsA (by as_aux_lemma => kernel_rfl) (by as_aux_lemma => kernel_rfl) 113 zsA (heap_alloc_last _ _) (by as_aux_lemma => kernel_rfl) rfl (by as_aux_lemma => kernel_rfl) ?_
        rw [World.setRow_alloc_new]
        rw [hs1] at *
        go_step
        rename_i hK_
        refine hK_ _ _ ?_
        obtain ⟨bd, hsz, OW, c1, c2⟩ := HL.out
        clear HL
        generalize w1.alloc (.cells rowsA 113) = W at *
        clear hs1
        refine wpK_frame (a' := ⟨#[.int .i64 k, undef, .pointer (some ⟨w.heap.size, 0, none⟩), .bool false, .pointer (some ⟨w.heap.size + 1, 0, none⟩), .agg #[.string ⟨#[108, 111, 99, 107]⟩, .int .i64 1], .agg #[.string ⟨#[117, 110, 108, 111, 99, 107]⟩, .int .i64 2], .agg #[.string ⟨#[112, 117, 115, 104]⟩, .int .i64 3], .agg #[.string ⟨#[112, 111, 112]⟩, .int .i64 0], .agg #[.string ⟨#[119, 111, 114, 107]⟩, .int .i64 4], .agg #[.string ⟨#[108, 111, 97, 100]⟩, .int .i64 2], .agg #[.string ⟨#[115, 116, 111, 114, 101]⟩, .int .i64 2], .agg #[.string ⟨#[97, 100, 100]⟩, .int .i64 0], .agg #[.string ⟨#[102, 105, 110, 105, 115, 104]⟩, .int .i64 0], .agg #[.string ⟨#[114, 101, 112, 101, 97, 116]⟩, .int .i64 4], .agg #[.string ⟨#[125]⟩, .int .i64 0], .agg rowsA, undef, undef, undef, undef, undef, undef, undef, undef, undef, undef], []⟩) (by as_aux_lemma => kernel_rfl) ?_
        generalize Value.agg #[.string ⟨#[108, 111, 99, 107]⟩, .int .i64 1] = x5
        generalize Value.agg #[.string ⟨#[117, 110, 108, 111, 99, 107]⟩, .int .i64 2] = x6
        generalize Value.agg #[.string ⟨#[112, 117, 115, 104]⟩, .int .i64 3] = x7
        generalize Value.agg #[.string ⟨#[112, 111, 112]⟩, .int .i64 0] = x8
        generalize Value.agg #[.string ⟨#[119, 111, 114, 107]⟩, .int .i64 4] = x9
        generalize Value.agg #[.string ⟨#[108, 111, 97, 100]⟩, .int .i64 2] = x10
        generalize Value.agg #[.string ⟨#[115, 116, 111, 114, 101]⟩, .int .i64 2] = x11
        generalize Value.agg #[.string ⟨#[97, 100, 100]⟩, .int .i64 0] = x12
        generalize Value.agg #[.string ⟨#[102, 105, 110, 105, 115, 104]⟩, .int .i64 0] = x13
        generalize Value.agg #[.string ⟨#[114, 101, 112, 101, 97, 116]⟩, .int .i64 4] = x14
        generalize Value.agg #[.string ⟨#[125]⟩, .int .i64 0] = x15
        generalize Value.agg rowsA = x16
        have d1 := (c1.set 0 (.string ⟨#[]⟩) (by simp)).set 1 (.int .i64 0) (by simp)
        simp only [Nat.zero_add, List.set_cons_zero, List.set_cons_succ] at d1
        have z0 := d1.get 0 rfl
        have z1 := d1.get 1 rfl
        have zl := d1.lt
        have a0 := c1.get 0 rfl
        have a1 := c1.get 1 rfl
        have f0 := c1.free 0
        have f1 := c1.free 1
        have lg := c1.lt
        simp only [Nat.zero_add] at a0 a1 z0 z1
        have fin := bdS (p := ⟨w.heap.size, 1, none⟩) (Nat.le_refl _) (bdS (p := ⟨w.heap.size, 0, none⟩) (Nat.le_refl _) bd (.string ⟨#[]⟩)) (.int .i64 0)
        have Fin := Lib.hid fin
        clear c1 c2 d1 bd fin hsz
        go_wp2
        refine bodyPost_ret (v := .tuple #[.agg #[.string ⟨#[]⟩, .int .i64 0], .bool false]) (by simp [results, Tryd.results43, go_sem, zl, z0, z1]) rfl ⟨rfl, Fin.out⟩
  · have e3 : kindB n = true := by unfold kindB; exact decide_eq_true (by omega)
    rw [e3]
    clear e3
    as_aux_lemma =>
      go_enter Tryd.func43, Tryd.ntmps43
      go_step
      go_step
      go_step
      go_step
      go_step
      go_step
      go_step
      go_step
      go_step
      go_step
      go_step
      go_step
      obtain ⟨w1, hw1⟩ : ∃ w1, w1 = w.alloc (.cells #[.string ⟨#[]⟩, .int .i64 0] 82) := ⟨_, rfl⟩
      rw [← hw1]
      have HL := Lib.hid (hw1 ▸ laid_new w)
      have hs1 : w1.heap.size = w.heap.size + 1 := by rw [hw1]; simp [World.alloc_eq]
      clear hw1
      go_step
      go_step
      refine wpL_build rfl 82 _ rfl (some 5) rfl #[.string ⟨#[108, 111, 99, 107]⟩, .int .i64 1] (by as_aux_lemma => kernel_rfl) ?_
      refine wpL_build rfl 82 _ rfl (some 6) rfl #[.string ⟨#[117, 110, 108, 111, 99, 107]⟩, .int .i64 2] (by as_aux_lemma => kernel_rfl) ?_
      refine wpL_build rfl 82 _ rfl (some 7) rfl #[.string ⟨#[112, 117, 115, 104]⟩, .int .i64 3] (by as_aux_lemma => kernel_rfl) ?_
      refine wpL_build rfl 82 _ rfl (some 8) rfl #[.string ⟨#[112, 111, 112]⟩, .int .i64 0] (by as_aux_lemma => kernel_rfl) ?_
      refine wpL_build rfl 82 _ rfl (some 9) rfl #[.string ⟨#[119, 111, 114, 107]⟩, .int .i64 4] (by as_aux_lemma => kernel_rfl) ?_
      refine wpL_build rfl 82 _ rfl (some 10) rfl #[.string ⟨#[108, 111, 97, 100]⟩, .int .i64 2] (by as_aux_lemma => kernel_rfl) ?_
      refine wpL_build rfl 82 _ rfl (some 11) rfl #[.string ⟨#[115, 116, 111, 114, 101]⟩, .int .i64 2] (by as_aux_lemma => kernel_rfl) ?_
      refine wpL_build rfl 82 _ rfl (some 12) rfl #[.string ⟨#[97, 100, 100]⟩, .int .i64 0] (by as_aux_lemma => kernel_rfl) ?_
      refine wpL_build rfl 82 _ rfl (some 13) rfl #[.string ⟨#[102, 105, 110, 105, 115, 104]⟩, .int .i64 0] (by as_aux_lemma => kernel_rfl) ?_
      refine wpL_build rfl 82 _ rfl (some 14) rfl #[.string ⟨#[114, 101, 112, 101, 97, 116]⟩, .int .i64 4] (by as_aux_lemma => kernel_rfl) ?_
      refine wpL_build rfl 82 _ rfl (some 15) rfl #[.string ⟨#[125]⟩, .int .i64 0] (by as_aux_lemma => kernel_rfl) ?_
      refine wpL_build rfl 113 _ rfl (some 16) rfl rowsA (by as_aux_lemma => kernel_rfl) ?_
      refine wpL_run rfl (some 4) rfl (.pointer (some ⟨w1.heap.size, 0, none⟩)) (w1.alloc (.cells zsA 113)) (by as_aux_lemma => kernel_rfl) ?_
      refine wpList_store_row rfl 113 (.tmp 4) (.tmp 16) rfl w1.heap.size rowsA (by as_aux_lemma => kernel_rfl) (by as_aux_lemma => kernel_rfl) 113 zsA (heap_alloc_last _ _) (by as_aux_lemma => kernel_rfl) rfl (by as_aux_lemma => kernel_rfl) ?_
      rw [World.setRow_alloc_new]
      rw [hs1] at *
      go_step
      rename_i hK_
      refine hK_ _ _ ?_
      obtain ⟨bd, hsz, OW, c1, c2⟩ := HL.out
      clear HL
      generalize w1.alloc (.cells rowsA 113) = W at *
      clear hs1
      refine wpK_frame (a' := ⟨#[.int .i64 (n : Int), undef, .pointer (some ⟨w.heap.size, 0, none⟩), .bool false, .pointer (some ⟨w.heap.size + 1, 0, none⟩), .agg #[.string ⟨#[108, 111, 99, 107]⟩, .int .i64 1], .agg #[.string ⟨#[117, 110, 108, 111, 99, 107]⟩, .int .i64 2], .agg #[.string ⟨#[112, 117, 115, 104]⟩, .int .i64 3], .agg #[.string ⟨#[112, 111, 112]⟩, .int .i64 0], .agg #[.string ⟨#[119, 111, 114, 107]⟩, .int .i64 4], .agg #[.string ⟨#[108, 111, 97, 100]⟩, .int .i64 2], .agg #[.string ⟨#[115, 116, 111, 114, 101]⟩, .int .i64 2], .agg #[.string ⟨#[97, 100, 100]⟩, .int .i64 0], .agg #[.string ⟨#[102, 105, 110, 105, 115, 104]⟩, .int .i64 0], .agg #[.string ⟨#[114, 101, 112, 101, 97, 116]⟩, .int .i64 4], .agg #[.string ⟨#[125]⟩, .int .i64 0], .agg rowsA, undef, undef, undef, undef, undef, undef, undef, undef, undef, undef], []⟩) (by as_aux_lemma => kernel_rfl) ?_
      generalize Value.agg #[.string ⟨#[108, 111, 99, 107]⟩, .int .i64 1] = x5
      generalize Value.agg #[.string ⟨#[117, 110, 108, 111, 99, 107]⟩, .int .i64 2] = x6
      generalize Value.agg #[.string ⟨#[112, 117, 115, 104]⟩, .int .i64 3] = x7
      generalize Value.agg #[.string ⟨#[112, 111, 112]⟩, .int .i64 0] = x8
      generalize Value.agg #[.string ⟨#[119, 111, 114, 107]⟩, .int .i64 4] = x9
      generalize Value.agg #[.string ⟨#[108, 111, 97, 100]⟩, .int .i64 2] = x10
      generalize Value.agg #[.string ⟨#[115, 116, 111, 114, 101]⟩, .int .i64 2] = x11
      generalize Value.agg #[.string ⟨#[97, 100, 100]⟩, .int .i64 0] = x12
      generalize Value.agg #[.string ⟨#[102, 105, 110, 105, 115, 104]⟩, .int .i64 0] = x13
      generalize Value.agg #[.string ⟨#[114, 101, 112, 101, 97, 116]⟩, .int .i64 4] = x14
      generalize Value.agg #[.string ⟨#[125]⟩, .int .i64 0] = x15
      generalize Value.agg rowsA = x16
      obtain ⟨r0, r1⟩ := rowsL_at n ⟨hn1, hn2⟩
      have e0 := c2.get _ r0
      have e1 := c2.get _ r1
      simp only [Nat.zero_add] at e0 e1
      have i1 : ¬ (n : Int) < 1 := by omega
      have i2 : ¬ (11 : Int) < n := by omega
      have i3 : (n : Int) < 12 := by omega
      clear r0 r1
      have d1 := (c1.set 0 (.string (wordOf n)) (by simp)).set 1 (.int .i64 (hasOf n)) (by simp)
      simp only [Nat.zero_add, List.set_cons_zero, List.set_cons_succ] at d1
      have z0 := d1.get 0 rfl
      have z1 := d1.get 1 rfl
      have zl := d1.lt
      have a0 := c1.get 0 rfl
      have a1 := c1.get 1 rfl
      have f0 := c1.free 0
      have f1 := c1.free 1
      have lg := c1.lt
      simp only [Nat.zero_add] at a0 a1 z0 z1
      have fin := bdS (p := ⟨w.heap.size, 1, none⟩) (Nat.le_refl _) (bdS (p := ⟨w.heap.size, 0, none⟩) (Nat.le_refl _) bd (.string (wordOf n))) (.int .i64 (hasOf n))
      have Fin := Lib.hid fin
      clear c1 c2 d1 bd fin hsz
      go_wp2
      refine bodyPost_ret (v := .tuple #[.agg #[.string (wordOf n), .int .i64 (hasOf n)], .bool true]) (by simp [results, Tryd.results43, go_sem, zl, z0, z1]) rfl ⟨rfl, Fin.out⟩
end CD
end Go.Proofs.YtnehiooioodkfaaDoor
