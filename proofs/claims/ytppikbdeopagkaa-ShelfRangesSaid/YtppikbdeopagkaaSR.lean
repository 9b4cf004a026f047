/-
  LAW 1: ShelfRuns: the closed runs of chapter 1.
-/
import Derived.Test.YtppikbdeopagkaaEIntK
import Derived.Test.YtppikbdeopagkaaEIntR
import Derived.Test.YtppikbdeopagkaaEIntL2
import Derived.Test.YtppikbdeopagkaaEStrL2
import Derived.Test.YtppikbdeopagkaaTNSF
set_option linter.unusedVariables false
set_option linter.unusedSimpArgs false
namespace Go.Proofs.Ytppikbdeopagkaa
open Go Go.RowKit
namespace SH

set_option maxRecDepth 100000 in
set_option maxHeartbeats 4000000 in
theorem ring (w : World) : Calls Try.prog 27 #[] w fun e w' => e = .returned (.bool true) ∧ Below w.heap.size w w' := by
  go_enter Try.func27, Try.ntmps27
  go_wp2_with fail
  refine (EInt.r_new w ow0 [1] 2 (by omega) (by omega)).mono ?_
  rintro e w1 ⟨g, ow1, rfl, h1, n1, -⟩
  have t1 := n1.turn [1]
  go_wp2_with fail
  refine (EInt.r_put_room w1 ow1 [1] g 2 0 [] 1 h1 (by omega) (by simp)).mono ?_
  rintro e w2 ⟨ow2, rfl, h2, t2⟩
  have t2 := t1.trans t2
  go_wp2_with fail
  refine (EInt.r_put_room w2 ow2 [1] g 2 0 _ 2 h2 (by omega) (by simp)).mono ?_
  rintro e w3 ⟨ow3, rfl, h3, t3⟩
  have t3 := t2.trans t3
  go_wp2_with fail
  refine (EInt.r_put_full w3 ow3 [1] g 2 0 1 [2] 3 h3 (by omega) rfl (by omega)).mono ?_
  rintro e w4 ⟨ow4, rfl, h4, t4⟩
  have t4 := t3.trans t4
  go_wp2_with fail
  refine (EInt.r_list w4 ow4 [1] [1, 9] g 2 _ _ h4 (by simp)).mono ?_
  rintro e w5 ⟨v5, ow5, rfl, r5, n5, -⟩
  have h5 := h4.new_ n5
  have t5 := t4.trans (n5.turn [1])
  change Row w5 ow5 [1, 9] _ 1 v5 2 [Value.int .i64 2, Value.int .i64 3] at r5
  obtain ⟨b, off, cap, rfl, -⟩ := r5.at (by omega)
  obtain ⟨-, -, -, hcell⟩ := r5.open_
  have e0 := hcell 0 _ rfl
  have e1 := hcell 1 _ rfl
  rw [Nat.add_zero] at e0
  clear h1 h2 h3 h4 t1 t2 t3 t4 r5 hcell n1 n5
  go_wp2_with fail
  refine (EInt.r_len w5 ow5 [1] g 2 _ _ h5 (by simp)).mono ?_
  rintro e w6 ⟨rfl, k6, rfl⟩
  have h6 := h5.new_ (((Below.refl _ _).nw ow5).drewN k6)
  go_wp2_with fail
  refine (EInt.r_dropped _ ow5 [1] g 2 _ _ h6).mono ?_
  rintro e w7 ⟨rfl, k7, rfl⟩
  have fin := ((t5.drewN (k6 + k7)).new_ ow0 [1]).below
  go_wp2
  go_ret
  exact ⟨rfl, fin⟩

set_option maxRecDepth 100000 in
set_option maxHeartbeats 4000000 in
theorem levels (w : World) : Calls Try.prog 26 #[] w fun e w' => e = .returned (.bool true) ∧ Below w.heap.size w w' := by
  go_enter Try.func26, Try.ntmps26
  go_wp2_with fail
  refine (EStr.l_new w ow0 [1] 3 (by omega) (by omega)).mono ?_
  rintro e w1 ⟨g, ow1, rfl, h1, n1, -⟩
  have t1 := n1.turn [1]
  have h1 : EStr.L w1 ow1 [1] g 0 [[], [], []] := h1
  go_wp2_with fail
  refine (EStr.l_put w1 ow1 [1] g 0 _ 2 1 [] ⟨#[97]⟩ h1 (by simp) rfl rfl (by simp)).mono ?_
  rintro e w2 ⟨ow2, rfl, h2, t2⟩
  have h2 : EStr.L w2 ow2 [1] g 0 [[], [(⟨#[97]⟩ : ByteArray)], []] := h2
  have t2 := t1.trans t2
  clear h1 t1
  go_wp2_with fail
  refine (EStr.l_put w2 ow2 [1] g 0 _ 3 2 [] ⟨#[98]⟩ h2 (by simp) rfl rfl (by simp)).mono ?_
  rintro e w3 ⟨ow3, rfl, h3, t3⟩
  have h3 : EStr.L w3 ow3 [1] g 0 [[], [(⟨#[97]⟩ : ByteArray)], [(⟨#[98]⟩ : ByteArray)]] := h3
  have t3 := t2.trans t3
  clear h2 t2
  go_wp2_with fail
  refine (EStr.l_put w3 ow3 [1] g 0 _ 2 1 [(⟨#[97]⟩ : ByteArray)] ⟨#[99]⟩ h3 (by simp) rfl rfl (by simp)).mono ?_
  rintro e w4 ⟨ow4, rfl, h4, t4⟩
  have h4 : EStr.L w4 ow4 [1] g 0 [[], [(⟨#[97]⟩ : ByteArray), (⟨#[99]⟩ : ByteArray)], [(⟨#[98]⟩ : ByteArray)]] := h4
  have t4 := t3.trans t4
  clear h3 t3
  go_wp2_with fail
  refine (EStr.l_put_out w4 ow4 [1] g 0 _ 4 ⟨#[100]⟩ h4 (by simp) (by simp)).mono ?_
  rintro e w5 ⟨rfl, b5⟩
  have h5 := h4.new_ (b5.nw ow4)
  have t5 := t4.trans ((b5.nw ow4).turn _)
  clear h4 t4
  go_wp2_with fail
  refine (EStr.l_take_some w5 ow4 [1] g 0 _ 2 (⟨#[98]⟩ : ByteArray) [] h5 (by simp) (by simp) (by simp [EStr.hiTo]) rfl).mono ?_
  rintro e w6 ⟨ow6, rfl, h6, t6⟩
  have h6 : EStr.L w6 ow6 [1] g 0 [[], [(⟨#[97]⟩ : ByteArray), (⟨#[99]⟩ : ByteArray)], []] := h6
  have t6 := t5.trans t6
  clear h5 t5
  go_wp2_with fail
  refine (EStr.l_take_some w6 ow6 [1] g 0 _ 1 (⟨#[97]⟩ : ByteArray) [(⟨#[99]⟩ : ByteArray)] h6 (by simp) (by simp) (by simp [EStr.hiTo]) rfl).mono ?_
  rintro e w7 ⟨ow7, rfl, h7, t7⟩
  have h7 : EStr.L w7 ow7 [1] g 0 [[], [(⟨#[99]⟩ : ByteArray)], []] := h7
  have t7 := t6.trans t7
  clear h6 t6
  go_wp2_with fail
  refine (EStr.l_take_some w7 ow7 [1] g 0 _ 1 (⟨#[99]⟩ : ByteArray) [] h7 (by simp) (by simp) (by simp [EStr.hiTo]) rfl).mono ?_
  rintro e w8 ⟨ow8, rfl, h8, t8⟩
  have h8 : EStr.L w8 ow8 [1] g 0 [[], [], []] := h8
  have t8 := t7.trans t8
  clear h7 t7
  go_wp2_with fail
  refine (EStr.l_take_none w8 ow8 [1] g 0 _ h8 (by simp) (by simp) (by simp [EStr.hiTo])).mono ?_
  rintro e w9 ⟨rfl, b9⟩
  have fin := (t8.new_ ow0 [1]).below
  have fin := fin.trans (b9.mono fin.size)
  go_wp2
  go_ret
  exact ⟨rfl, fin⟩

set_option maxRecDepth 100000 in
set_option maxHeartbeats 4000000 in
theorem table (w : World) : Calls Try.prog 28 #[] w fun e w' => e = .returned (.bool true) ∧ Below w.heap.size w w' := by
  go_enter Try.func28, Try.ntmps28
  go_wp2_with fail
  have h1 : TNS.TbP (w.alloc (Obj.cells #[.slice none 0 0] 144)) (ow0.set w.heap.size [1, 0, 0]) [1, 0] w.heap.size 0 [] := TNS.TbP.nil (Cells.new w ow0 [1, 0, 0] [.slice none 0 0] _)
  have t1 := (((New.refl w ow0).alloc (Obj.cells #[.slice none 0 0] 144) [1, 0, 0]).turn [1])
  generalize hG : w.heap.size = g at *
  generalize hO : ow0.set g [1, 0, 0] = ow1 at *
  generalize hW : w.alloc (Obj.cells #[.slice none 0 0] 144) = w1 at *
  clear hO hW
  refine (TNS.t_set_new w1 ow1 [1, 0] g 0 [] 5 ⟨#[97]⟩ 0 h1 (TNS.Pos.of (by simp) (by simp) (by simp)) rfl (by simp)).mono ?_
  rintro e w2 ⟨ow2, rfl, h2, t2⟩
  have h2 : TNS.TbP w2 ow2 [1, 0] g 0 [(5, (⟨#[97]⟩ : ByteArray))] := h2
  have t2 := t1.trans (t2.up (by simp))
  clear h1 t1
  go_wp2_with fail
  refine (TNS.t_set_new w2 ow2 [1, 0] g 0 _ 2 ⟨#[98]⟩ 0 h2 (TNS.Pos.of (by simp) (by simp) (by simp)) rfl (by simp)).mono ?_
  rintro e w3 ⟨ow3, rfl, h3, t3⟩
  have h3 : TNS.TbP w3 ow3 [1, 0] g 0 [(2, (⟨#[98]⟩ : ByteArray)), (5, (⟨#[97]⟩ : ByteArray))] := h3
  have t3 := t2.trans (t3.up (by simp))
  clear h2 t2
  go_wp2_with fail
  refine (TNS.t_set_old w3 ow3 [1, 0] g 0 _ 5 ⟨#[99]⟩ 1 (5, (⟨#[97]⟩ : ByteArray)) h3 (TNS.Pos.of (by simp) (by simp) (by simp)) rfl rfl (by simp)).mono ?_
  rintro e w4 ⟨ow4, rfl, h4, t4⟩
  have h4 : TNS.TbP w4 ow4 [1, 0] g 0 [(2, (⟨#[98]⟩ : ByteArray)), (5, (⟨#[99]⟩ : ByteArray))] := h4
  have t4 := t3.trans (t4.up (by simp))
  clear h3 t3
  go_wp2_with fail
  refine (TNS.t_keys w4 ow4 [1, 0] [1, 9] g 0 _ h4 (by simp)).mono ?_
  rintro e w5 ⟨v5, ow5, rfl, r5, n5, -⟩
  have h5 := h4.new_ n5
  have t5 := t4.trans (n5.turn [1])
  change Row w5 ow5 [1, 9] _ 1 v5 2 [Value.int .i64 2, Value.int .i64 5] at r5
  obtain ⟨A5, c5, rfl, -⟩ := r5.slice
  clear h4 t4 n5
  go_wp2_with fail
  refine (TNS.t_get_yes w5 ow5 [1, 0] g 0 _ 5 1 (5, (⟨#[99]⟩ : ByteArray)) h5 (TNS.Pos.of (by simp) (by simp) (by simp)) rfl rfl (by simp)).mono ?_
  rintro e w6 ⟨rfl, b6⟩
  have h6 := h5.new_ (b6.nw ow5)
  have r6 := r5.new_ (b6.nw ow5)
  have t6 := t5.trans ((b6.nw ow5).turn _)
  clear h5 t5 r5 b6
  go_wp2_with fail
  refine (TNS.t_below w6 ow5 [1, 0] g 0 _ 6 2 h6 (TNS.Pos.of (by simp) (by simp) (by simp)) (by simp)).mono ?_
  rintro e w7 ⟨rfl, b7⟩
  have h7 := h6.new_ (b7.nw ow5)
  have r7 := r6.new_ (b7.nw ow5)
  have t7 := t6.trans ((b7.nw ow5).turn _)
  clear h6 t6 r6 b7
  go_wp2_with fail
  refine (TNS.t_delete_yes w7 ow5 [1, 0] g 0 _ 2 0 (2, (⟨#[98]⟩ : ByteArray)) h7 (TNS.Pos.of (by simp) (by simp) (by simp)) rfl rfl (by simp)).mono ?_
  rintro e w8 ⟨ow8, rfl, h8, t8⟩
  have h8 : TNS.TbP w8 ow8 [1, 0] g 0 [(5, (⟨#[99]⟩ : ByteArray))] := h8
  have r8 := r7.keep t8 (by simp)
  have t8 := t7.trans (t8.up (by simp))
  clear h7 t7 r7
  go_wp2_with fail
  refine (TNS.t_delete_no w8 ow8 [1, 0] g 0 _ 2 0 h8 (TNS.Pos.of (by simp) (by simp) (by simp)) rfl (by simp)).mono ?_
  rintro e w9 ⟨rfl, b9⟩
  have h9 := h8.new_ (b9.nw ow8)
  have r9 := r8.new_ (b9.nw ow8)
  have t9 := t8.trans ((b9.nw ow8).turn _)
  clear h8 t8 r8 b9
  obtain ⟨b, off, cap, hv, -⟩ := r9.at (by omega)
  simp only [Value.slice.injEq] at hv
  obtain ⟨rfl, -, rfl⟩ := hv
  obtain ⟨-, -, -, hcell⟩ := r9.open_
  have e0 := hcell 0 _ rfl
  have e1 := hcell 1 _ rfl
  rw [Nat.add_zero] at e0
  clear r9 hcell
  go_wp2_with fail
  refine (TNS.t_len w9 ow8 [1, 0] g 0 _ h9).mono ?_
  rintro e wx ⟨rfl, k, rfl⟩
  have fin := ((t9.drewN k).new_ ow0 [1]).below
  go_wp2
  go_ret
  exact ⟨rfl, fin⟩

set_option maxRecDepth 100000 in
set_option maxHeartbeats 8000000 in
theorem runs (w : World) : Calls Try.prog 3 #[] w fun e w' => e = .returned (.bool true) ∧ Below w.heap.size w w' := by
  go_enter Try.func3, Try.ntmps3
  go_wp2_with fail
  have h1 : EInt.St (w.alloc (Obj.cells #[.slice none 0 0] 24)) (ow0.set w.heap.size [1, 0, 0]) [1, 0] w.heap.size 0 [] := EInt.St.nil (Cells.new w ow0 [1, 0, 0] [.slice none 0 0] _)
  have t1 := (((New.refl w ow0).alloc (Obj.cells #[.slice none 0 0] 24) [1, 0, 0]).turn [1])
  generalize hG : w.heap.size = g at *
  generalize hO : ow0.set g [1, 0, 0] = ow1 at *
  generalize hW : w.alloc (Obj.cells #[.slice none 0 0] 24) = w1 at *
  clear hO hW
  refine (EInt.s_push w1 ow1 [1, 0] g 0 [] 1 h1 (by simp)).mono ?_
  rintro e w2 ⟨ow2, rfl, h2, t2⟩
  have t2 := t1.trans (t2.up (by simp))
  clear h1 t1
  go_wp2_with fail
  refine (EInt.s_push w2 ow2 [1, 0] g 0 _ 2 h2 (by simp)).mono ?_
  rintro e w3 ⟨ow3, rfl, h3, t3⟩
  have t3 := t2.trans (t3.up (by simp))
  clear h2 t2
  go_wp2_with fail
  refine (EInt.s_pop_some w3 ow3 [1, 0] g 0 [1] 2 h3 (by simp)).mono ?_
  rintro e w4 ⟨ow4, rfl, h4, t4⟩
  have t4 := t3.trans (t4.up (by simp))
  clear h3 t3
  go_wp2_with fail
  refine (EInt.s_top_some w4 ow4 [1, 0] g 0 [] 1 h4 (by simp)).mono ?_
  rintro e w5 ⟨rfl, b5⟩
  have h5 := h4.new_ (b5.nw ow4)
  have t5 := t4.trans ((b5.nw ow4).turn _)
  clear h4 t4 b5
  go_wp2_with fail
  refine (EInt.s_at_out w5 ow4 [1, 0] g 0 [1] h5 1 (by simp)).mono ?_
  rintro e w6 ⟨rfl, b6⟩
  have h6 := h5.new_ (b6.nw ow4)
  have t6 := t5.trans ((b6.nw ow4).turn _)
  clear h5 t5 b6
  go_wp2_with fail
  refine (EInt.s_len w6 ow4 [1, 0] g 0 [1] h6).mono ?_
  rintro e w7 ⟨rfl, k7, rfl⟩
  have t7 := t6.drewN k7
  clear h6 t6
  generalize w6.drewN k7 = w7 at *
  have q1 : EStr.Q (w7.alloc (Obj.cells #[.slice none 0 0, .int .i64 0] 32)) (ow4.set w7.heap.size [1, 1, 0]) [1, 1] w7.heap.size 0 [] := ⟨.slice none 0 0, [], 0, Cells.new w7 ow4 [1, 1, 0] [.slice none 0 0, .int .i64 0] _, Row.nil _ _ _ _ _, Nat.le_refl _, rfl⟩
  have t8 := t7.trans (((New.refl w7 ow4).alloc (Obj.cells #[.slice none 0 0, .int .i64 0] 32) [1, 1, 0]).turn [1])
  go_wp2_with fail
  generalize hG : w7.heap.size = gq at *
  generalize hO : ow4.set gq [1, 1, 0] = ow8 at *
  generalize hW : w7.alloc (Obj.cells #[.slice none 0 0, .int .i64 0] 32) = w8 at *
  clear hO hW t7
  refine (EStr.q_put w8 ow8 [1, 1] gq 0 [] ⟨#[97]⟩ q1 (by simp)).mono ?_
  rintro e w9 ⟨ow9, rfl, q2, t9⟩
  have t9 := t8.trans (t9.up (by simp))
  clear q1 t8
  go_wp2_with fail
  refine (EStr.q_put w9 ow9 [1, 1] gq 0 _ ⟨#[98]⟩ q2 (by simp)).mono ?_
  rintro e wa ⟨owa, rfl, q3, ta⟩
  have ta := t9.trans (ta.up (by simp))
  clear q2 t9
  go_wp2_with fail
  refine (EStr.q_take_some wa owa [1, 1] gq 0 (⟨#[97]⟩ : ByteArray) [(⟨#[98]⟩ : ByteArray)] q3 (by simp)).mono ?_
  rintro e wb ⟨owb, rfl, q4, tb⟩
  have tb := ta.trans (tb.up (by simp))
  clear q3 ta
  go_wp2_with fail
  refine (EStr.q_front_some wb owb [1, 1] gq 0 (⟨#[98]⟩ : ByteArray) [] q4 (by simp)).mono ?_
  rintro e wc ⟨rfl, bc⟩
  have q5 := q4.new_ (bc.nw owb)
  have tc := tb.trans ((bc.nw owb).turn _)
  clear q4 tb bc
  go_wp2_with fail
  refine (EStr.q_len wc owb [1, 1] gq 0 _ q5 (by simp)).mono ?_
  rintro e wd ⟨rfl, kd, rfl⟩
  have td := tc.drewN kd
  clear q5 tc
  generalize wc.drewN kd = wd at *
  go_wp2_with fail
  refine (EInt.l_new_out wd 0 (by omega)).mono ?_
  rintro e we ⟨rfl, ke, rfl⟩
  go_wp2_with fail
  refine (EInt.l_new_out _ 33 (by omega)).mono ?_
  rintro e wf ⟨rfl, kf, rfl⟩
  go_wp2_with fail
  refine (EInt.r_new_out _ 0 (by omega)).mono ?_
  rintro e wg ⟨rfl, kg, rfl⟩
  go_wp2_with fail
  refine (EInt.r_new_out _ 4097 (by omega)).mono ?_
  rintro e wh ⟨rfl, kh, rfl⟩
  have fin := ((td.drewN (ke + kf + kg + kh)).new_ ow0 [1]).below
  go_wp2_with fail
  refine (levels _).mono ?_
  rintro e wj ⟨rfl, bj⟩
  have fin := fin.trans (bj.mono fin.size)
  go_wp2_with fail
  refine (ring wj).mono ?_
  rintro e wk ⟨rfl, bk⟩
  have fin := fin.trans (bk.mono fin.size)
  go_wp2_with fail
  refine (table wk).mono ?_
  rintro e wl ⟨rfl, bl⟩
  have fin := fin.trans (bl.mono fin.size)
  go_wp2
  go_ret
  exact ⟨rfl, fin⟩

end SH
end Go.Proofs.Ytppikbdeopagkaa
