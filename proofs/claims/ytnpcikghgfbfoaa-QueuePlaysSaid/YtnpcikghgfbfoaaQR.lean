/-
  LAW 7: QueueRuns.
-/
import Derived.Test.YtnpcikghgfbfoaaQC
namespace Go.Proofs.Ytnpcikghgfbfoaa
open Go Go.RowKit
namespace EQ
open EWt

theorem putE (w : World) (ow : Ow) (p : List Nat) (g : Nat) (l : List Wt) (h : QA w ow p g l) (t lv j : Int) (e : Int) (m : List Wt) (hr : putA l t lv j = (e, m)) :
    Calls Try.prog 8 #[.pointer (some ⟨g, 0, none⟩), .int .i64 t, .int .i64 lv, .int .i64 j] w (Left_ w ow p g (.int .i64 e) m) := by
  have := putQ w ow p g l h t lv j
  rwa [hr] at this
theorem takeE (w : World) (ow : Ow) (p : List Nat) (g : Nat) (l : List Wt) (h : QA w ow p g l) (v : Value) (m : List Wt) (h1 : firstV l = v) (h2 : takeL l = m) :
    Calls Try.prog 12 #[.pointer (some ⟨g, 0, none⟩)] w (Left_ w ow p g v m) := by
  have := takeQ w ow p g l h
  rwa [h1, h2] at this
theorem nextE (w : World) (ow : Ow) (p : List Nat) (g : Nat) (l : List Wt) (h : QA w ow p g l) (v : Value) (h1 : firstV l = v) :
    Calls Try.prog 9 #[.pointer (some ⟨g, 0, none⟩)] w (Asked w v) := by
  have := nextQ w ow p g l h
  rwa [h1] at this

theorem activeE (w : World) (ow : Ow) (p : List Nat) (g : Nat) (l : List Wt) (h : QA w ow p g l) (t : Int) (n : Int) (hn : (cnt l t : Int) = n) :
    Calls Try.prog 11 #[.pointer (some ⟨g, 0, none⟩), .int .i64 t] w (Asked w (.int .i64 n)) := by
  have := activeQ w ow p g l h t
  rwa [hn] at this
theorem lenE (w : World) (ow : Ow) (p : List Nat) (g : Nat) (l : List Wt) (h : QA w ow p g l) (n : Int) (hn : (l.length : Int) = n) :
    Calls Try.prog 13 #[.pointer (some ⟨g, 0, none⟩)] w (Asked w (.int .i64 n)) := by
  have := lenQ w ow p g l h
  rwa [hn] at this
def eights (n : Nat) : List Wt := (List.range n).map fun j : Nat => ⟨(j : Int), 5, 1⟩
theorem eights_succ (n : Nat) : eights (n + 1) = eights n ++ [⟨(n : Int), 5, 1⟩] := by simp [eights, List.range_succ]
theorem eights_cnt (n : Nat) : cnt (eights n) 5 = n := by
  induction n with
  | zero => rfl
  | succ n ih => rw [eights_succ, cnt_append, ih, cnt_one, if_pos rfl]
theorem eights_put (n : Nat) (hn : n < 8) : putA (eights n) 5 1 (n : Int) = (0, eights (n + 1)) := by
  rw [putA, if_neg (by omega), if_neg (by rw [eights_cnt]; omega), eights_succ]

set_option maxRecDepth 100000 in
set_option maxHeartbeats 2000000 in
theorem runs (w : World) : Calls Try.prog 3 #[] w fun e w' => e = .returned (.bool true) ∧ Below w.heap.size w w' := by
  go_enter Try.func3, Try.ntmps3
  go_wp2_with fail
  refine (newA w ow0 [1, 0]).mono ?_
  rintro e w1 ⟨g, ow1, rfl, q1, n1, hg⟩
  have t1 := n1.turn [1]
  clear n1
  go_wp2_with fail
  refine (putE w1 ow1 [1, 0] g [] q1 0 2 10 0 [⟨10, 0, 2⟩] (by rfl)).mono ?_
  rintro e w2 ⟨ow2, rfl, q2, s2⟩
  have t2 := t1.trans (s2.up (by simp))
  clear t1 q1 s2
  go_wp2_with fail
  refine (putE w2 ow2 [1, 0] g [⟨10, 0, 2⟩] q2 1 5 11 0 [⟨10, 0, 2⟩, ⟨11, 1, 5⟩] (by rfl)).mono ?_
  rintro e w3 ⟨ow3, rfl, q3, s3⟩
  have t3 := t2.trans (s3.up (by simp))
  clear t2 q2 s3
  go_wp2_with fail
  refine (putE w3 ow3 [1, 0] g [⟨10, 0, 2⟩, ⟨11, 1, 5⟩] q3 0 2 12 0 [⟨10, 0, 2⟩, ⟨11, 1, 5⟩, ⟨12, 0, 2⟩] (by rfl)).mono ?_
  rintro e w4 ⟨ow4, rfl, q4, s4⟩
  have t4 := t3.trans (s4.up (by simp))
  clear t3 q3 s4
  go_wp2_with fail
  refine (putE w4 ow4 [1, 0] g [⟨10, 0, 2⟩, ⟨11, 1, 5⟩, ⟨12, 0, 2⟩] q4 2 2 13 0 [⟨10, 0, 2⟩, ⟨11, 1, 5⟩, ⟨12, 0, 2⟩, ⟨13, 2, 2⟩] (by rfl)).mono ?_
  rintro e w5 ⟨ow5, rfl, q5, s5⟩
  have t5 := t4.trans (s5.up (by simp))
  clear t4 q4 s5
  go_wp2_with fail
  refine (nextE w5 ow5 [1, 0] g _ q5 (.tuple #[.agg #[.int .i64 11, .int .i64 1, .int .i64 5], .bool true]) (by rfl)).mono ?_
  rintro e w6 ⟨rfl, b6⟩
  have q := q5.new_ (b6.nw ow5)
  have t6 := t5.trans ((b6.nw ow5).turn [1])
  obtain ⟨ow6, ho6⟩ : ∃ o, o = ow5 := ⟨_, rfl⟩
  rw [← ho6] at q t6
  clear t5 q5 b6 ho6
  go_wp2_with fail
  have n7 := (New.refl w6 ow6).alloc (Obj.cells #[Value.int .i64 11, Value.int .i64 1, Value.int .i64 5] 27) [1, 4]
  have X := Cells.new w6 ow6 [1, 4] [Value.int .i64 11, Value.int .i64 1, Value.int .i64 5] 27
  change Cells (w6.alloc (Obj.cells #[Value.int .i64 11, Value.int .i64 1, Value.int .i64 5] 27)) _ _ _ _ _ at X
  have q := q.new_ n7
  have t7 := t6.trans (n7.turn [1])
  generalize ho7 : Ow.set ow6 w6.heap.size [1, 4] = ow7 at *
  generalize hw7 : w6.alloc (Obj.cells #[Value.int .i64 11, Value.int .i64 1, Value.int .i64 5] 27) = w7 at *
  clear t6 n7 hw7 ho7
  generalize hX : w6.heap.size = Xb at *
  have lX := X.lt
  refine (listQ w7 ow7 [1, 0] [1, 3] g _ q).mono ?_
  rintro e w8 ⟨lv, ow8, rfl, r, n8, f8⟩
  have hA : listA [⟨10, 0, 2⟩, ⟨11, 1, 5⟩, ⟨12, 0, 2⟩, ⟨13, 2, 2⟩] = [⟨11, 1, 5⟩, ⟨10, 0, 2⟩, ⟨12, 0, 2⟩, ⟨13, 2, 2⟩] := rfl
  rw [hA] at r
  change Row w8 ow8 [1, 3] 27 3 lv 4 (css [⟨11, 1, 5⟩, ⟨10, 0, 2⟩, ⟨12, 0, 2⟩, ⟨13, 2, 2⟩]) at r
  have X := X.new_ n8
  have q := q.new_ n8
  have t8 := t7.trans (n8.turn [1])
  clear t7 n8 f8 hA
  obtain ⟨b, off, cap, rfl, -⟩ := r.at (by omega)
  obtain ⟨hb, ho, hf, hcell⟩ := r.open_
  have l0 := hcell 0 _ rfl
  have l1 := hcell 3 _ rfl
  have l2 := hcell 6 _ rfl
  have l3 := hcell 9 _ rfl
  clear hcell ho hf
  simp only [Nat.add_zero] at l0
  have X0 := X.get 0 rfl
  have X1 := X.get 1 rfl
  have X2 := X.get 2 rfl
  simp only [Nat.zero_add] at X0 X1 X2
  go_wp2_with fail
  refine (activeE w8 ow8 [1, 0] g [⟨10, 0, 2⟩, ⟨11, 1, 5⟩, ⟨12, 0, 2⟩, ⟨13, 2, 2⟩] q 0 2 (by rfl)).mono ?_
  rintro e w9 ⟨rfl, b9⟩
  have q := q.new_ (b9.nw ow8)
  have X := X.new_ (b9.nw ow8)
  have t9 := t8.trans ((b9.nw ow8).turn [1])
  obtain ⟨ow9, ho9⟩ : ∃ o, o = ow8 := ⟨_, rfl⟩
  rw [← ho9] at t9 q X
  clear t8 b9 ho9 X0 X1 X2 l0 l1 l2 l3
  go_wp2_with fail
  refine (activeE w9 ow9 [1, 0] g [⟨10, 0, 2⟩, ⟨11, 1, 5⟩, ⟨12, 0, 2⟩, ⟨13, 2, 2⟩] q (-1) 0 (by rfl)).mono ?_
  rintro e w10 ⟨rfl, b10⟩
  have q := q.new_ (b10.nw ow9)
  have X := X.new_ (b10.nw ow9)
  have t10 := t9.trans ((b10.nw ow9).turn [1])
  obtain ⟨ow10, ho10⟩ : ∃ o, o = ow9 := ⟨_, rfl⟩
  rw [← ho10] at t10 q X
  clear t9 b10 ho10 
  try go_wp2_with fail
  refine (takeE w10 ow10 [1, 0] g [⟨10, 0, 2⟩, ⟨11, 1, 5⟩, ⟨12, 0, 2⟩, ⟨13, 2, 2⟩] q (.tuple #[.agg #[.int .i64 11, .int .i64 1, .int .i64 5], .bool true]) [⟨10, 0, 2⟩, ⟨12, 0, 2⟩, ⟨13, 2, 2⟩] (by rfl) (by rfl)).mono ?_
  rintro e w11 ⟨ow11, rfl, z, s11⟩
  have X := X.keep s11 (by simp)
  have t11 := t10.trans (s11.up (by simp))
  clear t10 s11 q
  have q := z
  clear z
  have X0 := X.get 0 rfl
  have X1 := X.get 1 rfl
  have X2 := X.get 2 rfl
  simp only [Nat.zero_add] at X0 X1 X2
  have fX := X.free
  go_wp2_with fail
  have u0 := X.turn 0 (.int .i64 11) (by simp)
  have X := X.set 0 (.int .i64 11) (by simp)
  have q := q.keep u0 (by simp)
  have u1 := X.turn 1 (.int .i64 1) (by simp)
  have X := X.set 1 (.int .i64 1) (by simp)
  have q := q.keep u1 (by simp)
  have u2 := X.turn 2 (.int .i64 5) (by simp)
  have X := X.set 2 (.int .i64 5) (by simp)
  have q := q.keep u2 (by simp)
  simp only [Nat.zero_add, List.set_cons_zero, List.set_cons_succ] at X u0 u1 u2 q
  have t12 := t11.trans (((u0.trans u1).trans u2).up (by simp))
  generalize hw12 : (((w11.setCell ⟨Xb, 0, none⟩ (Value.int .i64 11)).setCell ⟨Xb, 1, none⟩ (Value.int .i64 1)).setCell ⟨Xb, 2, none⟩ (Value.int .i64 5)) = w12 at *
  obtain ⟨ow12, ho12⟩ : ∃ o, o = ow11 := ⟨_, rfl⟩
  rw [← ho12] at t12 X q
  clear t11 u0 u1 u2 hw12 ho12
  clear X0 X1 X2 fX
  try go_wp2_with fail
  refine (takeE w12 ow12 [1, 0] g [⟨10, 0, 2⟩, ⟨12, 0, 2⟩, ⟨13, 2, 2⟩] q (.tuple #[.agg #[.int .i64 10, .int .i64 0, .int .i64 2], .bool true]) [⟨12, 0, 2⟩, ⟨13, 2, 2⟩] (by rfl) (by rfl)).mono ?_
  rintro e w13 ⟨ow13, rfl, z, s13⟩
  have X := X.keep s13 (by simp)
  have t13 := t12.trans (s13.up (by simp))
  clear t12 s13 q
  have q := z
  clear z
  go_wp2_with fail
  have n14 := (New.refl w13 ow13).alloc (Obj.cells #[Value.int .i64 10, Value.int .i64 0, Value.int .i64 2] 27) [1, 5]
  have Y := Cells.new w13 ow13 [1, 5] [Value.int .i64 10, Value.int .i64 0, Value.int .i64 2] 27
  change Cells (w13.alloc (Obj.cells #[Value.int .i64 10, Value.int .i64 0, Value.int .i64 2] 27)) _ _ _ _ _ at Y
  have q := q.new_ n14
  have X := X.new_ n14
  have t14 := t13.trans (n14.turn [1])
  generalize ho14 : Ow.set ow13 w13.heap.size [1, 5] = ow14 at *
  generalize hw14 : w13.alloc (Obj.cells #[Value.int .i64 10, Value.int .i64 0, Value.int .i64 2] 27) = w14 at *
  clear t13 n14 hw14 ho14
  generalize hY : w13.heap.size = Yb at *
  have lY := Y.lt
  try go_wp2_with fail
  refine (putE w14 ow14 [1, 0] g [⟨12, 0, 2⟩, ⟨13, 2, 2⟩] q 3 3 14 0 [⟨12, 0, 2⟩, ⟨13, 2, 2⟩, ⟨14, 3, 3⟩] (by rfl)).mono ?_
  rintro e w15 ⟨ow15, rfl, z, s15⟩
  have X := X.keep s15 (by simp)
  have Y := Y.keep s15 (by simp)
  have t15 := t14.trans (s15.up (by simp))
  clear t14 s15 q
  have q := z
  clear z
  try go_wp2_with fail
  refine (takeE w15 ow15 [1, 0] g [⟨12, 0, 2⟩, ⟨13, 2, 2⟩, ⟨14, 3, 3⟩] q (.tuple #[.agg #[.int .i64 14, .int .i64 3, .int .i64 3], .bool true]) [⟨12, 0, 2⟩, ⟨13, 2, 2⟩] (by rfl) (by rfl)).mono ?_
  rintro e w16 ⟨ow16, rfl, z, s16⟩
  have X := X.keep s16 (by simp)
  have Y := Y.keep s16 (by simp)
  have t16 := t15.trans (s16.up (by simp))
  clear t15 s16 q
  have q := z
  clear z
  have X0 := X.get 0 rfl
  have X1 := X.get 1 rfl
  have X2 := X.get 2 rfl
  simp only [Nat.zero_add] at X0 X1 X2
  have Y0 := Y.get 0 rfl
  have Y1 := Y.get 1 rfl
  have Y2 := Y.get 2 rfl
  simp only [Nat.zero_add] at Y0 Y1 Y2
  have mX := X.lt
  have mY := Y.lt
  go_wp2_with fail
  clear X0 X1 X2 Y0 Y1 Y2
  have n17 := (New.refl w16 ow16).alloc (Obj.cells #[Value.int .i64 14, Value.int .i64 3, Value.int .i64 3] 27) [1, 6]
  have Z := Cells.new w16 ow16 [1, 6] [Value.int .i64 14, Value.int .i64 3, Value.int .i64 3] 27
  change Cells (w16.alloc (Obj.cells #[Value.int .i64 14, Value.int .i64 3, Value.int .i64 3] 27)) _ _ _ _ _ at Z
  have q := q.new_ n17
  have X := X.new_ n17
  have Y := Y.new_ n17
  have t17 := t16.trans (n17.turn [1])
  generalize ho17 : Ow.set ow16 w16.heap.size [1, 6] = ow17 at *
  generalize hw17 : w16.alloc (Obj.cells #[Value.int .i64 14, Value.int .i64 3, Value.int .i64 3] 27) = w17 at *
  clear t16 n17 hw17 ho17
  generalize hZ : w16.heap.size = Zb at *
  have lZ := Z.lt
  go_wp2_with fail
  refine (lenE w17 ow17 [1, 0] g [⟨12, 0, 2⟩, ⟨13, 2, 2⟩] q 2 (by rfl)).mono ?_
  rintro e w18 ⟨rfl, b18⟩
  have q := q.new_ (b18.nw ow17)
  have X := X.new_ (b18.nw ow17)
  have Y := Y.new_ (b18.nw ow17)
  have Z := Z.new_ (b18.nw ow17)
  have t18 := t17.trans ((b18.nw ow17).turn [1])
  obtain ⟨ow18, ho18⟩ : ∃ o, o = ow17 := ⟨_, rfl⟩
  rw [← ho18] at t18 q X Y Z
  clear t17 b18 ho18 
  clear X Y Z
  go_wp2_with fail
  refine (newA w18 ow18 [1, 1]).mono ?_
  rintro e w19 ⟨h, ow19, rfl, p, n, hh⟩
  have t19 := t18.trans (n.turn [1])
  clear t18 n q
  go_wp2_with fail
  clear hg lX hX hY lY hZ mX mY lZ hh r hb
  go_loopw [11] (fun i wr => ∃ (n : Nat) (OW : Ow), n ≤ 8 ∧ i = .int .i64 n ∧ QA wr OW [1, 1] h (eights n) ∧ Turn [1] w ow0 wr OW) (fun i _ => 8 - (intOf i).toNat)
  case atStart => exact ⟨0, ow19, by omega, rfl, p, t19⟩
  case round =>
    obtain ⟨n, OW, hn, rfl, p, tt⟩ := hrel
    by_cases hlt : n < 8
    · have i0 : (n : Int) < 8 := by omega
      go_wp2_with fail
      refine (putE _ OW [1, 1] h (eights n) p 5 1 n 0 (eights (n + 1)) (eights_put n hlt)).mono ?_
      rintro e wq ⟨owq, rfl, p, s⟩
      have tt := tt.trans (s.up (by simp))
      clear s
      go_wp2
      exact ⟨⟨n + 1, owq, by omega, rfl, p, tt⟩, by simp only [intOf]; omega⟩
    · obtain rfl : n = 8 := by omega
      go_wp2_with fail
      refine (newA wr OW [1, 2]).mono ?_
      rintro e w20 ⟨g3, ow20, rfl, z3, n20, h3⟩
      have t20 := tt.trans (n20.turn [1])
      have p := p.new_ n20
      clear tt n20 h3
      try go_wp2_with fail
      refine (takeE w20 ow20 [1, 2] g3 [] z3 (.tuple #[.agg #[.int .i64 0, .int .i64 0, .int .i64 0], .bool false]) [] (by rfl) (by rfl)).mono ?_
      rintro e w21 ⟨ow21, rfl, z, s21⟩
      have p := p.keep s21 (by simp)
      have t21 := t20.trans (s21.up (by simp))
      clear t20 s21 z3
      have z3 := z
      clear z
      clear z3
      go_wp2_with fail
      have n22 := (New.refl w21 ow21).alloc (Obj.cells #[Value.int .i64 0, Value.int .i64 0, Value.int .i64 0] 27) [1, 7]
      have V := Cells.new w21 ow21 [1, 7] [Value.int .i64 0, Value.int .i64 0, Value.int .i64 0] 27
      change Cells (w21.alloc (Obj.cells #[Value.int .i64 0, Value.int .i64 0, Value.int .i64 0] 27)) _ _ _ _ _ at V
      have p := p.new_ n22
      have t22 := t21.trans (n22.turn [1])
      generalize ho22 : Ow.set ow21 w21.heap.size [1, 7] = ow22 at *
      generalize hw22 : w21.alloc (Obj.cells #[Value.int .i64 0, Value.int .i64 0, Value.int .i64 0] 27) = w22 at *
      clear t21 n22 hw22 ho22
      generalize hV : w21.heap.size = Vb at *
      have lV := V.lt
      try go_wp2_with fail
      refine (putE w22 ow22 [1, 1] h (eights 8) p 5 1 8 4 (eights 8) (by rfl)).mono ?_
      rintro e w23 ⟨ow23, rfl, z, s23⟩
      have t23 := t22.trans (s23.up (by simp))
      clear t22 s23 p
      have p := z
      clear z
      try go_wp2_with fail
      refine (putE w23 ow23 [1, 1] h (eights 8) p 64 1 0 1 (eights 8) (by rfl)).mono ?_
      rintro e w24 ⟨ow24, rfl, z, s24⟩
      have t24 := t23.trans (s24.up (by simp))
      clear t23 s24 p
      have p := z
      clear z
      try go_wp2_with fail
      refine (putE w24 ow24 [1, 1] h (eights 8) p 0 0 0 1 (eights 8) (by rfl)).mono ?_
      rintro e w25 ⟨ow25, rfl, z, s25⟩
      have t25 := t24.trans (s25.up (by simp))
      clear t24 s25 p
      have p := z
      clear z
      try go_wp2_with fail
      refine (putE w25 ow25 [1, 1] h (eights 8) p 0 33 0 1 (eights 8) (by rfl)).mono ?_
      rintro e w26 ⟨ow26, rfl, z, s26⟩
      have t26 := t25.trans (s26.up (by simp))
      clear t25 s26 p
      have p := z
      clear z
      try go_wp2_with fail
      refine (putE w26 ow26 [1, 1] h (eights 8) p 0 1 (-1) 1 (eights 8) (by rfl)).mono ?_
      rintro e w27 ⟨ow27, rfl, z, s27⟩
      have t27 := t26.trans (s27.up (by simp))
      clear t26 s27 p
      have p := z
      clear z
      go_wp2
      go_ret
      exact ⟨rfl, (t27.new_ ow0 [1]).below⟩

end EQ
end Go.Proofs.Ytnpcikghgfbfoaa