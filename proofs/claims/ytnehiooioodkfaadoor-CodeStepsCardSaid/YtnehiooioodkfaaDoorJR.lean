/-
  CODE: the law CodeRepeats.
-/
import Derived.Test.YtnehiooioodkfaaDoorKW
import Derived.Test.YtnehiooioodkfaaDoorPA
import Derived.Test.YtnehiooioodkfaaDoorWithin
import Derived.Test.YtnehiooioodkfaaDoorEOqS
set_option linter.unusedVariables false
set_option linter.unusedSimpArgs false
namespace Go.Proofs.YtnehiooioodkfaaDoor
open Go Go.RowKit
namespace CD
theorem srcR {w : World} {v : Value} {xs : List Op4} (h : Rd4 w v xs) : Src Tryd.prog 4 22 v xs.length (EOq.css xs) w := by
  by_cases h0 : 0 < xs.length
  · obtain ⟨A, c, -, -, hr⟩ := h
    exact (hr h0).src Tryd.underlying22 (by rw [EOq.css_length]) (EOq.css_one xs)
  · obtain ⟨A, c, rfl, -, -⟩ := h
    obtain rfl : xs = [] := List.eq_nil_of_length_eq_zero (by omega)
    cases A with
    | none => exact Src.ofNil w Tryd.underlying22 c
    | some a => exact Src.ofSlice w Tryd.underlying22 a 0 c [] rfl (fun j u hj => by simp at hj) (fun u hu => by cases hu)
theorem srcO (w : World) (o : Op4) : Src Tryd.prog 4 22 (.slice (some ⟨w.heap.size, 0, none⟩) 1 1) [o].length (EOq.css [o]) (w.alloc (.cells (EOq.cs o).toArray 32)) := by
  have := (Reads.new w (EOq.cs o) 32 1 1 (Nat.le_refl _)).src Tryd.underlying22 (sz := 4) rfl (EOq.cs_one o)
  have e : EOq.css [o] = EOq.cs o := by simp [EOq.css]
  rw [e]
  exact this
/-- A list of operations that we may turn. -/
def Lst (w : World) (ow : Ow) (p : List Nat) (v : Value) (xs : List Op4) : Prop := Row w ow p 32 4 v xs.length (EOq.css xs)
theorem Lst.rd {w : World} {ow : Ow} {p : List Nat} {v : Value} {xs : List Op4} (h : Lst w ow p v xs) : Rd4 w v xs := rd4 (Row.reads h)
theorem Lst.new0 (w : World) (ow : Ow) (q : List Nat) : Lst (w.alloc (.cells #[] 32)) (ow.set w.heap.size q) q (.slice (some ⟨w.heap.size, 0, none⟩) 0 0) [] := Row.new0 w ow q 32 4
theorem wpList_app4 {ops : Array Oper} {rest : List Oper} {o : Oper} {a : Act} {Q : Exit → Act → World → Prop} {w : World} {ow : Ow} {p : List Nat} (hgd : o.guard = none) (s x : Operand)
    (ho : o.op = .call { callee := .builtin .append, args := #[s, x], argTypes := #[22, 22] })
    {v : Value} {xs ys : List Op4} (hs : a.eval s = v) (hr : Lst w ow p v xs) {xv : Value} (hx : a.eval x = xv) (hsrc : Src Tryd.prog 4 22 xv ys.length (EOq.css ys) w) (hb : xs.length + ys.length ≤ 1000000)
    (h : ∀ v' w' ow', Lst w' ow' p v' (xs ++ ys) → Turn p w ow w' ow' → wpList Tryd.prog ops Q rest (a.put o.dst v') w') : wpList Tryd.prog ops Q (o :: rest) a w := by
  refine wpList_append_row hgd s x 22 22 ho 32 _ 4 32 Tryd.underlying22 EOq.info rfl hs hr hx hsrc (by unfold maxLen; omega) (by omega) fun v' w' ow' hr' t => h v' w' ow' ?_ t
  unfold Lst
  rw [List.length_append, EOq.css_append]
  exact hr'
theorem manyL_succ (k : Nat) (p : List Op4) : manyL (k + 1) p = manyL k p ++ p := by
  unfold manyL
  rw [List.replicate_succ', List.flatten_append]
  simp
theorem manyL_len (k : Nat) (p : List Op4) : (manyL k p).length = k * p.length := by
  unfold manyL
  rw [List.length_flatten, List.map_replicate, List.sum_replicate_nat]
theorem check_of_list {xs : List Op4} (h : (listB xs).2 = 0) : (checkB xs).2 = 0 := by
  have hc : (countB xs).2 = 0 := by
    unfold listB at h
    by_cases h0 : (countB xs).2 = 0
    · exact h0
    · rw [if_neg h0] at h; exact h
  unfold countB at hc
  by_cases h0 : (checkB xs).2 = 0
  · exact h0
  · rw [if_neg h0] at hc; exact hc
theorem list_le (xs : List Op4) : (listB xs).1.length ≤ 4096 := by
  by_cases h : (listB xs).2 = 0
  · obtain ⟨b, f, hL, -, -, -, hlen⟩ := listB_form h
    rw [hL]
    simp
    omega
  · rw [listB_no h]; simp
set_option maxRecDepth 100000 in
set_option maxHeartbeats 4000000 in
theorem repeatsL (w : World) (hV : VL w) (v0 : Value) (ps0 : List Op4) (h0 : EOq.In w v0 ps0) (n0 : Int) (hn0 : -9223372036854775808 ≤ n0 ∧ n0 ≤ 9223372036854775807) (v2 : Value) (as0 : List Op4) (h2 : EOq.In w v2 as0) :
    Calls Tryd.prog 11 #[v0, .int .i64 n0, v2] w fun e w' => e = .returned (.bool true) ∧ Below w.heap.size w w' := by
  have hs1 := EOq.few w v0 ps0 40 h0 (by omega)
  have hs2 := EOq.few w v2 as0 20 h2 (by omega)
  have hwi := within w n0 1 5 (by omega) (by omega) (by omega) hn0
  have HS1 := Lib.hid hs1
  have HS2 := Lib.hid hs2
  have HW := Lib.hid hwi
  have HV := Lib.hid hV
  clear hs1 hs2 hwi hV h0 h2 hn0
  go_enter Tryd.func11, Tryd.ntmps11
  go_wp2_with fail
  refine HS1.out.mono ?_
  rintro e w1 ⟨v1, rfl, hin1, hw⟩
  subst w1
  have hpl : (ps0.take 40).length ≤ 40 := List.length_take_le _ _
  have hp := rd_of_in hin1
  clear HS1 hin1
  generalize ps0.take 40 = ps at *
  have HP := Lib.hid hp
  clear hp
  go_wp2_with fail
  refine HS2.out.mono ?_
  rintro e w2 ⟨v3, rfl, hin2, hw⟩
  subst w2
  have hal : (as0.take 20).length ≤ 20 := List.length_take_le _ _
  have ha := rd_of_in hin2
  clear HS2 hin2
  generalize as0.take 20 = ah at *
  have HA := Lib.hid ha
  clear ha
  go_wp2_with fail
  refine HW.out.mono ?_
  rintro e w3 ⟨r, rfl, hr1, hr2, hw⟩
  subst w3
  obtain ⟨n, rfl⟩ : ∃ n : Nat, r = (n : Int) := ⟨r.toNat, by omega⟩
  clear HW
  obtain ⟨A1, c1, rfl, hc1⟩ := HP.out.slice
  obtain ⟨A2, c2, rfl, hc2⟩ := HA.out.slice
  have HR := Lib.hid (fun (W : World) (b : Below w.heap.size w W) => runs W (HV.out.nb b))
  have hwl : IntKind.i64.wrap ((ps.length : Int) + (ah.length : Int)) = (ps.length : Int) + (ah.length : Int) := by rw [IntKind.wrap_i64]; omega
  go_wp2
  go_loopg [7] (ps.length + ah.length) (fun gn a wr => ∃ k : Nat, gn = ps.length + ah.length - k ∧ k ≤ ps.length + ah.length ∧ a = .int .i64 (k : Int) ∧ wr = w)
  case atStart => exact ⟨0, rfl, Nat.zero_le _, rfl, rfl⟩
  case round =>
    obtain ⟨k, hgk, hk, rfl, hw⟩ := hrel
    subst wr
    have Hgk := Lib.hid hgk
    clear hgk
    by_cases hlt : k < ps.length + ah.length
    · have j0 : (k : Int) < (ps.length : Int) + (ah.length : Int) := by omega
      have hwk : IntKind.i64.wrap ((k : Int) + 1) = (k : Int) + 1 := by rw [IntKind.wrap_i64]; omega
      by_cases hkp : k < ps.length
      · have j1 : (k : Int) < (ps.length : Int) := by omega
        have j2 : ¬ (ps.length : Int) ≤ (k : Int) := by omega
        obtain ⟨x, hx⟩ : ∃ x, ps[k]? = some x := ⟨_, List.getElem?_eq_getElem (by omega)⟩
        obtain ⟨g, off, cap, hv, r0, -⟩ := at4r HP.out hx
        simp only [Value.slice.injEq, true_and] at hv
        obtain ⟨rfl, rfl⟩ := hv
        clear hx
        by_cases h9 : x.kind = 9
        · have b9 : (x.kind == 9) = true := beq_iff_eq.2 h9
          as_aux_lemma =>
          go_wp2_with fail
          refine (HR.out _ (Below.refl _ _)).mono ?_
          rintro e w4 ⟨rfl, b4⟩
          go_wp2
          go_ret
          exact ⟨rfl, b4⟩
        · have b9 : (x.kind == 9) = false := beq_eq_false_iff_ne.2 h9
          go_wp2
          go_roundg (ps.length + ah.length - (k + 1))
          case measure => have := Hgk.out; omega
          case rel => exact ⟨k + 1, rfl, by omega, by go_num, rfl⟩
      · have j1 : ¬ (k : Int) < (ps.length : Int) := by omega
        have j2 : (ps.length : Int) ≤ (k : Int) := by omega
        obtain ⟨m, rfl⟩ : ∃ m, k = ps.length + m := ⟨k - ps.length, by omega⟩
        have hwm : IntKind.i64.wrap (((ps.length + m : Nat) : Int) - (ps.length : Int)) = (m : Int) := by rw [IntKind.wrap_i64]; omega
        have j3 : (m : Int) < (ah.length : Int) := by omega
        obtain ⟨x, hx⟩ : ∃ x, ah[m]? = some x := ⟨_, List.getElem?_eq_getElem (by omega)⟩
        obtain ⟨g, off, cap, hv, r0, -⟩ := at4r HA.out hx
        simp only [Value.slice.injEq, true_and] at hv
        obtain ⟨rfl, rfl⟩ := hv
        clear hx
        by_cases h9 : x.kind = 9
        · have b9 : (x.kind == 9) = true := beq_iff_eq.2 h9
          as_aux_lemma =>
          go_wp2_with fail
          refine (HR.out _ (Below.refl _ _)).mono ?_
          rintro e w4 ⟨rfl, b4⟩
          go_wp2
          go_ret
          exact ⟨rfl, b4⟩
        · have b9 : (x.kind == 9) = false := beq_eq_false_iff_ne.2 h9
          go_wp2
          go_roundg (ps.length + ah.length - (ps.length + m + 1))
          case measure => have := Hgk.out; omega
          case rel => exact ⟨ps.length + m + 1, rfl, by omega, by go_num, rfl⟩
    · obtain rfl : k = ps.length + ah.length := by omega
      have j0 : ¬ ((ps.length + ah.length : Nat) : Int) < (ps.length : Int) + (ah.length : Int) := by omega
      have hmp : n * ps.length ≤ 200 := Nat.le_trans (Nat.mul_le_mul_right _ (by omega : n ≤ 5)) (by omega)
      have T0 : Turn [1] w ow0 (w.alloc (.cells #[] 32)) (ow0.set w.heap.size [1, 1]) := (Turn.refl _ _ _).alloc _ _
      have hsa := srcR (HA.out.new_ ((Below.refl _ _).alloc (Nat.le_refl _) (.cells #[] 32)))
      clear hwl
      go_wp2_with (at_builtin; refine wpList_app4 rfl (.tmp 62) (.tmp 63) rfl rfl (Lst.new0 w ow0 [1, 1]) rfl hsa (by simp; omega) ?_)
      intro s1 w1 ow1 l1 t1
      have T1 := T0.trans (t1.up (by simp))
      clear hsa t1 T0
      have l2 : Lst _ ow1 [1, 1] s1 ah := Row.alloc_ l1 (.cells (EOq.cs ⟨10, 0, (n : Int), 0⟩).toArray 32)
      have so := srcO w1 ⟨10, 0, (n : Int), 0⟩
      have T2 := T1.alloc_ (.cells (EOq.cs ⟨10, 0, (n : Int), 0⟩).toArray 32)
      clear l1 T1
      go_wp2_with (at_builtin; refine wpList_app4 rfl (.tmp 64) (.tmp 67) rfl rfl l2 rfl so (by simp; omega) ?_)
      intro s2 w2 ow2 l3 t2
      have T3 := T2.trans (t2.up (by simp))
      clear l2 so T2 t2
      have sp := srcR (HP.out.new_ (T3.new_ ow0 [1]).below)
      go_wp2_with (at_builtin; refine wpList_app4 rfl (.tmp 69) (.tmp 70) rfl rfl l3 rfl sp (by simp; omega) ?_)
      intro s3 w3 ow3 l4 t3
      have T4 := T3.trans (t3.up (by simp))
      clear l3 sp T3 t3
      have l5 : Lst _ ow3 [1, 1] s3 _ := Row.alloc_ l4 (.cells (EOq.cs ⟨11, 0, 0, 0⟩).toArray 32)
      have so := srcO w3 ⟨11, 0, 0, 0⟩
      have T5 := T4.alloc_ (.cells (EOq.cs ⟨11, 0, 0, 0⟩).toArray 32)
      clear l4 T4
      go_wp2_with (at_builtin; refine wpList_app4 rfl (.tmp 71) (.tmp 73) rfl rfl l5 rfl so (by simp; omega) ?_)
      intro s4 w4 ow4 l6 t4
      have T6 := T5.trans (t4.up (by simp))
      clear l5 so T5 t4
      have l7 : Lst _ (ow4.set w4.heap.size [1, 2]) [1, 1] s4 _ := Row.alloc l6 (.cells #[] 32) [1, 2]
      have T7 := T6.alloc (.cells #[] 32) [1, 2]
      have hsa := srcR (HA.out.new_ (T7.new_ ow0 [1]).below)
      go_wp2_with (at_builtin; refine wpList_app4 rfl (.tmp 75) (.tmp 76) rfl rfl (Lst.new0 w4 ow4 [1, 2]) rfl hsa (by simp; omega) ?_)
      intro s5 w5 ow5 l8 t5
      have l9 : Lst w5 ow5 [1, 1] s4 _ := Row.keep l7 t5 (by simp)
      have T8 := T7.trans (t5.up (by simp))
      clear l6 l7 T6 T7 t5 hsa
      have hAl : (ah ++ (⟨10, 0, (n : Int), 0⟩ : Op4) :: (ps ++ [⟨11, 0, 0, 0⟩])).length ≤ 62 := by simp; omega
      have hrp : (checkB ps).2 = 0 → (checkB (ah ++ ⟨10, 0, (n : Int), 0⟩ :: (ps ++ [⟨11, 0, 0, 0⟩]))).2 = 0 → listB (ah ++ manyL n ps) = listB (ah ++ ⟨10, 0, (n : Int), 0⟩ :: (ps ++ [⟨11, 0, 0, 0⟩])) := fun h1 h2 => repeats (by omega) h1 h2
      generalize hA0 : ah ++ (⟨10, 0, (n : Int), 0⟩ : Op4) :: (ps ++ [⟨11, 0, 0, 0⟩]) = A0 at *
      go_wp2
      go_loopg [9, 10] n (fun gn a b wr => ∃ (k : Nat) (OW : Ow), gn = n - k ∧ k ≤ n ∧ b = .int .i64 (k : Int) ∧ Lst wr OW [1, 2] a (ah ++ manyL k ps) ∧ Lst wr OW [1, 1] s4 A0 ∧ Turn [1] w ow0 wr OW)
      case atStart => exact ⟨0, ow5, rfl, Nat.zero_le _, rfl, by simpa [manyL] using l8, l9, T8⟩
      case round =>
        clear l8 l9 T8
        obtain ⟨k, OW, hgk, hk, rfl, m1, m2, T⟩ := hrel
        have Hgk := Lib.hid hgk
        clear hgk
        by_cases hlt : k < n
        · have j0 : (k : Int) < (n : Int) := by omega
          have hwk : IntKind.i64.wrap ((k : Int) + 1) = (k : Int) + 1 := by rw [IntKind.wrap_i64]; omega
          have sp := srcR (HP.out.new_ (T.new_ ow0 [1]).below)
          have hml : k * ps.length ≤ 200 := Nat.le_trans (Nat.mul_le_mul_right _ hk) hmp
          go_wp2_with (at_builtin; refine wpList_app4 rfl (.tmp 83) (.tmp 84) rfl rfl m1 rfl sp (by rw [List.length_append, manyL_len]; omega) ?_)
          intro s6 w6 ow6 m3 t6
          have m4 : Lst w6 ow6 [1, 1] s4 A0 := Row.keep m2 t6 (by simp)
          have T' := T.trans (t6.up (by simp))
          rw [← manyL_succ] at m3
          clear m1 m2 T t6 sp
          go_wp2
          go_roundg (n - (k + 1))
          case measure => have := Hgk.out; omega
          case rel => exact ⟨k + 1, ow6, rfl, by omega, by go_num, m3, m4, T'⟩
        · obtain rfl : k = n := by omega
          have j0 : ¬ (k : Int) < (k : Int) := by omega
          have hBl : (ah ++ manyL k ps).length ≤ 256 := by rw [List.length_append, manyL_len]; omega
          generalize ah ++ manyL k ps = B0 at *
          have bd := (T.new_ ow0 [1]).below
          have sA := stepsL wr s4 A0 m2.rd (by omega)
          have rB := m1.rd
          clear T m1 m2
          go_wp2_with fail
          refine sA.mono ?_
          rintro e w6 ⟨x1, rfl, r1, b1⟩
          have rB1 := rB.new_ b1
          have bd1 := bd.trans (b1.mono bd.size)
          have sB := stepsL w6 _ B0 rB1 (by omega)
          clear sA rB b1 bd
          go_wp2_with fail
          refine sB.mono ?_
          rintro e w7 ⟨x2, rfl, r2, b2⟩
          have r1' := r1.new_ b2
          have bd2 := bd1.trans (b2.mono bd1.size)
          have cP := check w7 _ ps (HP.out.new_ bd2) (by omega)
          clear sB r1 b2 bd1 rB1
          go_wp2_with fail
          refine cP.mono ?_
          rintro e w8 ⟨rfl, b3⟩
          have q1 := r1'.new_ b3
          have q2 := r2.new_ b3
          have bd3 := bd2.trans (b3.mono bd2.size)
          clear cP r1' r2 b3 bd2
          have HB := Lib.hid bd3
          have HR8 := Lib.hid (fun (W : World) (b : Below w8.heap.size w8 W) => HR.out W (bd3.trans (b.mono bd3.size)))
          clear bd3 HR HP HA HV
          by_cases hbad : (checkB ps).2 ≠ 0 ∨ (listB A0).2 ≠ 0
          · clear q1 q2 hrp
            generalize (checkB ps).2 = C1 at *
            generalize (listB A0).2 = C2 at *
            by_cases c0 : C1 = 0
            · have b1 : (C1 != 0) = false := by simp [c0]
              have b2 : (C2 != 0) = true := by simp [hbad.resolve_left (fun h => h c0)]
              as_aux_lemma =>
              go_wp2_with fail
              refine (HR8.out _ (Below.refl _ _)).mono ?_
              rintro e w9 ⟨rfl, b4⟩
              go_wp2
              go_ret
              exact ⟨rfl, HB.out.trans (b4.mono HB.out.size)⟩
            · have b1 : (C1 != 0) = true := by simp [c0]
              as_aux_lemma =>
              go_wp2_with fail
              refine (HR8.out _ (Below.refl _ _)).mono ?_
              rintro e w9 ⟨rfl, b4⟩
              go_wp2
              go_ret
              exact ⟨rfl, HB.out.trans (b4.mono HB.out.size)⟩
          · obtain ⟨c1, c2⟩ : (checkB ps).2 = 0 ∧ (listB A0).2 = 0 := ⟨Decidable.byContradiction fun h => hbad (.inl h), Decidable.byContradiction fun h => hbad (.inr h)⟩
            rw [hrp c1 (check_of_list c2)] at q2 ⊢
            rw [c1, c2]
            have hll := list_le A0
            obtain ⟨X1, y1, rfl, -⟩ := q1.slice
            obtain ⟨X2, y2, rfl, -⟩ := q2.slice
            have hsame := EOq.same_yes w8 _ _ (listB A0).1 (by omega) q1 q2
            generalize (listB A0).1 = L at *
            clear q1 q2 hrp c1 c2 hbad
            go_wp2_with fail
            refine hsame.mono ?_
            rintro e w9 ⟨rfl, k9, hw9⟩
            subst w9
            go_wp2_with fail
            have bk : Below w8.heap.size w8 (w8.drewN k9) := ((New.refl w8 ow0).drewN k9).below
            refine (HR8.out _ bk).mono ?_
            rintro e w10 ⟨rfl, b4⟩
            go_wp2
            go_ret
            exact ⟨rfl, HB.out.trans ((bk.trans (b4.mono bk.size)).mono HB.out.size)⟩
end CD
end Go.Proofs.YtnehiooioodkfaaDoor
