/-
  CODE: the law CodeJoined.
-/
import Derived.Test.YtnehiooioodkfaaDoorJR
import Derived.Test.YtnehiooioodkfaaDoorPA
set_option linter.unusedVariables false
set_option linter.unusedSimpArgs false
namespace Go.Proofs.YtnehiooioodkfaaDoor
open Go Go.RowKit
namespace CD
theorem Rd4.front {w : World} {g off cap : Nat} {xs ys : List Op4} (h : Reads w (.slice (some ⟨g, off, none⟩) (xs ++ ys).length cap) (xs ++ ys).length (EOq.css (xs ++ ys))) (hc : (xs ++ ys).length ≤ cap) : Rd4 w (.slice (some ⟨g, off, none⟩) xs.length cap) xs := by
  rw [List.length_append] at hc
  refine ⟨_, cap, rfl, by omega, fun h0 => .inr ⟨g, off, cap, rfl, by omega, fun j u hj => ?_⟩⟩
  obtain ⟨g', off', cap', e, -, hr⟩ := h.at (by rw [List.length_append]; omega)
  injection e with e1 e2 e3
  injection e1 with e1
  injection e1 with e4 e5 e6
  subst e4 e5
  refine hr j u ?_
  rw [EOq.css_append, List.getElem?_append_left (List.getElem?_eq_some_iff.1 hj).1]
  exact hj
set_option maxRecDepth 100000 in
theorem ends (w : World) (v : Value) (xs : List Op4) (h : Rd4 w v xs) (hn : xs.length ≤ 1000000) : Calls Tryd.prog 36 #[v] w fun e w' => e = .returned (.bool (xs.any fun o => o.kind == 9)) ∧ w' = w := by
  obtain ⟨C, hC⟩ : ∃ C, (xs.any fun o => o.kind == 9) = C := ⟨_, rfl⟩
  rw [hC]
  have HC := Lib.hid hC
  have H := Lib.hid h
  obtain ⟨A, c, rfl, hc⟩ := h.slice
  clear h hC
  go_enter Tryd.func36, Tryd.ntmps36
  go_wp2
  go_loopg [3] (xs.length) (fun gn a wr => ∃ k : Nat, gn = xs.length - k ∧ k ≤ xs.length ∧ a = .int .i64 (k : Int) ∧ wr = w ∧ ∀ j x, j < k → xs[j]? = some x → x.kind ≠ 9)
  case atStart => exact ⟨0, rfl, Nat.zero_le _, rfl, rfl, fun j x hj => by omega⟩
  case round =>
    obtain ⟨k, hgk, hk, rfl, hw, hall⟩ := hrel
    subst wr
    have Hgk := Lib.hid hgk
    have HA := Lib.hid hall
    clear hgk hall
    by_cases hlt : k < xs.length
    · have j0 : (k : Int) < (xs.length : Int) := by omega
      have hwk : IntKind.i64.wrap ((k : Int) + 1) = (k : Int) + 1 := by rw [IntKind.wrap_i64]; omega
      obtain ⟨x, hx⟩ : ∃ x, xs[k]? = some x := ⟨_, List.getElem?_eq_getElem (by omega)⟩
      have HX := Lib.hid hx
      obtain ⟨g, off, cap, hv, r0, -⟩ := at4r H.out hx
      simp only [Value.slice.injEq, true_and] at hv
      obtain ⟨rfl, rfl⟩ := hv
      clear hx
      by_cases h9 : x.kind = 9
      · have b9 : (x.kind == 9) = true := beq_iff_eq.2 h9
        have hct : C = true := by
          rw [← HC.out]
          exact List.any_eq_true.2 ⟨x, List.mem_of_getElem? HX.out, b9⟩
        subst hct
        as_aux_lemma =>
        go_wp2
        go_ret
        exact ⟨rfl, rfl⟩
      · have b9 : (x.kind == 9) = false := beq_eq_false_iff_ne.2 h9
        go_wp2
        go_roundg (xs.length - (k + 1))
        case measure => have := Hgk.out; omega
        case rel =>
          refine ⟨k + 1, rfl, by omega, by go_num, rfl, fun j y hj hy => ?_⟩
          by_cases e : j = k
          · rw [e, HX.out] at hy
            injection hy with hy
            exact hy ▸ h9
          · exact HA.out j y (by omega) hy
    · obtain rfl : k = xs.length := by omega
      have j0 : ¬ (xs.length : Int) < (xs.length : Int) := by omega
      have hcf : C = false := by
        rw [← HC.out]
        cases ha : (xs.any fun o => o.kind == 9) with
        | false => rfl
        | true =>
          obtain ⟨x, hx, h9⟩ := List.any_eq_true.1 ha
          obtain ⟨j, hj⟩ := List.mem_iff_getElem?.1 hx
          exact absurd (beq_iff_eq.1 h9) (HA.out j x (List.getElem?_eq_some_iff.1 hj).1 hj)
      subst hcf
      as_aux_lemma =>
      go_wp2
      go_ret
      exact ⟨rfl, rfl⟩
set_option maxRecDepth 100000 in
set_option maxHeartbeats 4000000 in
theorem joinedL (w : World) (hV : VL w) (v0 : Value) (ps0 : List Op4) (h0 : EOq.In w v0 ps0) (v1 : Value) (qs0 : List Op4) (h1 : EOq.In w v1 qs0) :
    Calls Tryd.prog 13 #[v0, v1] w fun e w' => e = .returned (.bool true) ∧ Below w.heap.size w w' := by
  have hs1 := EOq.few w v0 ps0 100 h0 (by omega)
  have hs2 := EOq.few w v1 qs0 100 h1 (by omega)
  have HS1 := Lib.hid hs1
  have HS2 := Lib.hid hs2
  have HV := Lib.hid hV
  clear hs1 hs2 hV h0 h1
  go_enter Tryd.func13, Tryd.ntmps13
  go_wp2_with fail
  refine HS1.out.mono ?_
  rintro e w1 ⟨v2, rfl, hin1, hw⟩
  subst w1
  have hpl : (ps0.take 100).length ≤ 100 := List.length_take_le _ _
  have hp := rd_of_in hin1
  clear HS1 hin1
  generalize ps0.take 100 = ps at *
  have HP := Lib.hid hp
  clear hp
  go_wp2_with fail
  refine HS2.out.mono ?_
  rintro e w2 ⟨v3, rfl, hin2, hw⟩
  subst w2
  have hql : (qs0.take 100).length ≤ 100 := List.length_take_le _ _
  have hq := rd_of_in hin2
  clear HS2 hin2
  generalize qs0.take 100 = qs at *
  have HQ := Lib.hid hq
  have sp := stepsL w _ ps HP.out (by omega)
  clear hq
  obtain ⟨A1, c1, rfl, hc1⟩ := HP.out.slice
  obtain ⟨A2, c2, rfl, hc2⟩ := HQ.out.slice
  go_wp2_with fail
  refine sp.mono ?_
  rintro e w1 ⟨x1, rfl, r1, b1⟩
  have sq := stepsL w1 _ qs (HQ.out.new_ b1) (by omega)
  clear sp
  go_wp2_with fail
  refine sq.mono ?_
  rintro e w2 ⟨x2, rfl, r2, b2⟩
  have r1' := r1.new_ b2
  have bd := b1.trans (b2.mono b1.size)
  have HP2 := Lib.hid (HP.out.new_ bd)
  have HQ2 := Lib.hid (HQ.out.new_ bd)
  have HR := Lib.hid (fun (W : World) (b : Below w2.heap.size w2 W) => runs W ((HV.out.nb bd).nb b))
  have HB := Lib.hid bd
  have hends := ends w2 _ ps HP2.out (by omega)
  clear sq r1 b2 b1 HP HQ HV bd
  have HE := Lib.hid hends
  clear hends
  by_cases hbad : ((listB ps).2 ≠ 0 ∨ (listB qs).2 ≠ 0) ∨ (ps.any fun o => o.kind == 9) = true
  · obtain ⟨X1, y1, rfl, -⟩ := r1'.slice
    obtain ⟨X2, y2, rfl, -⟩ := r2.slice
    clear r1' r2
    generalize (listB ps).2 = C1 at *
    generalize (listB qs).2 = C2 at *
    by_cases c0 : C1 = 0
    · have b1 : (C1 != 0) = false := by simp [c0]
      by_cases d0 : C2 = 0
      · have b2 : (C2 != 0) = false := by simp [d0]
        have b3 := hbad.resolve_left (fun h => h.elim (fun h => h c0) (fun h => h d0))
        rw [b3] at HE
        as_aux_lemma =>
        go_wp2_with fail
        refine HE.out.mono ?_
        rintro e w3 ⟨rfl, hw⟩
        subst w3
        go_wp2_with fail
        refine (HR.out _ (Below.refl _ _)).mono ?_
        rintro e w9 ⟨rfl, b4⟩
        go_wp2
        go_ret
        exact ⟨rfl, HB.out.trans (b4.mono HB.out.size)⟩
      · have b2 : (C2 != 0) = true := by simp [d0]
        as_aux_lemma =>
        go_wp2_with fail
        refine (HR.out _ (Below.refl _ _)).mono ?_
        rintro e w9 ⟨rfl, b4⟩
        go_wp2
        go_ret
        exact ⟨rfl, HB.out.trans (b4.mono HB.out.size)⟩
    · have b1 : (C1 != 0) = true := by simp [c0]
      as_aux_lemma =>
      go_wp2_with fail
      refine (HR.out _ (Below.refl _ _)).mono ?_
      rintro e w9 ⟨rfl, b4⟩
      go_wp2
      go_ret
      exact ⟨rfl, HB.out.trans (b4.mono HB.out.size)⟩
  have e1 : (listB ps).2 = 0 := Decidable.byContradiction fun h => hbad (.inl (.inl h))
  have e2 : (listB qs).2 = 0 := Decidable.byContradiction fun h => hbad (.inl (.inr h))
  have e3 : (ps.any fun o => o.kind == 9) = false := by
    cases h : (ps.any fun o => o.kind == 9) with
    | false => rfl
    | true => exact absurd (.inr h) hbad
  have h9 : ∀ o ∈ ps, o.kind ≠ 9 := fun o ho h => by
    have : (ps.any fun o => o.kind == 9) = true := List.any_eq_true.2 ⟨o, ho, beq_iff_eq.2 h⟩
    rw [e3] at this
    cases this
  rw [e3] at HE
  have hj := joined (by omega) (check_of_list e1) (check_of_list e2) e1 e2 h9
  have hbf := behind_fin (by omega) (check_of_list e1) (check_of_list e2) e1 h9
  have hcl := count_len e1
  obtain ⟨ba, fa, ea, -, -, -, hla⟩ := listB_form e1
  obtain ⟨bb, fb, eb, -, -, -, hlb⟩ := listB_form e2
  rw [e1, e2]
  rw [ea, eb, List.dropLast_concat] at hj
  have hbf : listB (ps ++ finO :: qs) = (ba ++ [fa], 0) := by rw [hbf]; exact Prod.ext ea e1
  rw [ea] at hcl r1'
  rw [eb] at r2
  have lba : (ba ++ [fa]).length = ba.length + 1 := by simp
  have lbb : (bb ++ [fb]).length = bb.length + 1 := by simp
  have hfr : ∀ (W : World), Below w2.heap.size w2 W → True := fun _ _ => trivial
  obtain ⟨g1, o1, k1, hx1, hk1, -⟩ := r1'.at (by rw [lba]; omega)
  subst hx1
  have hfront := Rd4.front r1' hk1
  obtain ⟨X2, y2, rfl, hk2⟩ := r2.slice
  have HRA := Lib.hid r1'
  have HRB := Lib.hid r2
  have HF := Lib.hid hfront
  have HJ := Lib.hid hj
  have HBF := Lib.hid hbf
  have HCL := Lib.hid hcl
  clear r1' r2 hfront hj hbf hcl hbad e1 e2 e3 h9 ea eb hfr
  rw [lba] at hk1 ⊢
  rw [lbb] at hk2 ⊢
  have z1 : ((ba.length : Int) + 1 == 0) = false := beq_eq_false_iff_ne.2 (by omega)
  have z2 : ((bb.length : Int) + 1 == 0) = false := beq_eq_false_iff_ne.2 (by omega)
  have z1' : (((ba.length + 1 : Nat) : Int) == 0) = false := beq_eq_false_iff_ne.2 (by omega)
  have z2' : (((bb.length + 1 : Nat) : Int) == 0) = false := beq_eq_false_iff_ne.2 (by omega)
  go_wp2_with fail
  refine HE.out.mono ?_
  rintro e w3 ⟨rfl, hw⟩
  subst w3
  clear HE
  have T0 : Turn [1] w2 ow0 (w2.alloc (.cells #[] 32)) (ow0.set w2.heap.size [1, 1]) := (Turn.refl _ _ _).alloc _ _
  have hsp := srcR (HP2.out.new_ (T0.new_ ow0 [1]).below)
  go_wp2_with (at_builtin; refine wpList_app4 rfl (.tmp 50) (.tmp 51) rfl rfl (Lst.new0 w2 ow0 [1, 1]) rfl hsp (by first | omega | (simp; omega)) ?_)
  intro s1 w3 ow3 l1 t1
  have T1 := T0.trans (t1.up (by simp))
  clear hsp t1 T0
  have hsq := srcR (HQ2.out.new_ (T1.new_ ow0 [1]).below)
  go_wp2_with (at_builtin; refine wpList_app4 rfl (.tmp 52) (.tmp 53) rfl rfl l1 rfl hsq (by first | omega | (simp; omega)) ?_)
  intro s2 w4 ow4 l2 t2
  have T2 := T1.trans (t2.up (by simp))
  clear l1 hsq T1 t2
  have sc := stepsL w4 s2 (ps ++ qs) l2.rd (by simp; omega)
  clear l2
  go_wp2_with fail
  refine sc.mono ?_
  rintro e w5 ⟨x3, rfl, r3, b3⟩
  have D2 := (T2.new_ ow0 [1]).below
  have D5 := D2.trans (b3.mono D2.size)
  clear sc T2 b3 D2
  have T4 : Turn [1] w5 ow0 (w5.alloc (.cells #[] 32)) (ow0.set w5.heap.size [1, 1]) := (Turn.refl _ _ _).alloc _ _
  have D6 := (T4.new_ ow0 [1]).below
  have hsf := srcR (HF.out.new_ (D5.trans (D6.mono D5.size)))
  have hw1 : IntKind.i64.wrap (((ba.length + 1 : Nat) : Int) - 1) = (ba.length : Int) := by rw [IntKind.wrap_i64]; omega
  have hw2 : IntKind.i64.wrap ((ba.length : Int) + 1 - 1) = (ba.length : Int) := by rw [IntKind.wrap_i64]; omega
  have hw3 : IntKind.i64.wrap (ba.length : Int) = (ba.length : Int) := by rw [IntKind.wrap_i64]; omega
  clear D6
  go_wp2_with (at_builtin; refine wpList_app4 rfl (.tmp 58) (.tmp 63) rfl rfl (Lst.new0 w5 ow0 [1, 1]) rfl hsf (by first | omega | (simp; omega)) ?_)
  intro s3 w6 ow6 l3 t3
  have T5 := T4.trans (t3.up (by simp))
  have D6 := (T5.new_ ow0 [1]).below
  clear hsf T4 t3
  have hsb := srcR (rd4 (HRB.out.new_ (D5.trans (D6.mono D5.size))))
  clear D6
  go_wp2_with (at_builtin; refine wpList_app4 rfl (.tmp 64) (.tmp 65) rfl rfl l3 (congrArg (fun n => Value.slice X2 n y2) lbb.symm) hsb (by first | omega | (simp; omega)) ?_)
  intro s4 w7 ow7 l4 t4
  have T6 := T5.trans (t4.up (by simp))
  have D6 := (T6.new_ ow0 [1]).below
  have hw : Reads w7 s4 (ba ++ (bb ++ [fb])).length (EOq.css (ba ++ (bb ++ [fb]))) := by simpa using Row.reads l4
  have D7 := D5.trans (D6.mono D5.size)
  have r3' := r3.new_ D6
  clear hsb T5 l3 l4 t4 T6 D6 r3 hw1 hw2 hw3
  have lw : (ba ++ (bb ++ [fb])).length = ba.length + (bb.length + 1) := by simp
  obtain ⟨X4, y4, rfl, -⟩ := hw.slice
  by_cases hbig : 4096 < (ba ++ (bb ++ [fb])).length
  · have hS := HJ.out.1 hbig
    rw [hS]
    rw [lw] at hbig ⊢
    have g1 : (4096 : Int) < ((ba.length + (bb.length + 1) : Nat) : Int) := by omega
    have g2 : (4096 : Int) < (ba.length : Int) + ((bb.length : Int) + 1) := by omega
    have b5 : ((5 : Int) == 5) = true := rfl
    clear r3' hw hS HJ HRA HRB HF HBF HCL HP2 HQ2
    as_aux_lemma =>
    go_wp2_with fail
    refine (HR.out _ D7).mono ?_
    rintro e w9 ⟨rfl, b4⟩
    go_wp2
    go_ret
    exact ⟨rfl, HB.out.trans ((D7.trans (b4.mono D7.size)).mono HB.out.size)⟩
  have hS := HJ.out.2 hbig
  rw [hS] at r3' ⊢
  obtain ⟨X3, y3, rfl, -⟩ := r3'.slice
  have hsame := EOq.same_yes w7 _ _ (ba ++ (bb ++ [fb])) (by omega) r3' hw
  rw [lw] at hbig ⊢ hsame
  have g1 : ¬ (4096 : Int) < ((ba.length + (bb.length + 1) : Nat) : Int) := by omega
  have g2 : ¬ (4096 : Int) < (ba.length : Int) + ((bb.length : Int) + 1) := by omega
  have HSA := Lib.hid hsame
  clear r3' hw hS HJ HRB HF hsame
  go_wp2_with fail
  refine HSA.out.mono ?_
  rintro e w8 ⟨rfl, k8, hw8⟩
  have D8 : Below w2.heap.size w2 w8 := D7.trans ((hw8 ▸ ((New.refl w7 ow0).drewN k8).below).mono D7.size)
  clear hw8 D7 HSA D5
  have T0 : Turn [1] w8 ow0 (w8.alloc (.cells #[] 32)) (ow0.set w8.heap.size [1, 1]) := (Turn.refl _ _ _).alloc _ _
  have D9 := (T0.new_ ow0 [1]).below
  have hsp := srcR (HP2.out.new_ (D8.trans (D9.mono D8.size)))
  clear D9
  go_wp2_with (at_builtin; refine wpList_app4 rfl (.tmp 84) (.tmp 85) rfl rfl (Lst.new0 w8 ow0 [1, 1]) rfl hsp (by first | omega | (simp; omega)) ?_)
  intro s1 w9 ow9 l1 t1
  have T1 := T0.trans (t1.up (by simp))
  clear hsp T0 t1
  have l2 : Lst _ ow9 [1, 1] s1 ps := Row.alloc_ l1 (.cells (EOq.cs ⟨9, 0, 0, 0⟩).toArray 32)
  have so := srcO w9 ⟨9, 0, 0, 0⟩
  have T2 := T1.alloc_ (.cells (EOq.cs ⟨9, 0, 0, 0⟩).toArray 32)
  clear l1 T1
  go_wp2_with (at_builtin; refine wpList_app4 rfl (.tmp 86) (.tmp 88) rfl rfl l2 rfl so (by first | omega | (simp; omega)) ?_)
  intro s2 w10 ow10 l3 t2
  have T3 := T2.trans (t2.up (by simp))
  have D9 := (T3.new_ ow0 [1]).below
  have hsq := srcR (HQ2.out.new_ (D8.trans (D9.mono D8.size)))
  clear l2 T2 so t2 D9
  go_wp2_with (at_builtin; refine wpList_app4 rfl (.tmp 89) (.tmp 90) rfl rfl l3 rfl hsq (by first | omega | (simp; omega)) ?_)
  intro s3 w11 ow11 l4 t3
  have T4 := T3.trans (t3.up (by simp))
  have D9 := (T4.new_ ow0 [1]).below
  have D11 := D8.trans (D9.mono D8.size)
  have hl5 : Rd4 w11 s3 (ps ++ finO :: qs) := by simpa [finO] using l4.rd
  have sd := stepsL w11 s3 (ps ++ finO :: qs) hl5 (by simp; omega)
  rw [HBF.out] at sd
  clear l3 T3 hsq T4 D9 l4 t3 hl5 D8 HBF HQ2
  go_wp2_with fail
  refine sd.mono ?_
  rintro e w12 ⟨x4, rfl, r4, b4⟩
  have D12 := D11.trans (b4.mono D11.size)
  clear sd b4 D11
  have T0 : Turn [1] w12 ow0 (w12.alloc (.cells #[] 32)) (ow0.set w12.heap.size [1, 1]) := (Turn.refl _ _ _).alloc _ _
  have D9 := (T0.new_ ow0 [1]).below
  have hsp := srcR (HP2.out.new_ (D12.trans (D9.mono D12.size)))
  clear D9
  go_wp2_with (at_builtin; refine wpList_app4 rfl (.tmp 96) (.tmp 97) rfl rfl (Lst.new0 w12 ow0 [1, 1]) rfl hsp (by first | omega | (simp; omega)) ?_)
  intro s4 w13 ow13 l5 t5
  have T1 := T0.trans (t5.up (by simp))
  have D9 := (T1.new_ ow0 [1]).below
  have D13 := D12.trans (D9.mono D12.size)
  have r4' := r4.new_ D9
  have cn := count w13 s4 ps l5.rd (by omega) fun hc => nested_of_check hc
  rw [HCL.out] at cn
  clear r4 T0 hsp t5 T1 D9 D12 l5 HCL HP2
  go_wp2_with fail
  refine cn.mono ?_
  rintro e w14 ⟨rfl, b14⟩
  have D14 := D13.trans (b14.mono D13.size)
  have r5 := r4'.new_ b14
  have ra := HRA.out.new_ D14
  obtain ⟨X5, y5, rfl, -⟩ := r5.slice
  have hs2 := EOq.same_yes w14 _ _ (ba ++ [fa]) (by omega) r5 ra
  rw [lba] at hs2 ⊢
  have zl : ((ba.length : Int) + 1 == (ba.length : Int) + 1) = true := beq_self_eq_true _
  have zl' : (((ba.length + 1 : Nat) : Int) == ((ba.length + 1 : Nat) : Int)) = true := beq_self_eq_true _
  clear r4' r5 ra HRA D13 b14 cn
  have HS2 := Lib.hid hs2
  clear hs2
  go_wp2_with fail
  refine HS2.out.mono ?_
  rintro e w15 ⟨rfl, k15, hw15⟩
  have D15 : Below w2.heap.size w2 w15 := D14.trans ((hw15 ▸ ((New.refl w14 ow0).drewN k15).below).mono D14.size)
  clear hw15 D14 HS2
  go_wp2_with fail
  refine (HR.out _ D15).mono ?_
  rintro e w9 ⟨rfl, b4⟩
  go_wp2
  go_ret
  exact ⟨rfl, HB.out.trans ((D15.trans (b4.mono D15.size)).mono HB.out.size)⟩
end CD
end Go.Proofs.YtnehiooioodkfaaDoor
