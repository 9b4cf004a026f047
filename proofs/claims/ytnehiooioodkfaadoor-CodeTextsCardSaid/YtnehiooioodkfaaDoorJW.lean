/-
  CODE: the law CodeTexts.
-/
import Derived.Test.YtnehiooioodkfaaDoorJR
import Derived.Test.YtnehiooioodkfaaDoorJV
set_option linter.unusedVariables false
set_option linter.unusedSimpArgs false
namespace Go.Proofs.YtnehiooioodkfaaDoor
open Go Go.RowKit
namespace CD
theorem wpList_app4g {ops : Array Oper} {rest : List Oper} {o : Oper} {a : Act} {Q : Exit → Act → World → Prop} {w : World} {ow : Ow} {p : List Nat} (hw : Region.wanted o (yielded ops a.tmps) = true) (s x : Operand)
    (ho : o.op = .call { callee := .builtin .append, args := #[s, x], argTypes := #[22, 22] })
    {v : Value} {xs ys : List Op4} (hs : a.eval s = v) (hr : Lst w ow p v xs) {xv : Value} (hx : a.eval x = xv) (hsrc : Src Tryd.prog 4 22 xv ys.length (EOq.css ys) w) (hb : xs.length + ys.length ≤ 1000000)
    (h : ∀ v' w' ow', Lst w' ow' p v' (xs ++ ys) → Turn p w ow w' ow' → wpList Tryd.prog ops Q rest (a.put o.dst v') w') : wpList Tryd.prog ops Q (o :: rest) a w := by
  refine wpList_step fun K hK => ?_
  rw [if_pos hw]
  obtain ⟨v', w', ow', hrun, h2, h3⟩ := run_append_row (P := Tryd.prog) (ty := o.type) (t := 22) (tx := 22) (T := 32) (sz := 4) (bytes := 32) Tryd.underlying22 EOq.info rfl hr hsrc (by unfold maxLen; omega) (by omega)
  unfold Oper.wp execOp
  simp only [ho, resolve, invoke, builtin, Sem.run_bind, Sem.run_pure, Result.andThen_ok, List.map_toArray, List.map_cons, List.map_nil, hs, hx, hrun]
  refine hK _ _ (h v' w' ow' ?_ h3)
  unfold Lst
  rw [List.length_append, EOq.css_append]
  exact h2
theorem par_zero {z : Nat} {ts : List (Nat × List UInt8)} {ops : List Op4} {opn : Nat} {p : List Op4} {k : Int} (h : parT z ts ops opn = (p, k, 0)) : k = 0 := (par_append z z _ ts ops opn [] p k (Nat.le_refl _) h).1
theorem texts_join {A B : ByteArray} (ha : A.size ≤ 1500) (hb : B.size ≤ 1500) (h1 : (parseB A).2.2 = 0) (h2 : (parseB B).2.2 = 0) :
    ((parseB A).1.length + (parseB B).1.length ≤ 256 → parseB (A ++ ⟨#[32]⟩ ++ B) = ((parseB A).1 ++ (parseB B).1, 0, 0)) ∧ (256 < (parseB A).1.length + (parseB B).1.length → (parseB (A ++ ⟨#[32]⟩ ++ B)).2.2 = 4) := by
  have l1 := (checkB_op.1 (parse_good h1)).1
  have hp := parseB_par A (by omega)
  have hq := parseB_par B (by omega)
  have hc := parseB_par (A ++ ⟨#[32]⟩ ++ B) (by simp only [ByteArray.size_append]; show A.size + 1 + B.size ≤ 4096; omega)
  have hl : (A ++ ⟨#[32]⟩ ++ B).data.toList = A.data.toList ++ 32 :: B.data.toList := by simp
  rw [hl, tok_append 32 (by decide)] at hc
  rw [hc]
  generalize (A ++ ⟨#[32]⟩ ++ B).size = z at *
  generalize parseB A = R1 at *
  generalize parseB B = R2 at *
  obtain ⟨p, k1, e1⟩ := R1
  obtain ⟨q, k2, e2⟩ := R2
  simp only at h1 h2 l1 ⊢
  subst h1 h2
  obtain ⟨-, hap⟩ := par_append A.size z _ _ [] 0 (tokG (0 + A.data.toList.length + 1) [] B.data.toList) p k1 (Nat.le_refl _) hp.symm
  rw [hap]
  obtain ⟨r, hr, hbe⟩ := par_behind B.size z _ _ [] 0 q k2 (Nat.le_refl _) hq.symm
  rw [List.nil_append] at hr
  subst hr
  obtain ⟨b1, b2⟩ := hbe p l1
  obtain ⟨w1, w2⟩ := par_words z z _ (tokG 0 [] B.data.toList) (tokG (0 + A.data.toList.length + 1) [] B.data.toList) p 0 (Nat.le_refl _) (tok_snd _ _ _ _)
  refine ⟨fun h => ?_, fun h => by rw [w2]; exact b2 h⟩
  rw [b1 h] at w1 w2
  generalize hR : parT z (tokG (0 + A.data.toList.length + 1) [] B.data.toList) p 0 = R at *
  obtain ⟨R1, R2, R3⟩ := R
  simp only at w1 w2
  subst w1 w2
  rw [par_zero hR]
theorem one_text {p : List Op4} (h : (checkB p).2 = 0) {o : Op4} (ho : o ∈ p) (hr : Rg o) (h10 : o.kind ≠ 10) (h11 : o.kind ≠ 11) : (printB [o]).2 = 0 := by
  have hf := checkG_all _ _ _ (checkB_zero h).2 o ho
  have hk := fieldsB_kind hf
  have hc : (checkB [o]).2 = 0 := checkB_op.2 ⟨by simp, by rw [opG, if_neg (by rw [hf]; decide), if_neg h10, if_neg h11, opG]⟩
  unfold printB
  rw [if_pos hc, if_neg]
  have hn := numsT_len o hr
  have hw := wordOf_len o.kind
  have e : textB [o] = (wordOf o.kind).data.toList ++ numsT o := by
    show textO o ++ [] = _
    unfold textO
    rw [if_neg h10, List.append_nil, List.append_nil]
  rw [e, List.length_append]
  omega
theorem rd_one {w : World} {g off cap : Nat} {xs : List Op4} {k : Nat} {x : Op4} (h : Rd4 w (.slice (some ⟨g, off, none⟩) xs.length cap) xs) (hx : xs[k]? = some x) : Rd4 w (.slice (some ⟨g, off + k * 4, none⟩) 1 1) [x] := by
  obtain ⟨g', off', cap', hv, r0, r1, r2, r3⟩ := at4r h hx
  simp only [Value.slice.injEq, Option.some.injEq, Addr.mk.injEq, and_true, true_and] at hv
  obtain ⟨⟨rfl, rfl⟩, rfl⟩ := hv
  refine ⟨_, 1, rfl, Nat.le_refl _, fun _ => .inr ⟨g, off + k * 4, 1, rfl, Nat.le_refl _, fun j u hj => ?_⟩⟩
  have hc : EOq.css [x] = [.int .i64 x.kind, .int .i64 x.res, .int .i64 x.n, .int .i64 x.v] := rfl
  rw [hc] at hj
  rcases j with _ | _ | _ | _ | j
  · injection hj with hj; subst hj; exact r0
  · injection hj with hj; subst hj; exact r1
  · injection hj with hj; subst hj; exact r2
  · injection hj with hj; subst hj; exact r3
  · cases hj
set_option maxRecDepth 100000 in
set_option maxHeartbeats 4000000 in
theorem textsLaw (w : World) (hV : VL w) (s0 : ByteArray) (hs0 : s0.size ≤ maxLen) (s1 : ByteArray) (hs1 : s1.size ≤ maxLen) :
    Calls Tryd.prog 14 #[.string s0, .string s1] w fun e w' => e = .returned (.bool true) ∧ Below w.heap.size w w' := by
  have hf1 := few w s0 1500 hs0 (by omega)
  have hf2 := few w s1 1500 hs1 (by omega)
  have HF1 := Lib.hid hf1
  have HF2 := Lib.hid hf2
  have HV := Lib.hid hV
  have HR := Lib.hid (fun (W : World) (b : Below w.heap.size w W) => runs W (HV.out.nb b))
  clear hf1 hf2 hV hs0 hs1
  go_enter Tryd.func14, Tryd.ntmps14
  go_wp2_with fail
  refine Calls.mono HF1.out ?_
  rintro e w1 ⟨rfl, hw⟩
  subst w1
  have hA := fewB_size s0 1500
  generalize fewB s0 1500 = A at *
  clear HF1
  go_wp2_with fail
  refine Calls.mono HF2.out ?_
  rintro e w1 ⟨rfl, hw⟩
  subst w1
  have hB := fewB_size s1 1500
  generalize fewB s1 1500 = B at *
  clear HF2
  have hpa := parseR w A (by omega) HV.out (L := (parseB A).1) (a := (parseB A).2.1) (c := (parseB A).2.2) rfl
  have hpb := fun (W : World) (hv : VL W) => parseR W B (by omega) hv (L := (parseB B).1) (a := (parseB B).2.1) (c := (parseB B).2.2) rfl
  have hj := fun h1 h2 => texts_join hA hB h1 h2
  have hpc := fun (W : World) (hv : VL W) => parseR W (A ++ ⟨#[32]⟩ ++ B) (by simp only [ByteArray.size_append]; show A.size + 1 + B.size ≤ 1000000; omega) hv (L := (parseB (A ++ ⟨#[32]⟩ ++ B)).1) (a := (parseB (A ++ ⟨#[32]⟩ ++ B)).2.1) (c := (parseB (A ++ ⟨#[32]⟩ ++ B)).2.2) rfl
  have hga := parse_good (s := A)
  have hra := parse_rg A
  have hla := parseB_len A
  have hlb := parseB_len B
  generalize parseB (A ++ ⟨#[32]⟩ ++ B) = RC at *
  generalize (parseB A).1 = p at *
  generalize (parseB A).2.1 = ka at *
  generalize (parseB A).2.2 = ea at *
  generalize (parseB B).1 = q at *
  generalize (parseB B).2.1 = kb at *
  generalize (parseB B).2.2 = eb at *
  have HPA := Lib.hid hpa
  have HPB := Lib.hid hpb
  have HPC := Lib.hid hpc
  have HJ := Lib.hid hj
  have HGA := Lib.hid hga
  have HRA := Lib.hid hra
  clear hpa hpb hpc hj hga hra
  go_wp2_with fail
  refine Calls.mono HPA.out ?_
  rintro e w1 ⟨x1, rfl, r1, b1⟩
  have hpb := HPB.out w1 (HV.out.nb b1)
  have HB1 := Lib.hid b1
  have R1 := Lib.hid (rd4 r1)
  obtain ⟨X1, y1, rfl, -⟩ := r1.slice
  have HPB' := Lib.hid hpb
  clear b1 r1 HPA HPB hpb
  go_wp2_with fail
  refine Calls.mono HPB'.out ?_
  rintro e w2 ⟨x2, rfl, r2, b2⟩
  have HB2 := Lib.hid (HB1.out.trans (b2.mono HB1.out.size))
  have R1' := Lib.hid (R1.out.new_ b2)
  have R2 := Lib.hid (rd4 r2)
  obtain ⟨X2, y2, rfl, -⟩ := r2.slice
  clear HPB' b2 r2 R1 HB1
  by_cases hea : ea = 0
  rotate_left
  · have z1 : (ea != 0) = true := by simp [hea]
    as_aux_lemma =>
    go_wp2_with fail
    refine (HR.out _ HB2.out).mono ?_
    rintro e w9 ⟨rfl, b9⟩
    go_wp2
    go_ret
    exact ⟨rfl, HB2.out.trans (b9.mono HB2.out.size)⟩
  by_cases heb : eb = 0
  rotate_left
  · have z1 : (ea != 0) = false := by simp [hea]
    have z2 : (eb != 0) = true := by simp [heb]
    as_aux_lemma =>
    go_wp2_with fail
    refine (HR.out _ HB2.out).mono ?_
    rintro e w9 ⟨rfl, b9⟩
    go_wp2
    go_ret
    exact ⟨rfl, HB2.out.trans (b9.mono HB2.out.size)⟩
  subst hea heb
  have hj := HJ.out rfl rfl
  have hpc := HPC.out w2 (HV.out.nb HB2.out)
  have sz1 : ¬ 9223372036854775807 < A.size + 1 := by omega
  have sz2 : ¬ 9223372036854775807 < A.size + 1 + B.size := by omega
  have sz3 : ¬ 9223372036854775807 < (A ++ ⟨#[32]⟩).size + B.size := by simp only [ByteArray.size_append]; show ¬ 9223372036854775807 < A.size + 1 + B.size; omega
  clear HJ HPC
  have HPC := Lib.hid hpc
  clear hpc
  go_wp2_with fail
  refine Calls.mono HPC.out ?_
  rintro e w3 ⟨x3, rfl, r3, b3⟩
  have HB3 := Lib.hid (HB2.out.trans (b3.mono HB2.out.size))
  have R13 := Lib.hid (R1'.out.new_ b3)
  have R23 := Lib.hid (R2.out.new_ b3)
  have hwl : IntKind.i64.wrap ((p.length : Int) + (q.length : Int)) = (p.length : Int) + (q.length : Int) := by rw [IntKind.wrap_i64]; omega
  clear HPC b3 R1' R2 HB2 sz1 sz2 sz3 hA hB
  by_cases hbig : 256 < p.length + q.length
  · have h4 := hj.2 hbig
    generalize RC.2.2 = e4 at *
    subst h4
    have i1 : (256 : Int) < (p.length : Int) + (q.length : Int) := by omega
    clear r3 hj
    as_aux_lemma =>
    go_wp2_with fail
    refine (HR.out _ HB3.out).mono ?_
    rintro e w9 ⟨rfl, b9⟩
    go_wp2
    go_ret
    exact ⟨rfl, HB3.out.trans (b9.mono HB3.out.size)⟩
  have i1 : ¬ (256 : Int) < (p.length : Int) + (q.length : Int) := by omega
  have hRC := hj.1 (by omega)
  subst hRC
  have R3 := Lib.hid (rd4 r3)
  obtain ⟨X3, y3, rfl, -⟩ := r3.slice
  clear r3 hj
  have T0 : Turn [1] w3 ow0 (w3.alloc (.cells #[] 32)) (ow0.set w3.heap.size [1, 1]) := (Turn.refl _ _ _).alloc _ _
  have hsp := srcR (R13.out.new_ (T0.new_ ow0 [1]).below)
  go_wp2_with (at_builtin; refine wpList_app4g (by simp [Region.wanted, yielded]) (.tmp 67) (.tmp 68) rfl rfl (Lst.new0 w3 ow0 [1, 1]) rfl hsp (by first | omega | (simp; omega)) ?_)
  intro s1 w4 ow4 l1 t1
  have T1 := T0.trans (t1.up (by simp))
  clear hsp t1 T0
  have hsq := srcR (R23.out.new_ (T1.new_ ow0 [1]).below)
  go_wp2_with (at_builtin; refine wpList_app4g (by simp [Region.wanted, yielded]) (.tmp 69) (.tmp 70) rfl rfl l1 rfl hsq (by first | omega | (simp; omega)) ?_)
  intro s2 w5 ow5 l2 t2
  have bd5 := ((T1.trans (t2.up (by simp))).new_ ow0 [1]).below
  have HB5 := Lib.hid (HB3.out.trans (bd5.mono HB3.out.size))
  have R15 := Lib.hid (R13.out.new_ bd5)
  have hrd := l2.rd
  obtain ⟨X6, y6, rfl, -⟩ := hrd.slice
  have hsm := same_rd w5 _ _ (p ++ q) (by rw [List.length_append]; omega) (R3.out.new_ bd5) hrd
  rw [List.length_append] at hsm
  try rw [List.length_append]
  have HSM := Lib.hid hsm
  clear l1 l2 hsq T1 t2 bd5 hrd hsm R13 R23 R3 HB3
  go_wp2_with fail
  refine HSM.out.mono ?_
  rintro e w6 ⟨rfl, k6, hw6⟩
  have bd6 : Below w5.heap.size w5 w6 := hw6 ▸ drewN_below w5 k6
  have HB6 := Lib.hid (HB5.out.trans (bd6.mono HB5.out.size))
  have R16 := Lib.hid (R15.out.new_ bd6)
  clear hw6 HSM HB5 bd6 R15
  have hck := HGA.out (by first | rfl | trivial)
  have HCK := Lib.hid hck
  clear HGA hck
  go_wp2
  go_loopg [14] p.length (fun gn a wr => ∃ (k : Nat), gn = p.length - k ∧ k ≤ p.length ∧ a = .int .i64 (k : Int) ∧ Below w6.heap.size w6 wr)
  case atStart => exact ⟨0, rfl, Nat.zero_le _, rfl, Below.refl _ _⟩
  case round =>
    obtain ⟨k, hgk, hk, rfl, bd⟩ := hrel
    have Hgk := Lib.hid hgk
    have HB7 := Lib.hid (HB6.out.trans (bd.mono HB6.out.size))
    have R17 := Lib.hid (R16.out.new_ bd)
    have Hbd := Lib.hid bd
    clear hgk bd
    by_cases hlt : k < p.length
    · have j0 : (k : Int) < (p.length : Int) := by omega
      have hwk : IntKind.i64.wrap ((k : Int) + 1) = (k : Int) + 1 := by rw [IntKind.wrap_i64]; omega
      obtain ⟨x, hx⟩ : ∃ x, p[k]? = some x := ⟨_, List.getElem?_eq_getElem (by omega)⟩
      have hmem := List.mem_of_getElem? hx
      obtain ⟨g, off, cap, hv, r0, -⟩ := at4r R17.out hx
      obtain ⟨hX1, hcap⟩ : X1 = some ⟨g, off, none⟩ ∧ y1 = cap := by
        simp only [Value.slice.injEq] at hv
        exact ⟨hv.1, hv.2.2⟩
      subst hX1 hcap
      have ho := rd_one R17.out hx
      obtain ⟨A9, c9, hv2, hcp, -⟩ := R17.out
      have hcap : p.length ≤ y1 := by
        simp only [Value.slice.injEq, true_and] at hv2
        omega
      clear hv2 hcp hv A9 c9
      by_cases h10 : x.kind = 10
      · have b10 : (x.kind == 10) = true := beq_iff_eq.2 h10
        clear ho hx hmem
        go_wp2
        go_roundg (p.length - (k + 1))
        case measure => have := Hgk.out; omega
        case rel => exact ⟨k + 1, rfl, by omega, by go_num, Hbd.out⟩
      · have b10 : (x.kind == 10) = false := beq_eq_false_iff_ne.2 h10
        by_cases h11 : x.kind = 11
        · have b11 : (x.kind == 11) = true := beq_iff_eq.2 h11
          clear ho hx hmem
          go_wp2
          go_roundg (p.length - (k + 1))
          case measure => have := Hgk.out; omega
          case rel => exact ⟨k + 1, rfl, by omega, by go_num, Hbd.out⟩
        · have b11 : (x.kind == 11) = false := beq_eq_false_iff_ne.2 h11
          have hrx := HRA.out x hmem
          have hone := one_text HCK.out hmem hrx h10 h11
          have hrl : ∀ o ∈ [x], Rg o := fun o ho => by rw [List.mem_singleton.1 ho]; exact hrx
          have hpr := print wr _ [x] ho (by simp) hrl (HV.out.nb HB7.out)
          have hpy := print_back hone hrl
          have hsz := printB_size [x]
          rw [hone] at hpr
          generalize (printB [x]).1 = tx at *
          have HPR := Lib.hid hpr
          have HX := Lib.hid hx
          clear hpr hone hmem ho hx hrx hrl
          go_wp2_with fail
          refine HPR.out.mono ?_
          rintro e w8 ⟨rfl, b8⟩
          have HB8 := Lib.hid (HB7.out.trans (b8.mono HB7.out.size))
          have hpx := parseR w8 tx (by omega) (HV.out.nb HB8.out) hpy
          have R18 := Lib.hid (R17.out.new_ b8)
          have Hbd8 := Lib.hid (Hbd.out.trans (b8.mono Hbd.out.size))
          have HPX := Lib.hid hpx
          clear hpx HPR b8 R17 HB7 Hbd r0
          go_wp2_with fail
          refine Calls.mono HPX.out ?_
          rintro e w9 ⟨v9, rfl, r9, b9⟩
          have Hbd9 := Lib.hid (Hbd8.out.trans (b9.mono Hbd8.out.size))
          have hR19 := R18.out.new_ b9
          obtain ⟨g1, off1, cap1, hv1, a0, a1, a2, a3⟩ := at4r hR19 HX.out
          simp only [Value.slice.injEq, Option.some.injEq, Addr.mk.injEq, and_true, true_and] at hv1
          obtain ⟨⟨rfl, rfl⟩, rfl⟩ := hv1
          obtain ⟨g2, off2, cap2, rfl, c0, c1, c2, c3⟩ := at4 (xs := [x]) (k := 0) r9 rfl
          simp only [Nat.zero_mul, Nat.add_zero, List.length_singleton] at c0 c1 c2 c3
          clear R18 hR19 r9 b9 HPX Hbd8 HB8 HX
          go_wp2
          go_region
          all_goals
            go_wp2
            go_roundg (p.length - (k + 1))
            case measure => have := Hgk.out; omega
            case rel => exact ⟨k + 1, rfl, by omega, by go_num, Hbd9.out.drew⟩
    · obtain rfl : k = p.length := by omega
      have j0 : ¬ (p.length : Int) < (p.length : Int) := by omega
      as_aux_lemma =>
      go_wp2_with fail
      refine (HR.out _ HB7.out).mono ?_
      rintro e w9 ⟨rfl, b9⟩
      go_wp2
      go_ret
      exact ⟨rfl, HB7.out.trans (b9.mono HB7.out.size)⟩
end CD
end Go.Proofs.YtnehiooioodkfaaDoor
