/-
  CODE: the law CodeLimits.
-/
import Derived.Test.YtnehiooioodkfaaDoorJS
import Derived.Test.YtnehiooioodkfaaDoorPB
import Derived.Laws.BytesArg
set_option linter.unusedVariables false
set_option linter.unusedSimpArgs false
namespace Go.Proofs.YtnehiooioodkfaaDoor
open Go Go.RowKit
namespace CD
def zeroO : Op4 := ⟨0, 0, 0, 0⟩
theorem css_zero (D : Nat) : EOq.css (List.replicate D zeroO) = List.replicate (D * 4) (.int .i64 0) := by
  induction D with
  | zero => rfl
  | succ D ih =>
    rw [List.replicate_succ, show zeroO :: List.replicate D zeroO = [zeroO] ++ List.replicate D zeroO from rfl, EOq.css_append, ih, Nat.add_mul, Nat.one_mul, Nat.add_comm (D * 4) 4, ← List.replicate_append_replicate]
    rfl
theorem made_zero (D : Nat) : (madeCells #[.int .i64 0, .int .i64 0, .int .i64 0, .int .i64 0] (D * 4)).toList = EOq.css (List.replicate D zeroO) := by
  rw [css_zero]
  apply List.ext_getElem?
  intro i
  by_cases h : i < D * 4
  · rw [Array.getElem?_toList, madeCells_at _ _ _ h, List.getElem?_replicate, if_pos h]
    have h4 : i % 4 < 4 := Nat.mod_lt _ (by omega)
    show some ((#[Value.int .i64 0, .int .i64 0, .int .i64 0, .int .i64 0] : Array Value)[i % 4]!) = _
    rcases (by omega : i % 4 = 0 ∨ i % 4 = 1 ∨ i % 4 = 2 ∨ i % 4 = 3) with e | e | e | e <;> rw [e] <;> rfl
  · rw [List.getElem?_eq_none (by unfold madeCells; simpa using h), List.getElem?_eq_none (by simpa using h)]
set_option maxRecDepth 100000 in
set_option maxHeartbeats 4000000 in
theorem limitsL (w : World) (hV : VL w) (n0 : Int) (hn0 : -9223372036854775808 ≤ n0 ∧ n0 ≤ 9223372036854775807) (m0 : Int) (hm0 : -9223372036854775808 ≤ m0 ∧ m0 ≤ 9223372036854775807) :
    Calls Tryd.prog 12 #[.int .i64 n0, .int .i64 m0] w fun e w' => e = .returned (.bool true) ∧ Below w.heap.size w w' := by
  have hw1 := within w n0 (-1) 1 (by omega) (by omega) (by omega) hn0
  have hw2 := within w m0 0 2 (by omega) (by omega) (by omega) hm0
  have HW1 := Lib.hid hw1
  have HW2 := Lib.hid hw2
  have HV := Lib.hid hV
  have HR := Lib.hid (fun (W : World) (b : Below w.heap.size w W) => runs W (HV.out.nb b))
  clear hw1 hw2 hV hn0 hm0
  go_enter Tryd.func12, Tryd.ntmps12
  go_wp2_with fail
  refine HW1.out.mono ?_
  rintro e w1 ⟨r, rfl, a1, a2, hw⟩
  subst w1
  go_wp2_with fail
  refine HW2.out.mono ?_
  rintro e w2 ⟨t, rfl, b1, b2, hw⟩
  subst w2
  clear HW1 HW2
  rcases (by omega : t = 0 ∨ t = 1 ∨ t = 2) with rfl | rfl | rfl
  · obtain ⟨D, rfl⟩ : ∃ D : Nat, r = (D : Int) - 256 := ⟨(r + 256).toNat, by omega⟩
    have hwD : IntKind.i64.wrap (256 + ((D : Int) - 256)) = (D : Int) := by rw [IntKind.wrap_i64]; omega
    have hwD' : IntKind.i64.wrap (D : Int) = (D : Int) := by rw [IntKind.wrap_i64]; omega
    go_wp2_with (at_make; refine wpList_make_row [1, 1] ow0 rfl _ _ 22 rfl 32 _ 4 32 Tryd.underlying22 EOq.info rfl _ _ _ _ D D rfl (by first | rfl | exact hwD | omega) rfl (by first | rfl | exact hwD | omega) (Nat.le_refl _) (by omega) (by unfold maxLen; omega) ?_)
    intro v1 w1 ow1 hrow n1
    rw [made_zero] at hrow
    have T1 := n1.turn [1]
    clear n1
    obtain ⟨A, c, rfl, -⟩ := hrow.slice
    have hl0 : Lst w1 ow1 [1, 1] (.slice A D c) (List.replicate D zeroO) := by unfold Lst; rw [List.length_replicate]; exact hrow
    have HL0 := Lib.hid hl0
    have HT1 := Lib.hid T1
    clear hrow hl0 T1
    go_wp2
    go_loopg [7] D (fun gn a wr => ∃ (k : Nat) (ys : List Op4) (OW : Ow), gn = D - k ∧ k ≤ D ∧ a = .int .i64 (k : Int) ∧ ys.length = D ∧ (∀ j x, j < k → ys[j]? = some x → x = popO) ∧ Lst wr OW [1, 1] (.slice A D c) ys ∧ Turn [1] w ow0 wr OW)
    case atStart => exact ⟨0, _, ow1, rfl, Nat.zero_le _, rfl, List.length_replicate, fun j x hj => by omega, HL0.out, HT1.out⟩
    case round =>
      clear HL0 HT1
      obtain ⟨k, ys, OW, hgk, hk, rfl, hyl, hall, hl, T⟩ := hrel
      have Hgk := Lib.hid hgk
      have HA := Lib.hid hall
      clear hgk hall
      by_cases hlt : k < D
      · have j0 : (k : Int) < (D : Int) := by omega
        have hwk : IntKind.i64.wrap ((k : Int) + 1) = (k : Int) + 1 := by rw [IntKind.wrap_i64]; omega
        obtain ⟨x, hx⟩ : ∃ x, ys[k]? = some x := ⟨_, List.getElem?_eq_getElem (by omega)⟩
        have hl' : Row wr OW [1, 1] 32 4 (.slice A D c) D (EOq.css ys) := by unfold Lst at hl; rw [hyl] at hl; exact hl
        obtain ⟨g, off, cap, hv, r0, r1, r2, r3⟩ := at4r hl.rd hx
        obtain ⟨rfl, hcap⟩ : A = some ⟨g, off, none⟩ ∧ c = cap := by
          simp only [Value.slice.injEq] at hv
          exact ⟨hv.1, hv.2.2⟩
        subst hcap
        obtain ⟨-, ho, hf, -⟩ := hl'.open_
        have hr1 := (((hl'.set (k * 4) (.int .i64 4)).set (k * 4 + 1) (.int .i64 0)).set (k * 4 + 2) (.int .i64 0)).set (k * 4 + 3) (.int .i64 0)
        have hcc := EOq.css_cells ys k popO
        simp only [popO] at hcc
        rw [hcc] at hr1
        simp only [← Nat.add_assoc] at hr1
        have ob : ∀ i, [1] <+: OW g i := fun i => by rw [ho]; simp
        have T' := (((T.setCell (g := g) (o := off + k * 4) (.int .i64 4) (ob _)).setCell (g := g) (o := off + k * 4 + 1) (.int .i64 0) (ob _)).setCell (g := g) (o := off + k * 4 + 2) (.int .i64 0) (ob _)).setCell (g := g) (o := off + k * 4 + 3) (.int .i64 0) (ob _)
        have HR1 := Lib.hid hr1
        have HT' := Lib.hid T'
        clear hl hl' hr1 hcc T T' ob ho hv hx
        go_wp2
        go_roundg (D - (k + 1))
        case measure => have := Hgk.out; omega
        case rel =>
          refine ⟨k + 1, ys.set k popO, OW, rfl, by omega, by go_num, by simpa using hyl, fun j y hj hy => ?_, ?_, HT'.out⟩
          · by_cases e : j = k
            · rw [e, List.getElem?_set_self (by omega)] at hy
              injection hy with hy
              exact hy.symm
            · rw [List.getElem?_set_ne (Ne.symm e)] at hy
              exact HA.out j y (by omega) hy
          · have h := HR1.out
            unfold Lst
            rw [List.length_set, hyl]
            exact h
      · obtain rfl : k = D := by omega
        have j0 : ¬ (k : Int) < (k : Int) := by omega
        obtain rfl : ys = List.replicate k popO := by
          refine List.eq_replicate_iff.2 ⟨hyl, fun b hb => ?_⟩
          obtain ⟨j, hj⟩ := List.mem_iff_getElem?.1 hb
          exact HA.out j b (by have := (List.getElem?_eq_some_iff.1 hj).1; omega) hj
        have rd := hl.rd
        have bd := (T.new_ ow0 [1]).below
        have rd' : Rd4 wr (.slice A k c) (List.replicate k popO) := rd
        have hck := check wr _ (List.replicate k popO) rd' (by simp; omega)
        clear hl T rd rd' HA Hgk hyl
        go_wp2_with fail
        refine hck.mono ?_
        rintro e w2 ⟨rfl, b2⟩
        have bd2 := bd.trans (b2.mono bd.size)
        have HB := Lib.hid bd2
        clear hck b2 bd bd2
        generalize hC1 : checkB (List.replicate k popO) = C at *
        have HC1 := Lib.hid hC1
        clear hC1
        go_wp2
        go_loopg [10, 11] k (fun gn a b wr => ∃ (m : Nat), gn = k - m ∧ m ≤ k ∧ a = .string ⟨(popsB m).toArray⟩ ∧ b = .int .i64 (m : Int) ∧ wr = w2)
        case atStart => exact ⟨0, rfl, Nat.zero_le _, rfl, rfl, rfl⟩
        case round =>
          obtain ⟨m, hgm, hm, rfl, rfl, hw⟩ := hrel
          subst wr
          have Hgm := Lib.hid hgm
          clear hgm
          by_cases hlt2 : m < k
          · have j1 : (m : Int) < (k : Int) := by omega
            have hwm : IntKind.i64.wrap ((m : Int) + 1) = (m : Int) + 1 := by rw [IntKind.wrap_i64]; omega
            have hsz : (⟨(popsB m).toArray⟩ : ByteArray).size = 4 * m := by show (popsB m).toArray.size = _; rw [List.size_toArray, popsB_len]
            have hlong : ¬ 9223372036854775807 < 4 * m + 4 := by omega
            go_wp2
            go_roundg (k - (m + 1))
            case measure => have := Hgm.out; omega
            case rel => exact ⟨m + 1, rfl, by omega, congrArg Value.string (ByteArray.ext (by rw [popsB_next]; simp [popB])), by go_num, rfl⟩
          · obtain rfl : m = k := by omega
            have j1 : ¬ (m : Int) < (m : Int) := by omega
            have hsz : (⟨(popsB m).toArray⟩ : ByteArray).size ≤ 1000000 := by show (popsB m).toArray.size ≤ _; rw [List.size_toArray, popsB_len]; omega
            have hV2 := HV.out.nb HB.out
            by_cases h257 : m = 257
            · subst h257
              have hC : C = (256, 4) := HC1.out.symm.trans check_many
              subst hC
              have hp := parseR w2 _ hsz hV2 parse_many
              clear HC1 hsz hV2
              as_aux_lemma =>
              go_wp2_with fail
              refine hp.mono ?_
              rintro e w3 ⟨v, rfl, hr, b3⟩
              have bd3 := HB.out.trans (b3.mono HB.out.size)
              obtain ⟨X, y, rfl, -⟩ := hr.slice
              clear hr hp b3
              go_wp2_with fail
              refine (HR.out _ bd3).mono ?_
              rintro e w4 ⟨rfl, b4⟩
              go_wp2
              go_ret
              exact ⟨rfl, bd3.trans (b4.mono bd3.size)⟩
            · have h256 : m ≤ 256 := by omega
              have hC : C.2 = 0 := by rw [← HC1.out]; exact check_pops h256
              obtain ⟨C1, C2⟩ := C
              simp only at hC
              subst hC
              have hp := parseR w2 _ hsz hV2 (parse_pops h256)
              rw [List.length_replicate] at hp
              have j2 : ¬ (0 : Int) < (m : Int) - 256 := by omega
              have j3 : (m : Int) == (m : Int) := beq_self_eq_true _
              clear HC1 hsz hV2
              as_aux_lemma =>
              go_wp2_with fail
              refine hp.mono ?_
              rintro e w3 ⟨v, rfl, hr, b3⟩
              have bd3 := HB.out.trans (b3.mono HB.out.size)
              obtain ⟨X, y, rfl, -⟩ := hr.slice
              clear hr hp b3
              go_wp2_with fail
              refine (HR.out _ bd3).mono ?_
              rintro e w4 ⟨rfl, b4⟩
              go_wp2
              go_ret
              exact ⟨rfl, bd3.trans (b4.mono bd3.size)⟩
  · obtain ⟨D, rfl⟩ : ∃ D : Nat, r = (D : Int) - 4096 := ⟨(r + 4096).toNat, by omega⟩
    have hwD : IntKind.i64.wrap (4096 + ((D : Int) - 4096)) = (D : Int) := by rw [IntKind.wrap_i64]; omega
    have hwD' : IntKind.i64.wrap (D : Int) = (D : Int) := by rw [IntKind.wrap_i64]; omega
    go_wp2_with (at_make; refine wpList_make_row [1, 1] ow0 rfl _ _ 62 rfl 5 (.int .u8 0) 1 1 Tryd.underlying62 (by kernel_rfl) rfl _ _ _ _ D D rfl (by first | rfl | exact hwD | omega) rfl (by first | rfl | exact hwD | omega) (Nat.le_refl _) (by omega) (by unfold maxLen; omega) ?_)
    intro v1 w1 ow1 hrow n1
    have T1 := n1.turn [1]
    clear n1
    obtain ⟨A, c, rfl, -⟩ := hrow.slice
    have HL0 := Lib.hid hrow
    have HT1 := Lib.hid T1
    clear hrow T1
    go_wp2
    go_loopg [16] D (fun gn a wr => ∃ (k : Nat) (cs : List Value) (OW : Ow), gn = D - k ∧ k ≤ D ∧ a = .int .i64 (k : Int) ∧ (∀ j, j < k → cs[j]? = some (.int .u8 32)) ∧ Row wr OW [1, 1] 5 1 (.slice A D c) D cs ∧ Turn [1] w ow0 wr OW)
    case atStart => exact ⟨0, _, ow1, rfl, Nat.zero_le _, rfl, fun j hj => by omega, HL0.out, HT1.out⟩
    case round =>
      clear HL0 HT1
      obtain ⟨k, cs, OW, hgk, hk, rfl, hall, hl, T⟩ := hrel
      have Hgk := Lib.hid hgk
      have HA := Lib.hid hall
      clear hgk hall
      have hcl : cs.length = D := by have := hl.1; omega
      by_cases hlt : k < D
      · have j0 : (k : Int) < (D : Int) := by omega
        have hwk : IntKind.i64.wrap ((k : Int) + 1) = (k : Int) + 1 := by rw [IntKind.wrap_i64]; omega
        obtain ⟨x, hx⟩ : ∃ x, cs[k]? = some x := ⟨_, List.getElem?_eq_getElem (by omega)⟩
        obtain ⟨g, off, cap, hv, -⟩ := hl.at (by omega)
        obtain ⟨rfl, hcap⟩ : A = some ⟨g, off, none⟩ ∧ c = cap := by
          simp only [Value.slice.injEq] at hv
          exact ⟨hv.1, hv.2.2⟩
        subst hcap
        obtain ⟨-, ho, hf, hcell⟩ := hl.open_
        have r0 := hcell k x hx
        have hr1 := hl.set k (.int .u8 32)
        have ob : ∀ i, [1] <+: OW g i := fun i => by rw [ho]; simp
        have T' := T.setCell (g := g) (o := off + k) (.int .u8 32) (ob _)
        have HR1 := Lib.hid hr1
        have HT' := Lib.hid T'
        clear hl hr1 T T' ob ho hv hx hcell
        go_wp2
        go_roundg (D - (k + 1))
        case measure => have := Hgk.out; omega
        case rel =>
          refine ⟨k + 1, cs.set k (.int .u8 32), OW, rfl, by omega, by go_num, fun j hj => ?_, HR1.out, HT'.out⟩
          by_cases e : j = k
          · rw [e, List.getElem?_set_self (by omega)]
          · rw [List.getElem?_set_ne (Ne.symm e)]
            exact HA.out j (by omega)
      · obtain rfl : k = D := by omega
        have j0 : ¬ (k : Int) < (k : Int) := by omega
        obtain ⟨g, off, cap, hv, -, -, -, -, -, hcell⟩ := hl.at (by omega)
        obtain ⟨rfl, hcap⟩ : A = some ⟨g, off, none⟩ ∧ c = cap := by
          simp only [Value.slice.injEq] at hv
          exact ⟨hv.1, hv.2.2⟩
        subst hcap
        have hcv := run_convert_bytes_arg (P := Tryd.prog) wr 62 5 Tryd.underlying62 Tryd.underlying5 g off k c (List.replicate k 32) (by simp) (fun i hi => by rw [hcell i _ (HA.out i hi)]; simp [List.getElem?_replicate, hi]) 9 Tryd.underlying9
        have hst : strOfNums (List.replicate k 32) = ⟨(List.replicate k (32 : UInt8)).toArray⟩ := by unfold strOfNums; rw [List.map_replicate]; rfl
        rw [hst] at hcv
        have hsz : (⟨(List.replicate k (32 : UInt8)).toArray⟩ : ByteArray).size ≤ 1000000 := by show (List.replicate k (32 : UInt8)).toArray.size ≤ _; rw [List.size_toArray, List.length_replicate]; omega
        have bd := (T.new_ ow0 [1]).below
        have hV2 := HV.out.nb bd
        clear hl T HA Hgk hcl hv hcell hst
        by_cases h97 : k = 4097
        · subst h97
          have hp := parseR wr _ hsz hV2 parse_long
          clear hsz hV2
          as_aux_lemma =>
          go_wp2_with fail
          refine hp.mono ?_
          rintro e w3 ⟨v, rfl, hr, b3⟩
          have bd3 := bd.trans (b3.mono bd.size)
          clear hr hp b3
          go_wp2_with fail
          refine (HR.out _ bd3).mono ?_
          rintro e w4 ⟨rfl, b4⟩
          go_wp2
          go_ret
          exact ⟨rfl, bd3.trans (b4.mono bd3.size)⟩
        · have h96 : k ≤ 4096 := by omega
          have hp := parseR wr _ hsz hV2 (parse_blanks h96)
          have j2 : ¬ (0 : Int) < (k : Int) - 4096 := by omega
          have j4 : decide ((4096 : Int) < (k : Int)) = false := decide_eq_false (by omega)
          clear hsz hV2
          as_aux_lemma =>
          go_wp2_with fail
          refine hp.mono ?_
          rintro e w3 ⟨v, rfl, hr, b3⟩
          have bd3 := bd.trans (b3.mono bd.size)
          clear hr hp b3
          go_wp2_with fail
          refine (HR.out _ bd3).mono ?_
          rintro e w4 ⟨rfl, b4⟩
          go_wp2
          go_ret
          exact ⟨rfl, bd3.trans (b4.mono bd3.size)⟩
  · have hR0 : Lst (w.alloc (.cells (EOq.css lim4).toArray 32)) (ow0.set w.heap.size [1, 1]) [1, 1] (.slice (some ⟨w.heap.size, 0, none⟩) 4 4) lim4 := Row.new w ow0 [1, 1] 32 4 4 4 (EOq.css lim4).toArray (EOq.css lim4) (by rw [EOq.css_length]; rfl) (Nat.le_refl _) (by unfold maxLen; omega) (by rw [List.size_toArray, EOq.css_length]; decide) (fun j u hj => by rw [List.getElem?_toArray]; exact hj)
    have T0 : Turn [1] w ow0 (w.alloc (.cells (EOq.css lim4).toArray 32)) (ow0.set w.heap.size [1, 1]) := (Turn.refl _ _ _).alloc _ _
    rcases (by omega : r = -1 ∨ r = 0 ∨ r = 1) with rfl | rfl | rfl
    · have bd := (T0.new_ ow0 [1]).below
      have rd : Rd4 (w.alloc (.cells (EOq.css lim4).toArray 32)) (.slice (some ⟨w.heap.size, 0, none⟩) 3 4) lim3 := Rd4.front (xs := lim3) (ys := [popO]) (Row.reads hR0) (Nat.le_refl _)
      have hct := count _ _ lim3 rd (by decide) fun hc => nested_of_check hc
      rw [lim_count3] at hct
      clear hR0 T0
      go_wp2_with fail
      refine hct.mono ?_
      rintro e w1 ⟨rfl, b1⟩
      have hst := stepsL w1 _ lim3 (rd.new_ b1) (by decide)
      have bd1 := bd.trans (b1.mono bd.size)
      obtain ⟨h1, h2⟩ := lim_list3
      generalize listB lim3 = L at *
      obtain ⟨L1, L2⟩ := L
      simp only at h1 h2 hst
      subst h1
      rw [h2] at hst
      clear rd hct b1 bd
      as_aux_lemma =>
      go_wp2_with fail
      refine hst.mono ?_
      rintro e w2 ⟨v, rfl, hr, b2⟩
      have bd2 := bd1.trans (b2.mono bd1.size)
      obtain ⟨X, y, rfl, -⟩ := hr.slice
      clear hr hst b2 bd1
      go_wp2_with fail
      refine (HR.out _ bd2).mono ?_
      rintro e w4 ⟨rfl, b4⟩
      go_wp2
      go_ret
      exact ⟨rfl, bd2.trans (b4.mono bd2.size)⟩
    · have bd := (T0.new_ ow0 [1]).below
      have rd := hR0.rd
      have hct := count _ _ lim4 rd (by decide) fun hc => nested_of_check hc
      rw [lim_count4] at hct
      clear hR0 T0
      go_wp2_with fail
      refine hct.mono ?_
      rintro e w1 ⟨rfl, b1⟩
      have hst := stepsL w1 _ lim4 (rd.new_ b1) (by decide)
      have bd1 := bd.trans (b1.mono bd.size)
      obtain ⟨h1, h2⟩ := lim_list4
      generalize listB lim4 = L at *
      obtain ⟨L1, L2⟩ := L
      simp only at h1 h2 hst
      subst h1
      rw [h2] at hst
      clear rd hct b1 bd
      as_aux_lemma =>
      go_wp2_with fail
      refine hst.mono ?_
      rintro e w2 ⟨v, rfl, hr, b2⟩
      have bd2 := bd1.trans (b2.mono bd1.size)
      obtain ⟨X, y, rfl, -⟩ := hr.slice
      clear hr hst b2 bd1
      go_wp2_with fail
      refine (HR.out _ bd2).mono ?_
      rintro e w4 ⟨rfl, b4⟩
      go_wp2
      go_ret
      exact ⟨rfl, bd2.trans (b4.mono bd2.size)⟩
    · have hR1 : Lst _ (ow0.set w.heap.size [1, 1]) [1, 1] (.slice (some ⟨w.heap.size, 0, none⟩) 4 4) lim4 := Row.alloc_ hR0 (.cells (EOq.cs addO).toArray 32)
      have so := srcO (w.alloc (.cells (EOq.css lim4).toArray 32)) addO
      have hsz : (w.alloc (.cells (EOq.css lim4).toArray 32)).heap.size = w.heap.size + 1 := Array.size_push ..
      rw [hsz] at so
      have T1 := T0.alloc_ (.cells (EOq.cs addO).toArray 32)
      clear hR0 T0
      go_wp2_with (at_builtin; refine wpList_app4 rfl (.tmp 151) (.tmp 153) rfl rfl hR1 rfl so (by decide) ?_)
      intro v1 w1 ow1 l1 t1
      have bd := ((T1.trans (t1.up (by simp))).new_ ow0 [1]).below
      have l2 : Lst w1 ow1 [1, 1] v1 lim5 := l1
      have rd := l2.rd
      have hct := count _ _ lim5 rd (by decide) fun hc => nested_of_check hc
      rw [lim_count5] at hct
      obtain ⟨A, c, rfl, -⟩ := rd.slice
      clear hR1 T1 so t1 l1 l2
      go_wp2_with fail
      refine hct.mono ?_
      rintro e w2 ⟨rfl, b1⟩
      have hst := stepsL w2 _ lim5 (rd.new_ b1) (by decide)
      rw [lim_list5] at hst
      have bd1 := bd.trans (b1.mono bd.size)
      clear rd hct b1 bd
      as_aux_lemma =>
      go_wp2_with fail
      refine hst.mono ?_
      rintro e w2 ⟨v, rfl, hr, b2⟩
      have bd2 := bd1.trans (b2.mono bd1.size)
      obtain ⟨X, y, rfl, -⟩ := hr.slice
      clear hr hst b2 bd1
      go_wp2_with fail
      refine (HR.out _ bd2).mono ?_
      rintro e w4 ⟨rfl, b4⟩
      go_wp2
      go_ret
      exact ⟨rfl, bd2.trans (b4.mono bd2.size)⟩
end CD
end Go.Proofs.YtnehiooioodkfaaDoor
