/-
  CODE: the document's Parse (printed by gen/codeParseR.py).
-/
import Derived.Test.YtnehiooioodkfaaDoorS1
import Derived.Test.YtnehiooioodkfaaDoorS2
import Derived.Test.YtnehiooioodkfaaDoorS3
set_option linter.unusedVariables false
set_option linter.unusedSimpArgs false
namespace Go.Proofs.YtnehiooioodkfaaDoor
open Go Go.RowKit
namespace CR
open CD
theorem tk_at {L : List Tk} {w : World} {v : Value} (h : Reads w v L.length (cws L)) {k : Nat} {t : Tk} (ht : L[k]? = some t) : ∃ g off cap, v = .slice (some ⟨g, off, none⟩) L.length cap ∧ w.cell? ⟨g, off + k * 2, none⟩ = some (.int .i64 (t.1 : Int)) ∧ w.cell? ⟨g, off + k * 2 + 1, none⟩ = some (.string ⟨t.2.toArray⟩) := by
  have hlt := (List.getElem?_eq_some_iff.1 ht).1
  obtain ⟨g, off, cap, hv, -, hc⟩ := h.at (by omega)
  obtain ⟨h1, h2⟩ := cws_at L k t ht
  refine ⟨g, off, cap, hv, hc _ _ h1, ?_⟩
  rw [Nat.add_assoc]
  exact hc _ _ h2
theorem tok_wlen : ∀ (l cur : List UInt8) (k : Nat), ∀ t ∈ tokG k cur l, t.2.length ≤ cur.length + l.length
  | [], cur, k, t, ht => by
    rw [tokG] at ht
    split at ht
    · cases ht
    · rw [List.mem_singleton.1 ht]; simp
  | c :: r, cur, k, t, ht => by
    rw [tokG] at ht
    rw [List.length_cons]
    split at ht
    · split at ht
      · have := tok_wlen r [] _ t ht; simp at this; omega
      · rcases List.mem_cons.1 ht with rfl | ht
        · exact Nat.le_add_right _ _
        · have := tok_wlen r [] _ t ht; simp at this; omega
    · have := tok_wlen r (cur ++ [c]) _ t ht; simp at this; omega
theorem drop_tk {L : List Tk} {k : Nat} {t : Tk} (h : L[k]? = some t) : L.drop k = t :: L.drop (k + 1) := by
  obtain ⟨hl, e⟩ := List.getElem?_eq_some_iff.1 h
  rw [List.drop_eq_getElem_cons hl, e]
theorem str_ne' {a b : ByteArray} (h : a ≠ b) : (a.toList == b.toList) = false := str_ne h
theorem one_of_ref {z opn m : Nat} (hm : 1 ≤ m ∧ m ≤ 11) {ts : List Tk} {e : Int × Int} (h : refF z (formB m).data.toList ⟨(m : Int), 0, 0, 0⟩ ts = .error e) : oneT z (m : Int) opn ts = .error e := by
  rw [ref_one z opn m hm ts] at h
  cases ho : oneT z (m : Int) opn ts with
  | error d =>
    rw [ho] at h
    have h' : (Except.error d : Except (Int × Int) (Op4 × List (Nat × List UInt8))) = .error e := h
    injection h' with h'
    rw [h']
  | ok y => rw [ho] at h; cases h
theorem one_of_ref_ok {z opn m : Nat} (hm : 1 ≤ m ∧ m ≤ 11) {ts rest : List Tk} {x : Op4} (h : refF z (formB m).data.toList ⟨(m : Int), 0, 0, 0⟩ ts = .ok (x, rest)) : oneT z (m : Int) opn ts = .ok (x, (if (m : Int) = 10 then opn + 1 else if (m : Int) = 11 then opn - 1 else opn), rest) := by
  rw [ref_one z opn m hm ts] at h
  cases ho : oneT z (m : Int) opn ts with
  | error d => rw [ho] at h; cases h
  | ok y =>
    have hg := (one_good (by omega) ho).2.2
    rw [ho] at h
    obtain ⟨y1, y2, y3⟩ := y
    simp only [shR, Except.ok.injEq, Prod.mk.injEq] at h
    obtain ⟨rfl, rfl⟩ := h
    simp only at hg
    rw [hg]
def mnR (w2 : World) (z : Nat) (L : List Tk) (R : List Op4 × Int × Int) (gn : Nat) (ov bv cv : Value) (wr : World) : Prop :=
  ∃ (j opn : Nat) (ops : List Op4) (OW : Ow), gn = L.length - j ∧ j ≤ L.length ∧ bv = .int .i64 (opn : Int) ∧ cv = .int .i64 (j : Int) ∧ ops.length ≤ 256 ∧ opn ≤ ops.length ∧ parT z (L.drop j) ops opn = R ∧
    Row wr OW [1, 1] 32 4 ov ops.length (EOq.css ops) ∧ Turn [1] w2 ow0 wr OW
set_option maxRecDepth 100000 in
set_option maxHeartbeats 8000000 in
theorem rparse (w : World) (s : ByteArray) (hs : s.size ≤ 100000) : Calls Tryd.prog 24 #[.string s] w fun e w' => ∃ v, e = .returned (.tuple #[v, .int .i64 (parseB s).2.1, .int .i64 (parseB s).2.2]) ∧ Reads w' v (parseB s).1.length (EOq.css (parseB s).1) ∧ Below w.heap.size w w' := by
  obtain ⟨R, hR⟩ : ∃ R, parseB s = R := ⟨_, rfl⟩
  rw [hR]
  by_cases hlong : 4096 < s.size
  · have hc : R = ([], 0, 5) := by rw [← hR]; unfold parseB; rw [if_pos hlong]
    subst hc
    have i0 : (4096 : Int) < (s.size : Int) := by omega
    clear hR
    as_aux_lemma =>
    go_enter Tryd.func24, Tryd.ntmps24
    go_wp2
    refine bodyPost_ret (v := .tuple #[(.slice none 0 0), .int .i64 0, .int .i64 5]) (by simp [results, Tryd.results24, go_sem]) rfl ⟨(.slice none 0 0), rfl, .inl ⟨rfl, rfl, rfl⟩, Below.refl _ _⟩
  have i0 : ¬ (4096 : Int) < (s.size : Int) := by omega
  have hP : parT s.size (tkW s 0 []) [] 0 = R := by rw [← hR, parseB_par s (by omega)]; rfl
  have hLn : (tkW s 0 []).length ≤ 4096 := by
    have := tok_len (s.data.toList.drop 0) [] 0
    unfold tkW
    simp at this ⊢
    omega
  have hwl : ∀ t ∈ tkW s 0 [], t.2.length ≤ 100000 := fun t ht => by
    have := tok_wlen (s.data.toList.drop 0) [] 0 t ht
    simp at this
    omega
  have hrw := rwords w s hs
  generalize tkW s 0 [] = L at *
  have HWL := Lib.hid hwl
  clear hwl
  obtain ⟨z, hz⟩ : ∃ z, s.size = z := ⟨_, rfl⟩
  rw [hz] at hP i0 hlong hs
  have HP := Lib.hid hP
  have HRW := Lib.hid hrw
  have hwo := words
  have Hwo := Lib.hid hwo
  have hfo := form
  have Hfo := Lib.hid hfo
  have hbo := bound
  have Hbo := Lib.hid hbo
  have hnu := rnumber
  have Hnu := Lib.hid hnu
  clear hR hP hrw hwo hfo hbo hnu
  go_enter Tryd.func24, Tryd.ntmps24
  rw [← hz] at i0
  go_wp2_with fail
  refine Calls.mono HRW.out ?_
  rintro e w1 ⟨vL, rfl, hrL, b1⟩
  have HB1 := Lib.hid b1
  have HL1 := Lib.hid hrL
  obtain ⟨AL, cL, rfl, -⟩ := hrL.slice
  clear b1 hrL HRW
  go_wp2_with fail
  refine (Hwo.out w1).mono ?_
  rintro e w2 ⟨rfl, hw2⟩
  have b2 : Below w1.heap.size w1 w2 := by rw [hw2]; exact (Below.refl _ _).alloc (Nat.le_refl _) _
  have hLw : Loc w2 w1.heap.size (wordsB.map Value.string) := by rw [hw2]; exact Loc.make rfl rfl
  have HLW := Lib.hid hLw
  have HB2 := Lib.hid (HB1.out.trans (b2.mono HB1.out.size))
  have HL2 := Lib.hid (HL1.out.new_ b2)
  generalize w1.heap.size = gw at *
  clear hw2 b2 hLw HB1 HL1 Hwo
  go_wp2
  go_loopg [7, 8, 9] L.length (fun gn ov bv cv wr => mnR w2 z L R gn ov bv cv wr)
  case atStart => exact ⟨0, 0, [], ow0, rfl, Nat.zero_le _, rfl, rfl, Nat.zero_le _, Nat.le_refl _, HP.out, Row.nil _ _ _ _ _, Turn.refl _ _ _⟩
  case round =>
    clear HP
    obtain ⟨j, opn, ops, OW, hgj, hj, rfl, rfl, hops, hopn, hpar, hrow, tt⟩ := hrel
    have Hgj := Lib.hid hgj
    have HPAR := Lib.hid hpar
    have HROW := Lib.hid hrow
    have HT := Lib.hid tt
    obtain ⟨Ao, co, rfl, -⟩ := hrow.slice
    have bd := (tt.new_ ow0 [1]).below
    have HBD := Lib.hid bd
    have HFIN := Lib.hid (HB2.out.trans (bd.mono HB2.out.size))
    clear hgj hpar hrow tt
    by_cases hlt : j < L.length
    · have j0 : (j : Int) < (L.length : Int) := by omega
      have hwj : IntKind.i64.wrap ((j : Int) + 1) = (j : Int) + 1 := by rw [IntKind.wrap_i64]; omega
      obtain ⟨t, ht⟩ : ∃ t, L[j]? = some t := ⟨_, List.getElem?_eq_getElem (by omega)⟩
      obtain ⟨a, wd⟩ := t
      have Ht := Lib.hid ht
      have hpar := HPAR.out
      rw [drop_tk ht] at hpar
      obtain ⟨gl, ol, cl, hv, l0, l1⟩ := tk_at (HL2.out.new_ bd) ht
      obtain ⟨hA, hcc⟩ : AL = some ⟨gl, ol, none⟩ ∧ cL = cl := by
        simp only [Value.slice.injEq] at hv
        exact ⟨hv.1, hv.2.2⟩
      subst hA hcc
      simp only at l0 l1
      clear ht hv bd HPAR
      by_cases h256 : ops.length = 256
      · have z0 : ((ops.length : Int) == 256) = true := beq_iff_eq.2 (by omega)
        have hb4 : beginsG (kindC wd) ops.length opn = 4 := by unfold beginsG; rw [if_pos h256]
        rw [parT_wrong (by rw [hb4]; decide), hb4] at hpar
        subst hpar
        have fin := HFIN.out
        clear HROW HT l1
        as_aux_lemma =>
        go_wp2
        go_region
        all_goals
          go_wp2
          refine bodyPost_ret (v := .tuple #[(.slice none 0 0), .int .i64 (a : Int), .int .i64 4]) (by simp [results, Tryd.results24, go_sem]) rfl ⟨(.slice none 0 0), rfl, .inl ⟨rfl, rfl, rfl⟩, fin.drew⟩
      have z0 : ((ops.length : Int) == 256) = false := beq_eq_false_iff_ne.2 (by omega)
      have HPR := Lib.hid hpar
      have HL0 := Lib.hid l0
      clear hpar
      go_wp2
      go_loopg [10, 11] 11 (fun gn kv bv wx => ∃ (k kd : Nat), gn = 12 - k ∧ 1 ≤ k ∧ k ≤ 12 ∧ kv = .int .i64 (kd : Int) ∧ bv = .int .i64 (k : Int) ∧ (((kd : Int) = kindC wd ∧ 1 ≤ kd ∧ kd < k) ∨ (kd = 0 ∧ ¬ (1 ≤ kindC wd ∧ kindC wd < (k : Int)))) ∧ Below wr.heap.size wr wx)
      case atStart => exact ⟨1, 0, rfl, Nat.le_refl _, by omega, rfl, rfl, .inr ⟨rfl, by omega⟩, Below.refl _ _⟩
      case round =>
        obtain ⟨k, kd, hgk, hk1, hk2, rfl, rfl, hkd, bx⟩ := hrel
        have Hgk := Lib.hid hgk
        have HBX := Lib.hid bx
        clear hgk
        by_cases hkl : k < 12
        · have i1 : (k : Int) < 12 := by omega
          have hwk : IntKind.i64.wrap ((k : Int) + 1) = (k : Int) + 1 := by rw [IntKind.wrap_i64]; omega
          have cw0 := ((HLW.out.new_ HBD.out).new_ bx).get k (wordsB_at k (by omega))
          obtain ⟨gl', ol', cl', hv, -, l1'⟩ := tk_at ((HL2.out.new_ HBD.out).new_ bx) Ht.out
          simp only [Value.slice.injEq, Option.some.injEq, Addr.mk.injEq, and_true, true_and] at hv
          obtain ⟨⟨rfl, rfl⟩, rfl⟩ := hv
          simp only at l1'
          have m1 : (k : Int) < (12 : Int) := i1
          clear l0 l1 bx
          obtain ⟨ws, hws⟩ : ∃ ws : ByteArray, (⟨wd.toArray⟩ : ByteArray) = ws := ⟨_, rfl⟩
          rw [hws] at l1'
          by_cases hw : wordOf (k : Int) = ws
          · have hkc := word_kind (w := wd) (k := k) ⟨hk1, by omega⟩ (hw.trans hws.symm)
            have hse : ((wordOf (k : Int)).toList == ws.toList) = true := str_eq hw
            have HKC := Lib.hid hkc
            clear hkc hkd
            as_aux_lemma =>
            go_wp2
            go_region
            all_goals
              go_wp2
              go_roundg (12 - (k + 1))
              case measure => have := Hgk.out; omega
              case rel => exact ⟨k + 1, k, rfl, by omega, by omega, rfl, by go_num, .inl ⟨HKC.out.symm, hk1, by omega⟩, HBX.out.drew⟩
          · have hse : ((wordOf (k : Int)).toList == ws.toList) = false := str_ne hw
            have hkn : kindC wd ≠ (k : Int) := fun e => hw (by rw [← e, ← hws]; exact kindC_word (by omega))
            have hkd' : ((kd : Int) = kindC wd ∧ 1 ≤ kd ∧ kd < k + 1) ∨ (kd = 0 ∧ ¬ (1 ≤ kindC wd ∧ kindC wd < ((k + 1 : Nat) : Int))) := by
              rcases hkd with ⟨h1, h2, h3⟩ | ⟨h1, h2⟩
              · exact .inl ⟨h1, h2, by omega⟩
              · exact .inr ⟨h1, by omega⟩
            have HKD := Lib.hid hkd'
            clear hkd hkd' hkn
            as_aux_lemma =>
            go_wp2
            go_region
            all_goals
              go_wp2
              go_roundg (12 - (k + 1))
              case measure => have := Hgk.out; omega
              case rel => exact ⟨k + 1, kd, rfl, by omega, by omega, rfl, by go_num, HKD.out, HBX.out.drew⟩
        · obtain rfl : k = 12 := by omega
          have i1 : ¬ ((12 : Nat) : Int) < 12 := by omega
          have hkr := kindC_range wd
          have hkk : kindC wd = (kd : Int) := by
            rcases hkd with ⟨h1, -, -⟩ | ⟨h1, h2⟩
            · exact h1.symm
            · omega
          have hkr2 : kd = 0 ∨ (1 ≤ kd ∧ kd ≤ 11) := by omega
          clear hkd hkr Hgk
          have hpar := HPR.out
          have HFX := Lib.hid (HFIN.out.trans (bx.mono HFIN.out.size))
          obtain ⟨gl', ol', cl', hv, l0', -⟩ := tk_at ((HL2.out.new_ HBD.out).new_ bx) Ht.out
          simp only [Value.slice.injEq, Option.some.injEq, Addr.mk.injEq, and_true, true_and] at hv
          obtain ⟨⟨rfl, rfl⟩, rfl⟩ := hv
          simp only at l0'
          clear l0 l1 HPR bx
          by_cases hk0 : kd = 0
          · subst hk0
            have hb : beginsG (kindC wd) ops.length opn = 30 := by unfold beginsG; rw [if_neg h256, if_pos (.inl hkk)]
            rw [parT_wrong (by rw [hb]; decide), hb] at hpar
            subst hpar
            have fin := HFX.out
            clear HROW HT
            as_aux_lemma =>
            go_wp2
            go_region
            all_goals
              go_wp2
              refine bodyPost_ret (v := .tuple #[(.slice none 0 0), .int .i64 (a : Int), .int .i64 30]) (by simp [results, Tryd.results24, go_sem]) rfl ⟨(.slice none 0 0), rfl, .inl ⟨rfl, rfl, rfl⟩, fin.drew⟩
          have zk : ((kd : Int) == 0) = false := beq_eq_false_iff_ne.2 (by omega)
          by_cases hk11 : kd = 11 ∧ opn = 0
          · obtain ⟨rfl, rfl⟩ := hk11
            have hb : beginsG (kindC wd) ops.length 0 = 30 := by unfold beginsG; rw [if_neg h256, if_pos (.inr ⟨hkk, rfl⟩)]
            rw [parT_wrong (by rw [hb]; decide), hb] at hpar
            subst hpar
            have fin := HFX.out
            clear HROW HT
            as_aux_lemma =>
            go_wp2
            go_region
            all_goals
              go_wp2
              refine bodyPost_ret (v := .tuple #[(.slice none 0 0), .int .i64 (a : Int), .int .i64 30]) (by simp [results, Tryd.results24, go_sem]) rfl ⟨(.slice none 0 0), rfl, .inl ⟨rfl, rfl, rfl⟩, fin.drew⟩
          have hkd1 : 1 ≤ kd ∧ kd ≤ 11 := by omega
          go_upto_region 17 with fail
          go_cut [61] from 52 to 60 (fun b wy => b = .bool false ∧ wy = wr)
          case first =>
            by_cases h11 : kd = 11
            · have e11 : ((kd : Int) == 11) = true := beq_iff_eq.2 (by omega)
              have eo : ((opn : Int) == 0) = false := beq_eq_false_iff_ne.2 (by omega)
              clear h11 hk11
              as_aux_lemma =>
              go_wp2
              go_meet
              exact ⟨rfl, rfl⟩
            · have e11 : ((kd : Int) == 11) = false := beq_eq_false_iff_ne.2 (by omega)
              clear h11 hk11
              as_aux_lemma =>
              go_wp2
              go_meet
              exact ⟨rfl, rfl⟩
          case rest =>
            obtain ⟨hb61, hwc⟩ := hcut
            subst hb61
            subst wc
            by_cases h104 : kd = 10 ∧ opn = 4
            · obtain ⟨rfl, rfl⟩ := h104
              have hb : beginsG (kindC wd) ops.length 4 = 32 := by unfold beginsG; rw [if_neg h256, if_neg (by rw [hkk]; omega), if_pos ⟨hkk, rfl⟩]
              rw [parT_wrong (by rw [hb]; decide), hb] at hpar
              subst hpar
              have fin := HFX.out
              clear HROW HT
              as_aux_lemma =>
              go_wp2
              go_region
              all_goals
                go_wp2
                refine bodyPost_ret (v := .tuple #[(.slice none 0 0), .int .i64 (a : Int), .int .i64 32]) (by simp [results, Tryd.results24, go_sem]) rfl ⟨(.slice none 0 0), rfl, .inl ⟨rfl, rfl, rfl⟩, fin.drew⟩
            have hb0 : beginsG (kindC wd) ops.length opn = 0 := by unfold beginsG; rw [if_neg h256, if_neg (by rw [hkk]; omega), if_neg (by rw [hkk]; omega)]
            obtain ⟨o2, ho2⟩ : ∃ o2 : Nat, o2 = (if (kd : Int) = 10 then opn + 1 else if (kd : Int) = 11 then opn - 1 else opn) := ⟨_, rfl⟩
            have ho2l : o2 ≤ opn + 1 := by rw [ho2]; split <;> (try split) <;> omega
            obtain ⟨o1, ho1⟩ : ∃ o1 : Nat, o1 = (if (kd : Int) = 10 then opn + 1 else opn) := ⟨_, rfl⟩
            go_upto_if 68 with fail
            go_cut [8] from 67 to 77 (fun v wy => v = .int .i64 (o1 : Int) ∧ wy = wr)
            case first =>
              by_cases h10 : kd = 10
              · have e10 : ((kd : Int) == 10) = true := beq_iff_eq.2 (by omega)
                have e4 : ((opn : Int) == 4) = false := beq_eq_false_iff_ne.2 (by omega)
                have hwo : IntKind.i64.wrap ((opn : Int) + 1) = (o1 : Int) := by rw [ho1, if_pos (by omega), IntKind.wrap_i64]; omega
                clear h10 ho1 ho2 hk11 h104
                as_aux_lemma =>
                go_wp2
                go_meet
                exact ⟨rfl, rfl⟩
              · have e10 : ((kd : Int) == 10) = false := beq_eq_false_iff_ne.2 (by omega)
                rw [if_neg (by omega)] at ho1
                have HO1 := Lib.hid ho1
                clear h10 ho1 ho2 hk11 h104
                as_aux_lemma =>
                go_wp2
                go_meet
                exact ⟨by rw [HO1.out], rfl⟩
            case rest =>
              obtain ⟨hb8, hwc⟩ := hcut
              subst hb8
              subst wc
              go_upto_if 79 with fail
              go_cut [8] from 78 to 81 (fun v wy => v = .int .i64 (o2 : Int) ∧ wy = wr)
              case first =>
                by_cases h11 : kd = 11
                · have e11 : ((kd : Int) == 11) = true := beq_iff_eq.2 (by omega)
                  have hwo : IntKind.i64.wrap ((o1 : Int) - 1) = (o2 : Int) := by rw [ho2, ho1, if_neg (by omega), if_neg (by omega), if_pos (by omega), IntKind.wrap_i64]; omega
                  clear h11 ho1 ho2 hk11 h104
                  as_aux_lemma =>
                  go_wp2
                  go_meet
                  exact ⟨rfl, rfl⟩
                · have e11 : ((kd : Int) == 11) = false := beq_eq_false_iff_ne.2 (by omega)
                  have ho : o1 = o2 := by rw [ho1, ho2, if_neg (show ¬ (kd : Int) = 11 by omega)]
                  have HO1 := Lib.hid ho
                  clear h11 ho ho1 ho2 hk11 h104
                  as_aux_lemma =>
                  go_wp2
                  go_meet
                  exact ⟨by rw [HO1.out], rfl⟩
              case rest =>
                obtain ⟨hb8, hwc⟩ := hcut
                subst hb8
                subst wc
                obtain ⟨RF, hRF⟩ : ∃ RF, refF z (formB kd).data.toList ⟨(kd : Int), 0, 0, 0⟩ (L.drop (j + 1)) = RF := ⟨_, rfl⟩
                have hE : ∀ e, RF = .error e → R = ([], e.1, e.2) := fun e h => by
                  have ho := one_of_ref (opn := opn) hkd1 (hRF.trans h)
                  rw [parT_err hb0 (by rw [hkk]; exact ho)] at hpar
                  exact hpar.symm
                have hO : ∀ x rest, RF = .ok (x, rest) → parT z rest (ops ++ [x]) o2 = R := fun x rest h => by
                  have ho := one_of_ref_ok (opn := opn) hkd1 (hRF.trans h)
                  rw [parT_ok hb0 (by rw [hkk]; exact ho), ← ho2] at hpar
                  exact hpar
                have hfz : (formB kd).size ≤ 2 := by
                  have h12 : kd = 1 ∨ kd = 2 ∨ kd = 3 ∨ kd = 4 ∨ kd = 5 ∨ kd = 6 ∨ kd = 7 ∨ kd = 8 ∨ kd = 9 ∨ kd = 10 ∨ kd = 11 := by omega
                  rcases h12 with rfl | rfl | rfl | rfl | rfl | rfl | rfl | rfl | rfl | rfl | rfl <;> decide
                have HE := Lib.hid hE
                have HO := Lib.hid hO
                have HRF := Lib.hid hRF
                clear hE hO hRF hpar hb0 ho1 ho2 l0' hkk h104 hk11
                have nX := HBX.out.nw OW
                obtain ⟨ow3, hX, n3, z3⟩ := SH.add_cells wr OW [1, 0] [.int .i64 (kd : Int), .int .i64 0, .int .i64 0, .int .i64 0] 32
                have hrow3 := HROW.out.new_ (nX.trans n3)
                have t3 := HT.out.trans ((nX.trans n3).turn [1])
                go_wp2_with fail
                refine (Hfo.out _ kd (by omega)).mono ?_
                rintro e w4 ⟨rfl, b4⟩
                have hX4 := hX.new_ (b4.nw ow3)
                have hrow4 := hrow3.new_ (b4.nw ow3)
                have t4 := t3.trans ((b4.nw ow3).turn [1])
                generalize formB kd = f at *
                generalize wr.heap.size = g3 at *
                have HX4 := Lib.hid hX4
                have HROW4 := Lib.hid hrow4
                have HT4 := Lib.hid t4
                clear nX hX n3 z3 hrow3 t3 b4 hX4 hrow4 t4 HROW HT HFX HBX
                go_wp2
                go_loopg [9, 14] f.size (fun gn iv kv wq => ∃ (k i : Nat) (x : Op4) (OWq : Ow), gn = f.size - k ∧ k ≤ f.size ∧ iv = .int .i64 (i : Int) ∧ kv = .int .i64 (k : Int) ∧ j + 1 ≤ i ∧ i ≤ L.length ∧ refF z (f.data.toList.drop k) x (L.drop i) = RF ∧ Cells wq OWq [1, 0] g3 0 (EOq.cs x) ∧ Row wq OWq [1, 1] 32 4 (.slice Ao ops.length co) ops.length (EOq.css ops) ∧ Turn [1] w2 ow0 wq OWq)
                case atStart => exact ⟨0, j + 1, ⟨(kd : Int), 0, 0, 0⟩, ow3, rfl, Nat.zero_le _, by go_num, rfl, Nat.le_refl _, by omega, HRF.out, HX4.out, HROW4.out, HT4.out⟩
                case round =>
                  clear HRF HX4 HROW4 HT4
                  obtain ⟨k, i, x, OWq, hgk, hk, rfl, rfl, hji, hil, href, hX, hrow, tq⟩ := hrel
                  have Hgk := Lib.hid hgk
                  have bq := (tq.new_ ow0 [1]).below
                  have HBQ := Lib.hid bq
                  have HFQ := Lib.hid (HB2.out.trans (bq.mono HB2.out.size))
                  have HXQ := Lib.hid hX
                  have HRQ := Lib.hid hrow
                  have HTQ := Lib.hid tq
                  clear hgk bq hX hrow tq
                  by_cases hkf : k < f.size
                  · have j1 : (k : Int) < (f.size : Int) := by omega
                    have hwk : IntKind.i64.wrap ((k : Int) + 1) = (k : Int) + 1 := by rw [IntKind.wrap_i64]; omega
                    have hwi : IntKind.i64.wrap ((i : Int) + 1) = (i : Int) + 1 := by rw [IntKind.wrap_i64]; omega
                    have hdr : f.data.toList.drop k = f[k] :: f.data.toList.drop (k + 1) := by
                      rw [List.drop_eq_getElem_cons (by simpa using hkf)]
                      rfl
                    rw [hdr] at href
                    clear hdr
                    by_cases hi : i = L.length
                    · have ei : ((i : Int) == (L.length : Int)) = true := beq_iff_eq.2 (by omega)
                      rw [hi, List.drop_length, refF] at href
                      have hR := HE.out _ href.symm
                      simp only at hR
                      subst hR
                      have fin := HFQ.out
                      clear HO HXQ HRQ HTQ HE href hi
                      as_aux_lemma =>
                      go_wp2
                      refine bodyPost_ret (v := .tuple #[(.slice none 0 0), .int .i64 (z : Int), .int .i64 31]) (by simp [results, Tryd.results24, go_sem]) rfl ⟨(.slice none 0 0), rfl, .inl ⟨rfl, rfl, rfl⟩, fin⟩
                    have ei : ((i : Int) == (L.length : Int)) = false := beq_eq_false_iff_ne.2 (by omega)
                    have ii : (i : Int) < (L.length : Int) := by omega
                    obtain ⟨t, hti⟩ : ∃ t, L[i]? = some t := ⟨_, List.getElem?_eq_getElem (by omega)⟩
                    obtain ⟨b, v⟩ := t
                    have hvl := HWL.out _ (List.mem_of_getElem? hti)
                    obtain ⟨gl', ol', cl', hv, q0, q1⟩ := tk_at (HL2.out.new_ HBQ.out) hti
                    simp only [Value.slice.injEq, Option.some.injEq, Addr.mk.injEq, and_true, true_and] at hv
                    obtain ⟨⟨rfl, rfl⟩, rfl⟩ := hv
                    simp only at q0 q1 hvl
                    rw [drop_tk hti, refF] at href
                    obtain ⟨ws, hws⟩ : ∃ ws : ByteArray, (⟨v.toArray⟩ : ByteArray) = ws := ⟨_, rfl⟩
                    have hwl : ws.data.toList = v := by rw [← hws]
                    have hwz : ws.size ≤ 100000 := by rw [← hws]; show v.toArray.size ≤ _; simpa using hvl
                    rw [hws] at q1
                    clear hti hvl
                    by_cases h66 : f[k].toNat = 66
                    · have e66 : ((f[k].toNat : Int) == 66) = true := beq_iff_eq.2 (by omega)
                      rw [if_pos h66] at href
                      by_cases hv : v = [123]
                      · have hst : ws.toList = [123] := by rw [← hws, hv, ByteArray.toList_eq]
                        have s1 : (ws.toList == [123]) = true := beq_iff_eq.2 hst
                        have s2 : (ws.toList != [123]) = false := by rw [bne, s1]; rfl
                        rw [if_pos hv] at href
                        have HREF := Lib.hid href
                        clear href hst hv hwl hws hwz h66
                        as_aux_lemma =>
                        go_wp2
                        go_roundg (f.size - (k + 1))
                        case measure => have := Hgk.out; omega
                        case rel => exact ⟨k + 1, i + 1, x, OWq, rfl, by omega, by go_num, by go_num, by omega, by omega, HREF.out, HXQ.out, HRQ.out, HTQ.out⟩
                      · have hst : ws.toList ≠ [123] := fun e => hv (by rw [← hwl, ← ByteArray.toList_eq]; exact e)
                        have s1 : (ws.toList == [123]) = false := beq_eq_false_iff_ne.2 hst
                        have s2 : (ws.toList != [123]) = true := by rw [bne, s1]; rfl
                        rw [if_neg hv] at href
                        have hR := HE.out _ href.symm
                        simp only at hR
                        subst hR
                        have fin := HFQ.out
                        clear HO HXQ HRQ HTQ HE href hst hv hwl hws hwz h66
                        as_aux_lemma =>
                        go_wp2
                        go_region
                        all_goals
                          go_wp2
                          refine bodyPost_ret (v := .tuple #[(.slice none 0 0), .int .i64 (b : Int), .int .i64 30]) (by simp [results, Tryd.results24, go_sem]) rfl ⟨(.slice none 0 0), rfl, .inl ⟨rfl, rfl, rfl⟩, fin.drew⟩
                    have e66 : ((f[k].toNat : Int) == 66) = false := beq_eq_false_iff_ne.2 (by omega)
                    rw [if_neg h66] at href
                    have hnum := Hnu.out wr ws hwz
                    rw [hwl] at hnum
                    cases hn : numC v with
                    | none =>
                      rw [hn] at href hnum
                      have hR := HE.out _ href.symm
                      simp only at hR
                      subst hR
                      have fin := HFQ.out
                      have HNUM := Lib.hid hnum
                      clear HO HXQ HRQ HTQ HE href hwl hws hwz h66 hnum hn
                      go_wp2_with fail
                      refine HNUM.out.mono ?_
                      rintro e wN ⟨⟨n, rfl, -⟩, hwN⟩
                      subst wN
                      as_aux_lemma =>
                      go_wp2
                      go_region
                      all_goals
                        go_wp2
                        refine bodyPost_ret (v := .tuple #[(.slice none 0 0), .int .i64 (b : Int), .int .i64 30]) (by simp [results, Tryd.results24, go_sem]) rfl ⟨(.slice none 0 0), rfl, .inl ⟨rfl, rfl, rfl⟩, fin.drew⟩
                    | some n0 =>
                      rw [hn] at href hnum
                      have HNUM := Lib.hid hnum
                      have HREF := Lib.hid href
                      clear href hwl hws hwz h66 hnum hn
                      go_wp2_with fail
                      refine HNUM.out.mono ?_
                      rintro e wN ⟨⟨n, rfl, hnv⟩, hwN⟩
                      subst wN
                      obtain rfl : n = n0 := hnv n0 rfl
                      clear HNUM hnv
                      go_wp2_with fail
                      refine (Hbo.out _ _ _).mono ?_
                      rintro e wN ⟨rfl, hwN⟩
                      subst wN
                      have href := HREF.out
                      try simp only at href
                      clear HREF
                      cases hb : boundB (f[k].toNat : Int) n with
                      | false =>
                        rw [hb, if_neg (by decide)] at href
                        have hR := HE.out _ href.symm
                        simp only at hR
                        subst hR
                        have fin := HFQ.out
                        clear HO HXQ HRQ HTQ HE href
                        as_aux_lemma =>
                        go_wp2
                        go_region
                        all_goals
                          go_wp2
                          refine bodyPost_ret (v := .tuple #[(.slice none 0 0), .int .i64 (b : Int), .int .i64 30]) (by simp [results, Tryd.results24, go_sem]) rfl ⟨(.slice none 0 0), rfl, .inl ⟨rfl, rfl, rfl⟩, fin.drew⟩
                      | true =>
                        rw [hb, if_pos rfl] at href
                        have hX := HXQ.out
                        by_cases h82 : f[k].toNat = 82
                        · have e82 : ((f[k].toNat : Int) == 82) = true := beq_iff_eq.2 (by omega)
                          have hsc : setC f[k].toNat x n = { x with res := n } := by unfold setC; rw [if_pos h82]
                          rw [hsc] at href
                          have xj := hX.get 1 rfl
                          have fj := hX.free 1
                          have lx := hX.lt
                          have hX' := hX.set 1 (.int .i64 n) (by simp [EOq.cs])
                          have tk := hX.turn 1 (.int .i64 n) (by simp [EOq.cs])
                          have hrq' := HRQ.out.keep tk (by simp)
                          have tq' := HTQ.out.trans (tk.up (by simp))
                          simp only [Nat.zero_add] at xj fj hX' tk hrq' tq'
                          have hX2 : Cells _ OWq [1, 0] g3 0 (EOq.cs { x with res := n }) := hX'
                          have HX' := Lib.hid hX2
                          have HR' := Lib.hid hrq'
                          have HT' := Lib.hid tq'
                          have HREF := Lib.hid href
                          clear hX hX' hX2 tk hrq' tq' href HXQ HRQ HTQ HE HO hsc
                          as_aux_lemma =>
                          go_wp2
                          go_roundg (f.size - (k + 1))
                          case measure => have := Hgk.out; omega
                          case rel => exact ⟨k + 1, i + 1, _, OWq, rfl, by omega, by go_num, by go_num, by omega, by omega, HREF.out, HX'.out, HR'.out, HT'.out⟩
                        have e82 : ((f[k].toNat : Int) == 82) = false := beq_eq_false_iff_ne.2 (by omega)
                        by_cases h86 : f[k].toNat = 86
                        · have e86 : ((f[k].toNat : Int) == 86) = true := beq_iff_eq.2 (by omega)
                          have hsc : setC f[k].toNat x n = { x with v := n } := by unfold setC; rw [if_neg h82, if_pos h86]
                          rw [hsc] at href
                          have xj := hX.get 3 rfl
                          have fj := hX.free 3
                          have lx := hX.lt
                          have hX' := hX.set 3 (.int .i64 n) (by simp [EOq.cs])
                          have tk := hX.turn 3 (.int .i64 n) (by simp [EOq.cs])
                          have hrq' := HRQ.out.keep tk (by simp)
                          have tq' := HTQ.out.trans (tk.up (by simp))
                          simp only [Nat.zero_add] at xj fj hX' tk hrq' tq'
                          have hX2 : Cells _ OWq [1, 0] g3 0 (EOq.cs { x with v := n }) := hX'
                          have HX' := Lib.hid hX2
                          have HR' := Lib.hid hrq'
                          have HT' := Lib.hid tq'
                          have HREF := Lib.hid href
                          clear hX hX' hX2 tk hrq' tq' href HXQ HRQ HTQ HE HO hsc
                          as_aux_lemma =>
                          go_wp2
                          go_roundg (f.size - (k + 1))
                          case measure => have := Hgk.out; omega
                          case rel => exact ⟨k + 1, i + 1, _, OWq, rfl, by omega, by go_num, by go_num, by omega, by omega, HREF.out, HX'.out, HR'.out, HT'.out⟩
                        have e86 : ((f[k].toNat : Int) == 86) = false := beq_eq_false_iff_ne.2 (by omega)
                        have hsc : setC f[k].toNat x n = { x with n := n } := by unfold setC; rw [if_neg h82, if_neg h86]
                        rw [hsc] at href
                        have xj := hX.get 2 rfl
                        have fj := hX.free 2
                        have lx := hX.lt
                        have hX' := hX.set 2 (.int .i64 n) (by simp [EOq.cs])
                        have tk := hX.turn 2 (.int .i64 n) (by simp [EOq.cs])
                        have hrq' := HRQ.out.keep tk (by simp)
                        have tq' := HTQ.out.trans (tk.up (by simp))
                        simp only [Nat.zero_add] at xj fj hX' tk hrq' tq'
                        have hX2 : Cells _ OWq [1, 0] g3 0 (EOq.cs { x with n := n }) := hX'
                        have HX' := Lib.hid hX2
                        have HR' := Lib.hid hrq'
                        have HT' := Lib.hid tq'
                        have HREF := Lib.hid href
                        clear hX hX' hX2 tk hrq' tq' href HXQ HRQ HTQ HE HO hsc
                        as_aux_lemma =>
                        go_wp2
                        go_roundg (f.size - (k + 1))
                        case measure => have := Hgk.out; omega
                        case rel => exact ⟨k + 1, i + 1, _, OWq, rfl, by omega, by go_num, by go_num, by omega, by omega, HREF.out, HX'.out, HR'.out, HT'.out⟩
                  · obtain rfl : k = f.size := by omega
                    have j1 : ¬ (f.size : Int) < (f.size : Int) := by omega
                    rw [List.drop_eq_nil_of_le (by simp), refF] at href
                    have hnx := HO.out x (L.drop i) href.symm
                    have hX := HXQ.out
                    have x0 := hX.get 0 rfl
                    have x1 := hX.get 1 rfl
                    have x2 := hX.get 2 rfl
                    have x3 := hX.get 3 rfl
                    simp only [Nat.zero_add] at x0 x1 x2 x3
                    have hr2 := Row.alloc_ HRQ.out (.cells (EOq.cs x).toArray 32)
                    have T2 := HTQ.out.alloc_ (.cells (EOq.cs x).toArray 32)
                    have hsrc := (Reads.new wr (EOq.cs x) 32 1 1 (Nat.le_refl _)).src Tryd.underlying22 (sz := 4) rfl (EOq.cs_one x)
                    have HNX := Lib.hid hnx
                    clear hnx href hX HXQ HRQ HTQ HE HO
                    go_wp2_with (at_builtin; refine wpList_append_row rfl (.tmp 157) (.tmp 159) 22 22 rfl 32 _ 4 32 Tryd.underlying22 EOq.info rfl rfl hr2 rfl hsrc (by unfold maxLen; omega) (by omega) ?_)
                    intro v' w' ow' hrow' ht'
                    have hrw : Row w' ow' [1, 1] 32 4 v' (ops ++ [x]).length (EOq.css (ops ++ [x])) := by
                      rw [List.length_append, EOq.css_append, show EOq.css [x] = EOq.cs x by simp [EOq.css]]
                      exact hrow'
                    have HRW2 := Lib.hid hrw
                    have HT2 := Lib.hid (T2.trans (ht'.up (by simp)))
                    clear hr2 T2 hsrc hrow' ht' hrw x0 x1 x2 x3
                    go_wp2
                    go_roundg (L.length - i)
                    case measure => have := Hgj.out; omega
                    case rel => exact ⟨i, o2, ops ++ [x], ow', rfl, hil, rfl, rfl, by rw [List.length_append, List.length_singleton]; omega, by rw [List.length_append, List.length_singleton]; omega, HNX.out, HRW2.out, HT2.out⟩
    · obtain rfl : j = L.length := by omega
      have j0 : ¬ (L.length : Int) < (L.length : Int) := by omega
      have hpar := HPAR.out
      rw [List.drop_length, parT_nil] at hpar
      by_cases ho : 0 < opn
      · rw [if_pos ho] at hpar
        subst hpar
        have i1 : (0 : Int) < (opn : Int) := by omega
        have fin := HFIN.out
        have hz2 : (s.size : Int) = (z : Int) := by omega
        clear HROW HT HPAR
        as_aux_lemma =>
        go_wp2
        refine bodyPost_ret (v := .tuple #[(.slice none 0 0), .int .i64 (z : Int), .int .i64 31]) (by simp [results, Tryd.results24, go_sem]) rfl ⟨(.slice none 0 0), rfl, .inl ⟨rfl, rfl, rfl⟩, fin⟩
      · rw [if_neg ho] at hpar
        subst hpar
        have i1 : ¬ (0 : Int) < (opn : Int) := by omega
        have fin := HFIN.out
        have hrd := Row.reads HROW.out
        have HRD := Lib.hid hrd
        clear HROW HT HPAR hrd
        as_aux_lemma =>
        go_wp2
        refine bodyPost_ret (v := .tuple #[(.slice Ao ops.length co), .int .i64 0, .int .i64 0]) (by simp [results, Tryd.results24, go_sem]) rfl ⟨(.slice Ao ops.length co), rfl, HRD.out, fin⟩
end CR
end Go.Proofs.YtnehiooioodkfaaDoor
