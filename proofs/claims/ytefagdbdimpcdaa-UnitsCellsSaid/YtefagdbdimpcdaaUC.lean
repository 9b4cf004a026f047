/-
  LAW 5: UnitsCells: the walk.
-/
import Derived.Test.YtefagdbdimpcdaaUB
import Derived.Deep.CutRange
import Derived.Deep.CutBlock
import Derived.Deep.DeepCutAuto
set_option linter.unusedVariables false
set_option linter.unusedSimpArgs false
namespace Go.Proofs.Ytefagdbdimpcdaa
open Go Go.RowKit
namespace UN

/-- What the loop keeps. -/
def ucRel (w : World) (g : Nat) (us : List Int) (N : Nat) (gn : Nat) (i : Value) (wr : World) : Prop :=
  ∃ (k : Nat) (OW : Ow) (C : List Int) (T : List Tk), gn = N - k ∧ k ≤ N ∧ i = .int .i64 (k : Int) ∧ UT wr OW [1, 1] g us C T ∧ Turn [1] w ow0 wr OW
def ucMid (w : World) (g gx : Nat) (us : List Int) (o : Op5) (V : Value) (wr : World) : Prop :=
  ∃ (OW : Ow) (C : List Int) (T : List Tk), C.length = us.length ∧ UT wr OW [1, 1] g us C T ∧ Row wr OW [1, 2] 3 1 V us.length (EInt.css C) ∧ Cells wr OW [1, 3] gx 0 [.int .i64 o.kind, .int .i64 o.job, .int .i64 o.res, .int .i64 o.n, .int .i64 o.need, .int .i64 o.v] ∧ Turn [1] w ow0 wr OW

set_option maxRecDepth 100000 in
set_option maxHeartbeats 16000000 in
theorem cellsL (w : World) (v : Value) (xs : List Int) (h : EInt.In w v xs) (vs : Value) (ops : List Op5) (hs : EOp.In w vs ops) : Calls Try.prog 4 #[v, vs] w fun e w' => e = .returned (.bool true) ∧ Below w.heap.size w w' := by
  obtain ⟨A, cap, rfl, hcap, hmax, hcov⟩ := h
  have Hcov := Lib.hid hcov
  have Hs := Lib.hid hs
  clear hcov hs
  go_enter Try.func4, Try.ntmps4
  go_upto_if 15 with fail
  go_cut [0] (fun s0 wx => wx = w ∧ s0 = .slice A (xs.take 16).length cap)
  case first =>
    by_cases h300 : (16 : Int) < (xs.length : Int)
    · have c100 : (16 : Int) ≤ (cap : Int) := by omega
      go_wp2_with fail
      go_meet
      exact ⟨rfl, by rw [List.length_take, Nat.min_eq_left (by omega)]⟩
    · go_wp2_with fail
      go_meet
      exact ⟨rfl, by rw [List.take_of_length_le (by omega)]⟩
  case rest =>
    obtain ⟨rfl, rfl⟩ := hcut
    have hlen : (xs.take 16).length ≤ 16 := by rw [List.length_take]; omega
    have hcov : EInt.Cov wc A (EInt.css (xs.take 16)) := by rw [EInt.css_take]; exact Hcov.out.take _
    generalize xs.take 16 = us at *
    have Hc := Lib.hid hcov
    clear Hcov hcap hmax hcov
    obtain ⟨w, rfl⟩ : ∃ w : World, w = wc := ⟨_, rfl⟩
    go_wp2_with (at_builtin; refine wpList_append_row rfl (.tmp 18) (.tmp 19) 38 38 rfl 3 _ 1 8 Try.underlying38 EInt.info rfl rfl (Row.new0 w ow0 [1, 9] 3 1) rfl ((Hc.out.new_ ((Below.refl _ _).alloc (Nat.le_refl _) _)).src Try.underlying38 cap) (by unfold maxLen; omega) (by omega) ?_)
    intro v1 w1 ow1 hl ht
    have t := (((Turn.refl [1, 9] w ow0).alloc (.cells #[] 3) [1, 9]).trans ht).up (p := [1]) (by simp)
    try simp only [Nat.zero_add, List.nil_append] at hl
    clear ht
    go_wp2_with fail
    refine (made w w1 ow1 [9] [1] t v1 us hl hlen (by simp) none 0 [] (nilCov w) (by simp)).mono ?_
    rintro e w2 ⟨g, wm, om, wn, on_, ow2, rfl, hT, hl2, t1, n1, t2⟩
    replace t := ((t.trans (t1.up (by simp))).trans (n1.turn [1])).trans (t2.up (by simp))
    simp only [runS] at hT
    rw [show us.length = (us.map cl).length from (List.length_map _).symm] at hT
    clear hl hl2 t1 n1 t2 hlen Hc
    generalize us.map cl = us' at *
    go_wp2_with fail
    refine (EOp.fewB w w2 vs ops 200 Hs.out (by omega)).mono ?_
    rintro e w3 ⟨v3, rfl, hin, rfl⟩
    obtain ⟨B, capB, rfl, -, -, hcB⟩ := hin
    have HB := Lib.hid hcB
    clear hcB Hs
    have hyl : (ops.take 200).length ≤ 200 := by rw [List.length_take]; omega
    generalize ops.take 200 = ys at *
    go_wp2_with fail
    go_loopg [6] ys.length (fun gn i wr => ucRel w g us' ys.length gn i wr)
    case atStart => exact ⟨0, ow2, _, _, rfl, Nat.zero_le _, rfl, hT, t⟩
    case round =>
      clear hT t
      obtain ⟨k, OW, C, T, hgk, hk, rfl, hT, t⟩ := hrel
      have Hgk := Lib.hid hgk
      clear hgk
      by_cases hlt : k < ys.length
      · obtain ⟨o, ho⟩ : ∃ o, ys[k]? = some o := ⟨_, List.getElem?_eq_getElem hlt⟩
        obtain ⟨b, off, rfl, c0, c1, c2, c3, c4, c5⟩ := (HB.out.new_ (t.new_ ow0 [1]).below).at k o ho
        have i0 : (k : Int) < (ys.length : Int) := by omega
        clear ho
        go_upto_region 12 with fail
        obtain ⟨ow11, ho, nn, -⟩ := SH.add_cells wr OW [1, 3] [.int .i64 o.kind, .int .i64 o.job, .int .i64 o.res, .int .i64 o.n, .int .i64 o.need, .int .i64 o.v] 43
        generalize wr.alloc (.cells #[.int .i64 o.kind, .int .i64 o.job, .int .i64 o.res, .int .i64 o.n, .int .i64 o.need, .int .i64 o.v] 43) = w11 at *
        generalize wr.heap.size = gx at *
        replace hT := hT.new_ nn
        replace t := t.trans (nn.turn [1])
        clear nn
        clear c0 c1 c2 c3 c4 c5
        go_wp2_with fail
        refine (cells w11 ow11 [1, 1] g us' C T [1, 2] hT).mono ?_
        rintro e w12 ⟨v4, ow12, rfl, hw, nn, -⟩
        replace hT := hT.new_ nn
        replace ho := ho.new_ nn
        replace t := t.trans (nn.turn [1])
        clear nn
        have hCl : C.length = us'.length := by obtain ⟨rr, hi, -⟩ := hT; exact hi.cl
        rw [hCl] at hw
        obtain ⟨A4, c4, rfl, -⟩ := hw.slice
        have o0 := ho.get 0 rfl
        have o1 := ho.get 1 rfl
        have o2 := ho.get 2 rfl
        have o3 := ho.get 3 rfl
        have o4 := ho.get 4 rfl
        have o5 := ho.get 5 rfl
        simp only [Nat.zero_add] at o0 o1 o2 o3 o4 o5
        go_wp2_with fail
        refine (held w12 ow12 [1, 1] g us' C T hT o.job o.res).mono ?_
        rintro e w13 ⟨rfl, bb⟩
        have nn := bb.nw ow12
        replace hT := hT.new_ nn
        replace ho := ho.new_ nn
        replace hw := hw.new_ nn
        replace t := t.trans (nn.turn [1])
        clear nn
        clear bb
        clear o0 o1 o2 o3 o4 o5
        have o0 := ho.get 0 rfl
        have o1 := ho.get 1 rfl
        have o2 := ho.get 2 rfl
        have o3 := ho.get 3 rfl
        have o4 := ho.get 4 rfl
        have o5 := ho.get 5 rfl
        simp only [Nat.zero_add] at o0 o1 o2 o3 o4 o5
        have hiff : cellE us' T o.job o.res = 0 ↔ (0 < heldQ us' T o.job o.res ∧ 0 ≤ o.job) := by obtain ⟨rr, hi, -⟩ := hT; exact cellE_iff hi _ _
        go_upto_if 47 with fail
        go_cut [] from 45 to 47 (fun wx => ucMid w g gx us' o (.slice A4 us'.length c4) wx)
        case first =>
          generalize hhq : heldQ us' T o.job o.res = hq at *
          clear hhq
          by_cases k4 : o.kind = 4
          · have b4 : (o.kind == 4) = true := beq_iff_eq.2 k4
            clear k4
            go_wp2_with fail
            refine (store w13 ow12 [1, 1] g us' C T hT o.job o.res o.v).mono ?_
            rintro e w31 ⟨ow31, rfl, hn', tt⟩
            replace ho := ho.keep tt (by simp)
            replace hw := hw.keep tt (by simp)
            replace t := t.trans (tt.up (by simp))
            clear hT tt
            have hT := hn'
            clear hn'
            clear o0 o1 o2 o3 o4 o5
            have o0 := ho.get 0 rfl
            have o1 := ho.get 1 rfl
            have o2 := ho.get 2 rfl
            have o3 := ho.get 3 rfl
            have o4 := ho.get 4 rfl
            have o5 := ho.get 5 rfl
            simp only [Nat.zero_add] at o0 o1 o2 o3 o4 o5
            by_cases hE : cellE us' T o.job o.res = 0
            · obtain ⟨r, hr1, hr2⟩ := cellE_known hE
              obtain ⟨q1, q2⟩ := hiff.1 hE
              have hst : storeC us' C T o.job o.res o.v = C.set r o.v := by unfold storeC; rw [if_pos hE, hr1]; rfl
              rw [hst] at hT
              rw [hE]
              rw [hr1] at o2
              obtain ⟨x, hx⟩ : ∃ x, C[r]? = some x := ⟨_, List.getElem?_eq_getElem (by omega)⟩
              obtain ⟨b4', off4, cap4, hv4, lb4, e4, hfz⟩ := row_at hw hCl r x hx
              simp only [Value.slice.injEq] at hv4
              obtain ⟨rfl, -, rfl⟩ := hv4
              have f4 := hfz (off4 + r)
              have i4 : (r : Int) < (us'.length : Int) := by omega
              have tk := hw.turn (off4 + r) (.int .i64 o.v)
              have hw' := hw.set r (.int .i64 o.v)
              rw [css_cells1 C 0 o.v r] at hw'
              have hT' := hT.keep tk (fun s => by simp)
              have ho' := ho.keep tk (by simp)
              have t' := t.trans (tk.up (p := [1]) (by simp))
              have Ho' := Lib.hid ho'
              have Hr1 := Lib.hid hr1
              clear hst hx hw hfz tk hT hr1 hE hiff ho' ho
              go_wp2_with fail
              go_meet
              exact ⟨ow31, _, T, by simpa using hCl, hT', hw', Ho'.out, t'⟩
            · have hst : storeC us' C T o.job o.res o.v = C := by unfold storeC; rw [if_neg hE]
              rw [hst] at hT
              have hno : ¬ (0 < hq ∧ 0 ≤ o.job) := fun h => hE (hiff.2 h)
              generalize cellE us' T o.job o.res = y at *
              have b0 : (y == 0) = false := beq_eq_false_iff_ne.2 hE
              clear hiff hst
              by_cases q1 : 0 < hq
              · have q2 : ¬ 0 ≤ o.job := fun h => hno ⟨q1, h⟩
                clear hno
                go_wp2_with fail
                go_meet
                exact ⟨ow31, C, T, hCl, hT, hw, ho, t⟩
              · clear hno
                go_wp2_with fail
                go_meet
                exact ⟨ow31, C, T, hCl, hT, hw, ho, t⟩
          · have b4 : (o.kind == 4) = false := beq_eq_false_iff_ne.2 k4
            by_cases k3 : o.kind = 3
            · have b3 : (o.kind == 3) = true := beq_iff_eq.2 k3
              clear k3 k4
              go_wp2_with fail
              refine (load w13 ow12 [1, 1] g us' C T hT o.job o.res).mono ?_
              rintro e w51 ⟨rfl, bb⟩
              have nn := bb.nw ow12
              replace hT := hT.new_ nn
              replace ho := ho.new_ nn
              replace hw := hw.new_ nn
              replace t := t.trans (nn.turn [1])
              clear nn
              clear bb
              clear o0 o1 o2 o3 o4 o5
              have o0 := ho.get 0 rfl
              have o1 := ho.get 1 rfl
              have o2 := ho.get 2 rfl
              have o3 := ho.get 3 rfl
              have o4 := ho.get 4 rfl
              have o5 := ho.get 5 rfl
              simp only [Nat.zero_add] at o0 o1 o2 o3 o4 o5
              by_cases hE : cellE us' T o.job o.res = 0
              · obtain ⟨r, hr1, hr2⟩ := cellE_known hE
                obtain ⟨q1, q2⟩ := hiff.1 hE
                rw [hE, if_pos rfl]
                rw [hr1] at o2
                obtain ⟨x, hx⟩ : ∃ x, C[r]? = some x := ⟨_, List.getElem?_eq_getElem (by omega)⟩
                obtain ⟨b4', off4, cap4, hv4, lb4, e4, hfz⟩ := row_at hw hCl r x hx
                simp only [Value.slice.injEq] at hv4
                obtain ⟨rfl, -, rfl⟩ := hv4
                have i4 : (r : Int) < (us'.length : Int) := by omega
                rw [show cellQ C o.res = x by rw [hr1]; exact unitsOf_at hx]
                clear hx hfz hr1 hE hiff
                have Ho := Lib.hid ho
                clear ho
                go_wp2_with fail
                go_meet
                exact ⟨ow12, C, T, hCl, hT, hw, Ho.out, t⟩
              · rw [if_neg hE]
                have hno : ¬ (0 < hq ∧ 0 ≤ o.job) := fun h => hE (hiff.2 h)
                generalize cellE us' T o.job o.res = y at *
                have b0 : (y == 0) = false := beq_eq_false_iff_ne.2 hE
                clear hiff
                by_cases q1 : 0 < hq
                · have q2 : ¬ 0 ≤ o.job := fun h => hno ⟨q1, h⟩
                  clear hno
                  go_wp2_with fail
                  go_meet
                  exact ⟨ow12, C, T, hCl, hT, hw, ho, t⟩
                · clear hno
                  go_wp2_with fail
                  go_meet
                  exact ⟨ow12, C, T, hCl, hT, hw, ho, t⟩
            · have b3 : (o.kind == 3) = false := beq_eq_false_iff_ne.2 k3
              go_wp2_with fail
              refine (act w13 ow12 [1, 1] g us' C T hT o).mono ?_
              rintro e w71 ⟨ow71, rfl, hn', tt⟩
              replace ho := ho.keep tt (by simp)
              replace hw := hw.keep tt (by simp)
              replace t := t.trans (tt.up (by simp))
              clear hT tt
              have hT := hn'
              clear hn'
              rw [show actC us' C T o = C from if_neg k4] at hT
              clear k3 k4 hiff
              clear o0 o1 o2 o3 o4 o5
              go_wp2_with fail
              go_meet
              exact ⟨ow71, C, _, hCl, hT, hw, ho, t⟩
        case rest =>
          clear hT hw ho t hCl hiff o0 o1 o2 o3 o4 o5
          obtain ⟨ow5, C, T, hCl, hT, hw, ho, t⟩ := hcut
          obtain ⟨w5, rfl⟩ : ∃ w5 : World, w5 = wc := ⟨_, rfl⟩
          go_wp2_with fail
          refine (cells w5 ow5 [1, 1] g us' C T [1, 4] hT).mono ?_
          rintro e w91 ⟨v6, ow91, rfl, hz, nn, -⟩
          replace hT := hT.new_ nn
          replace hw := hw.new_ nn
          replace ho := ho.new_ nn
          replace t := t.trans (nn.turn [1])
          clear nn
          have hul : us'.length ≤ 16 := by obtain ⟨rr, hi, -⟩ := hT; exact hi.ul
          go_wp2_with fail
          refine (EInt.same_yes w91 v6 _ C (by omega) hz.reads (by rw [hCl]; exact hw.reads)).mono ?_
          rintro e w92 ⟨rfl, kk, hw'⟩
          have nn : New w91 ow91 w92 ow91 := by rw [hw']; exact (New.refl _ _).drewN kk
          clear hw'
          replace hT := hT.new_ nn
          replace hw := hw.new_ nn
          replace ho := ho.new_ nn
          replace hz := hz.new_ nn
          replace t := t.trans (nn.turn [1])
          clear nn
          go_wp2_with fail
          go_roundg (ys.length - (k + 1))
          case measure => have := Hgk.out; omega
          case rel => exact ⟨k + 1, ow91, C, T, rfl, by omega, by go_num, hT, t⟩
      · obtain rfl : k = ys.length := by omega
        clear hlt Hgk
        have fin := (t.new_ ow0 [1]).below
        clear hT t
        go_wp2_with fail
        refine (runs wr).mono ?_
        rintro e w92 ⟨rfl, b5⟩
        have fin := fin.trans (b5.mono fin.size)
        go_wp2
        go_ret
        exact ⟨rfl, fin⟩

end UN
end Go.Proofs.Ytefagdbdimpcdaa
