/-
  LAW 5: UnitsOthers: the walk.
-/
import Derived.Test.YtefagdbdimpcdaaUOp
import Derived.Test.YtefagdbdimpcdaaUR
import Derived.Test.YtefagdbdimpcdaaELkS
import Derived.Test.YtefagdbdimpcdaaUB
import Derived.Deep.CutRange
import Derived.Deep.CutBlock
import Derived.Deep.DeepCutAuto
set_option linter.unusedVariables false
set_option linter.unusedSimpArgs false
namespace Go.Proofs.Ytefagdbdimpcdaa
open Go Go.RowKit
namespace UN

set_option maxRecDepth 100000 in
set_option maxHeartbeats 16000000 in
theorem othersL (w : World) (v : Value) (xs : List Int) (h : EInt.In w v xs) (vs : Value) (ops : List Op5) (hs : EOp.In w vs ops) (o : Op5) (job res : Int) : Calls Try.prog 7 #[v, vs, .agg #[.int .i64 o.kind, .int .i64 o.job, .int .i64 o.res, .int .i64 o.n, .int .i64 o.need, .int .i64 o.v], .int .i64 job, .int .i64 res] w fun e w' => e = .returned (.bool true) ∧ Below w.heap.size w w' := by
  obtain ⟨A, cap, rfl, hcap, hmax, hcov⟩ := h
  have Hcov := Lib.hid hcov
  have Hs := Lib.hid hs
  clear hcov hs
  obtain ⟨gx, hgx⟩ : ∃ gx, gx = w.heap.size := ⟨_, rfl⟩
  rw [← hgx]
  go_enter Try.func7, Try.ntmps7
  go_upto_if 18 with fail
  obtain ⟨ow1, ho, nn, -⟩ := SH.add_cells w ow0 [1, 3] [.int .i64 o.kind, .int .i64 o.job, .int .i64 o.res, .int .i64 o.n, .int .i64 o.need, .int .i64 o.v] 43
  generalize w.alloc (.cells #[.int .i64 o.kind, .int .i64 o.job, .int .i64 o.res, .int .i64 o.n, .int .i64 o.need, .int .i64 o.v] 43) = w1 at *
  rw [← hgx] at ho ⊢
  have Hgx := Lib.hid hgx
  clear hgx
  have t := nn.turn [1]
  have bw : Below w.heap.size w w1 := nn.below
  clear nn
  go_cut [0] (fun s0 wx => wx = w1 ∧ s0 = .slice A (xs.take 16).length cap)
  case first =>
    by_cases h300 : (16 : Int) < (xs.length : Int)
    · have c100 : (16 : Int) ≤ (cap : Int) := by omega
      go_wp2_with fail
      go_meet
      exact ⟨rfl, by rw [List.length_take, Nat.min_eq_left (by omega)]⟩
    · go_wp2_with fail
      go_meet
      exact ⟨rfl, by rw [List.take_of_length_le (by omega)]⟩
  case rest =>
    obtain ⟨rfl, rfl⟩ := hcut
    have hlen : (xs.take 16).length ≤ 16 := by rw [List.length_take]; omega
    have hcov : EInt.Cov wc A (EInt.css (xs.take 16)) := by rw [EInt.css_take]; exact (Hcov.out.take _).new_ bw
    generalize xs.take 16 = us at *
    have Hc := Lib.hid hcov
    clear Hcov hcap hmax hcov bw
    obtain ⟨w1, rfl⟩ : ∃ w1 : World, w1 = wc := ⟨_, rfl⟩
    go_wp2_with (at_builtin; refine wpList_append_row rfl (.tmp 21) (.tmp 22) 38 38 rfl 3 _ 1 8 Try.underlying38 EInt.info rfl rfl (Row.new0 w1 ow1 [1, 9] 3 1) rfl ((Hc.out.new_ ((Below.refl _ _).alloc (Nat.le_refl _) _)).src Try.underlying38 cap) (by unfold maxLen; omega) (by omega) ?_)
    intro v1 w2 ow2 hl ht
    have tt := ((Turn.refl [1, 9] w1 ow1).alloc (.cells #[] 3) [1, 9]).trans ht
    try simp only [Nat.zero_add, List.nil_append] at hl
    replace ho := ho.keep tt (by simp)
    replace t := t.trans (tt.up (by simp))
    clear ht tt
    go_wp2_with fail
    refine (EOp.fewB w w2 vs ops 150 Hs.out (by omega)).mono ?_
    rintro e w3 ⟨v3, rfl, hin, rfl⟩
    obtain ⟨B, capB, rfl, -, -, hcB⟩ := hin
    have hyl : (ops.take 150).length ≤ 150 := by rw [List.length_take]; omega
    generalize ops.take 150 = ys at *
    go_wp2_with fail
    refine (made w w3 ow2 [9] [1] t v1 us hl hlen (by simp) B capB ys hcB (by omega)).mono ?_
    rintro e w4 ⟨g, wm, om, wn, on_, ow4, rfl, hT, hl2, t1, n1, t2⟩
    replace ho := ((ho.keep t1 (by simp)).new_ n1).keep t2 (by simp)
    replace t := ((t.trans (t1.up (by simp))).trans (n1.turn [1])).trans (t2.up (by simp))
    clear hl hl2 t1 n1 t2 hlen Hc Hs hcB
    generalize us.map cl = us' at *
    generalize (runS us' ys (List.replicate us.length 0, [])).1 = C at *
    generalize (runS us' ys (List.replicate us.length 0, [])).2 = T at *
    clear hyl
    have Ho := Lib.hid ho
    have o1 := ho.get 1 rfl
    simp only [Nat.zero_add] at o1
    clear ho
    by_cases hj : job = o.job
    · subst hj
      clear hT Ho
      have bj : (o.job == o.job) = true := beq_self_eq_true _
      go_upto_region 6 with fail
      go_wp2_with fail
      refine (runs w4).mono ?_
      rintro e w5 ⟨rfl, b5⟩
      have fin := (t.new_ ow0 [1]).below
      have fin := fin.trans (b5.mono fin.size)
      go_wp2
      go_ret
      exact ⟨rfl, Hgx.out ▸ fin⟩
    · have bj : (job == o.job) = false := beq_eq_false_iff_ne.2 hj
      go_upto_region 7 with fail
      have ho := Ho.out
      clear Ho o1
      have hlT : T.length ≤ 4080 := by obtain ⟨rr, hi, -⟩ := hT; exact hi.len
      go_wp2_with fail
      refine (locks w4 ow4 [1, 1] g us' C T [1, 4] hT job).mono ?_
      rintro e w11 ⟨v4, ow11, rfl, hk, nn, -⟩
      replace hT := hT.new_ nn
      replace ho := ho.new_ nn
      replace t := t.trans (nn.turn [1])
      clear nn
      go_wp2_with fail
      refine (holders w11 ow11 [1, 1] [1, 5] g us' C T hT res).mono ?_
      rintro e w12 ⟨v5, ow12, hs, rfl, his, hsl, hh, nn, -⟩
      replace hT := hT.new_ nn
      replace ho := ho.new_ nn
      replace hk := hk.new_ nn
      replace t := t.trans (nn.turn [1])
      clear nn
      go_wp2_with fail
      refine (held w12 ow12 [1, 1] g us' C T hT job res).mono ?_
      rintro e w13 ⟨rfl, bb⟩
      have nn := bb.nw ow12
      replace hT := hT.new_ nn
      replace ho := ho.new_ nn
      replace hk := hk.new_ nn
      replace hh := hh.new_ nn
      replace t := t.trans (nn.turn [1])
      clear nn
      clear bb
      go_wp2_with fail
      refine (cell w13 ow12 [1, 1] g us' C T hT res).mono ?_
      rintro e w14 ⟨rfl, bb⟩
      have nn := bb.nw ow12
      replace hT := hT.new_ nn
      replace ho := ho.new_ nn
      replace hk := hk.new_ nn
      replace hh := hh.new_ nn
      replace t := t.trans (nn.turn [1])
      clear nn
      clear bb
      have o0 := ho.get 0 rfl
      have o1 := ho.get 1 rfl
      have o2 := ho.get 2 rfl
      have o3 := ho.get 3 rfl
      have o4 := ho.get 4 rfl
      have o5 := ho.get 5 rfl
      simp only [Nat.zero_add] at o0 o1 o2 o3 o4 o5
      go_wp2_with fail
      refine (act w14 ow12 [1, 1] g us' C T hT o).mono ?_
      rintro e w15 ⟨ow15, rfl, hn', tt⟩
      replace ho := ho.keep tt (by simp)
      replace hk := hk.keep tt (by simp)
      replace hh := hh.keep tt (by simp)
      replace t := t.trans (tt.up (by simp))
      clear hT tt
      have hT := hn'
      clear hn'
      clear o0 o1 o2 o3 o4 o5
      have htl : T.length ≤ 4080 := hlT
      have hll := locks_len T job
      have eq1 := act_locks us' T o job hj
      have eq2 := act_held us' T o job res hj
      go_wp2_with fail
      refine (locks w15 ow15 [1, 1] g us' _ _ [1, 6] hT job).mono ?_
      rw [eq1]
      rintro e w16 ⟨v6, ow16, rfl, hq, nn, -⟩
      replace hT := hT.new_ nn
      replace ho := ho.new_ nn
      replace hk := hk.new_ nn
      replace hh := hh.new_ nn
      replace t := t.trans (nn.turn [1])
      clear nn
      go_wp2_with fail
      refine (ELk.same_yes w16 v6 v4 (locksOf T job) (by omega) hq.reads hk.reads).mono ?_
      rintro e w17 ⟨rfl, kk, hw'⟩
      have nn : New w16 ow16 w17 ow16 := by rw [hw']; exact (New.refl _ _).drewN kk
      clear hw'
      replace hT := hT.new_ nn
      replace ho := ho.new_ nn
      replace hk := hk.new_ nn
      replace hh := hh.new_ nn
      replace hq := hq.new_ nn
      replace t := t.trans (nn.turn [1])
      clear nn
      go_wp2_with fail
      refine (held w17 ow16 [1, 1] g us' _ _ hT job res).mono ?_
      rw [eq2]
      rintro e w18 ⟨rfl, bb⟩
      have nn := bb.nw ow16
      replace hT := hT.new_ nn
      replace ho := ho.new_ nn
      replace hk := hk.new_ nn
      replace hh := hh.new_ nn
      replace hq := hq.new_ nn
      replace t := t.trans (nn.turn [1])
      clear nn
      clear bb
      generalize heldQ us' T job res = hv at *
      have bv : (hv == hv) = true := beq_self_eq_true _
      have bv2 : (hv != hv) = false := by simp
      have Ho := Lib.hid ho
      have o0 := ho.get 0 rfl
      have o2 := ho.get 2 rfl
      simp only [Nat.zero_add] at o0 o2
      clear hk hq
      by_cases hkr : res ≠ o.res ∧ o.kind ≠ 2
      · obtain ⟨hr, hk2⟩ := hkr
        have eq3 := act_cell (U := us') (C := C) (T := T) hr
        have eq4 := fun hs => act_holders (U := us') (T := T) (hs := hs) hr hk2
        have bk : (o.kind == 2) = false := beq_eq_false_iff_ne.2 hk2
        have br : (res == o.res) = false := beq_eq_false_iff_ne.2 hr
        have br2 : (res != o.res) = true := by simpa using hr
        go_upto_region 15 with fail
        go_wp2_with fail
        refine (holders w18 ow16 [1, 1] [1, 7] g us' _ _ hT res).mono ?_
        rintro e w41 ⟨v7, ow41, hs', rfl, his', hsl', hz, nn, -⟩
        replace hT := hT.new_ nn
        replace ho := ho.new_ nn
        replace hh := hh.new_ nn
        replace t := t.trans (nn.turn [1])
        clear nn
        obtain rfl := IsH.same (eq4 _ his') his
        go_wp2_with fail
        refine (EHd.same_yes w41 v7 v5 hs' (by omega) hz.reads hh.reads).mono ?_
        rintro e w42 ⟨rfl, kk, hw'⟩
        have nn : New w41 ow41 w42 ow41 := by rw [hw']; exact (New.refl _ _).drewN kk
        clear hw'
        replace hT := hT.new_ nn
        replace ho := ho.new_ nn
        replace hh := hh.new_ nn
        replace hz := hz.new_ nn
        replace t := t.trans (nn.turn [1])
        clear nn
        go_wp2_with fail
        refine (cell w42 ow41 [1, 1] g us' _ _ hT res).mono ?_
        rw [eq3]
        rintro e w43 ⟨rfl, bb⟩
        have nn := bb.nw ow41
        replace hT := hT.new_ nn
        replace ho := ho.new_ nn
        replace hh := hh.new_ nn
        replace hz := hz.new_ nn
        replace t := t.trans (nn.turn [1])
        clear nn
        clear bb
        generalize cellQ C res = cv at *
        have bc : (cv == cv) = true := beq_self_eq_true _
        have fin := (t.new_ ow0 [1]).below
        clear hT ho hh hz t
        go_wp2_with fail
        refine (runs w43).mono ?_
        rintro e w92 ⟨rfl, b5⟩
        have fin := fin.trans (b5.mono fin.size)
        go_wp2
        go_ret
        exact ⟨rfl, Hgx.out ▸ fin⟩
      · have fin := (t.new_ ow0 [1]).below
        clear hT ho hh t
        by_cases hk2 : o.kind = 2
        · have bk : (o.kind == 2) = true := beq_iff_eq.2 hk2
          go_upto_region 16 with fail
          go_wp2_with fail
          refine (runs w18).mono ?_
          rintro e w92 ⟨rfl, b5⟩
          have fin := fin.trans (b5.mono fin.size)
          go_wp2
          go_ret
          exact ⟨rfl, Hgx.out ▸ fin⟩
        · have bk : (o.kind == 2) = false := beq_eq_false_iff_ne.2 hk2
          obtain rfl : res = o.res := Classical.byContradiction fun h => hkr ⟨h, hk2⟩
          have br : (o.res != o.res) = false := by simp
          clear hkr
          go_upto_region 16 with fail
          go_wp2_with fail
          refine (runs w18).mono ?_
          rintro e w92 ⟨rfl, b5⟩
          have fin := fin.trans (b5.mono fin.size)
          go_wp2
          go_ret
          exact ⟨rfl, Hgx.out ▸ fin⟩

end UN
end Go.Proofs.Ytefagdbdimpcdaa
