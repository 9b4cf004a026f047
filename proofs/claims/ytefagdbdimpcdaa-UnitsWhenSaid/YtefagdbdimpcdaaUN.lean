/-
  LAW 5: UnitsWhen: the walk.
-/
import Derived.Test.YtefagdbdimpcdaaUWp
import Derived.Test.YtefagdbdimpcdaaUR
import Derived.Test.YtefagdbdimpcdaaUB
import Derived.Deep.CutRange
import Derived.Deep.CutBlock
import Derived.Deep.DeepCutAuto
set_option linter.unusedVariables false
set_option linter.unusedSimpArgs false
namespace Go.Proofs.Ytefagdbdimpcdaa
open Go Go.RowKit
namespace UN

def inB (us : List Int) (o : Op5) : Bool := decide (0 ≤ o.job) && known us o.res
theorem inB_iff (us : List Int) (o : Op5) : inB us o = true ↔ (0 ≤ o.job ∧ 0 ≤ o.res ∧ o.res < us.length) := by simp [inB, known]
theorem inB_no (us : List Int) (o : Op5) (h : ¬ (0 ≤ o.job ∧ 0 ≤ o.res ∧ o.res < us.length)) : inB us o = false := by
  cases hb : inB us o with
  | false => rfl
  | true => exact absurd ((inB_iff us o).1 hb) h
/-- What the loop keeps. -/
def uwRel (w : World) (g : Nat) (V : Value) (us : List Int) (N : Nat) (gn : Nat) (i : Value) (wr : World) : Prop :=
  ∃ (k : Nat) (OW : Ow) (C : List Int) (T : List Tk), gn = N - k ∧ k ≤ N ∧ i = .int .i64 (k : Int) ∧ UT wr OW [1, 1] g us C T ∧ Row wr OW [1, 9] 3 1 V us.length (EInt.css us) ∧ Turn [1] w ow0 wr OW
/-- The middle of a round with an unlock. -/
def uwMid1 (w : World) (g gx : Nat) (V Vq : Value) (us C : List Int) (T : List Tk) (o : Op5) (x : Value) (wr : World) : Prop :=
  ∃ (OW : Ow), x = .bool (decide (unlockE us T o.job o.res = 0)) ∧ UT wr OW [1, 1] g us C T ∧ Row wr OW [1, 9] 3 1 V us.length (EInt.css us) ∧ Row wr OW [1, 4] 51 2 Vq (locksOf T o.job).length (ELk.css (locksOf T o.job)) ∧ Cells wr OW [1, 3] gx 0 [.int .i64 o.kind, .int .i64 o.job, .int .i64 o.res, .int .i64 o.n, .int .i64 o.need, .int .i64 o.v] ∧ Turn [1] w ow0 wr OW
/-- The middle of a round. -/
def uwMid (w : World) (g gx : Nat) (V : Value) (us C : List Int) (T : List Tk) (o : Op5) (x : Value) (wr : World) : Prop :=
  ∃ (OW : Ow), x = .bool (decide (lockE us T o.job o.res o.n o.need = 0)) ∧ UT wr OW [1, 1] g us C T ∧ Row wr OW [1, 9] 3 1 V us.length (EInt.css us) ∧ Cells wr OW [1, 3] gx 0 [.int .i64 o.kind, .int .i64 o.job, .int .i64 o.res, .int .i64 o.n, .int .i64 o.need, .int .i64 o.v] ∧ Turn [1] w ow0 wr OW

set_option maxRecDepth 100000 in
set_option maxHeartbeats 16000000 in
theorem whenL (w : World) (v : Value) (xs : List Int) (h : EInt.In w v xs) (vs : Value) (ops : List Op5) (hs : EOp.In w vs ops) : Calls Try.prog 6 #[v, vs] w fun e w' => e = .returned (.bool true) ∧ Below w.heap.size w w' := by
  obtain ⟨A, cap, rfl, hcap, hmax, hcov⟩ := h
  have Hcov := Lib.hid hcov
  have Hs := Lib.hid hs
  clear hcov hs
  go_enter Try.func6, Try.ntmps6
  go_upto_if 20 with fail
  go_cut [0] from 18 to 22 (fun s0 wx => wx = w ∧ s0 = .slice A (xs.take 16).length cap)
  case first =>
    by_cases h300 : (16 : Int) < (xs.length : Int)
    · have c100 : (16 : Int) ≤ (cap : Int) := by omega
      go_wp2_with fail
      go_meet
      exact ⟨rfl, by rw [List.length_take, Nat.min_eq_left (by omega)]⟩
    · go_wp2_with fail
      go_meet
      exact ⟨rfl, by rw [List.take_of_length_le (by omega)]⟩
  case rest =>
    obtain ⟨rfl, rfl⟩ := hcut
    have hlen : (xs.take 16).length ≤ 16 := by rw [List.length_take]; omega
    have hcov : EInt.Cov wc A (EInt.css (xs.take 16)) := by rw [EInt.css_take]; exact Hcov.out.take _
    generalize xs.take 16 = us at *
    have Hc := Lib.hid hcov
    clear Hcov hcap hmax hcov
    obtain ⟨w, rfl⟩ : ∃ w : World, w = wc := ⟨_, rfl⟩
    go_wp2_with (at_builtin; refine wpList_append_row rfl (.tmp 23) (.tmp 24) 38 38 rfl 3 _ 1 8 Try.underlying38 EInt.info rfl rfl (Row.new0 w ow0 [1, 9] 3 1) rfl ((Hc.out.new_ ((Below.refl _ _).alloc (Nat.le_refl _) _)).src Try.underlying38 cap) (by unfold maxLen; omega) (by omega) ?_)
    intro v1 w1 ow1 hl ht
    have t := (((Turn.refl [1, 9] w ow0).alloc (.cells #[] 3) [1, 9]).trans ht).up (p := [1]) (by simp)
    try simp only [Nat.zero_add, List.nil_append] at hl
    clear ht
    go_wp2_with fail
    refine (made w w1 ow1 [9] [1] t v1 us hl hlen (by simp) none 0 [] (nilCov w) (by simp)).mono ?_
    rintro e w2 ⟨g, wm, om, wn, on_, ow2, rfl, hT, hl2, t1, n1, t2⟩
    replace t := ((t.trans (t1.up (by simp))).trans (n1.turn [1])).trans (t2.up (by simp))
    replace hl2 := hl2
    simp only [runS] at hT
    rw [show us.length = (us.map cl).length from (List.length_map _).symm] at hl2
    generalize List.replicate us.length 0 = C0 at *
    clear hl t1 n1 t2 hlen Hc
    generalize us.map cl = us' at *
    have hl := hl2
    clear hl2
    obtain ⟨Al, cL, rfl, -⟩ := hl.slice
    go_wp2_with fail
    refine (EOp.fewB w w2 vs ops 200 Hs.out (by omega)).mono ?_
    rintro e w3 ⟨v3, rfl, hin, rfl⟩
    obtain ⟨B, capB, rfl, -, -, hcB⟩ := hin
    have HB := Lib.hid hcB
    clear hcB Hs
    have hyl : (ops.take 200).length ≤ 200 := by rw [List.length_take]; omega
    generalize ops.take 200 = ys at *
    have hus : us'.length ≤ 16 := by obtain ⟨rr, hi, -⟩ := hT; exact hi.ul
    go_wp2_with fail
    go_loopg [6] ys.length (fun gn i wr => uwRel w g (.slice Al us'.length cL) us' ys.length gn i wr)
    case atStart => exact ⟨0, ow2, _, _, rfl, Nat.zero_le _, rfl, hT, hl, t⟩
    case round =>
      clear hT hl t
      obtain ⟨k, OW, C, T, hgk, hk, rfl, hT, hl, t⟩ := hrel
      have Hgk := Lib.hid hgk
      clear hgk
      by_cases hlt : k < ys.length
      · obtain ⟨o, ho⟩ : ∃ o, ys[k]? = some o := ⟨_, List.getElem?_eq_getElem hlt⟩
        obtain ⟨b, off, rfl, c0, c1, c2, c3, c4, c5⟩ := (HB.out.new_ (t.new_ ow0 [1]).below).at k o ho
        have i0 : (k : Int) < (ys.length : Int) := by omega
        clear ho
        go_upto_region 12 with fail
        obtain ⟨ow11, ho, nn, -⟩ := SH.add_cells wr OW [1, 3] [.int .i64 o.kind, .int .i64 o.job, .int .i64 o.res, .int .i64 o.n, .int .i64 o.need, .int .i64 o.v] 43
        generalize wr.alloc (.cells #[.int .i64 o.kind, .int .i64 o.job, .int .i64 o.res, .int .i64 o.n, .int .i64 o.need, .int .i64 o.v] 43) = w11 at *
        generalize wr.heap.size = gx at *
        replace hT := hT.new_ nn
        replace hl := hl.new_ nn
        replace t := t.trans (nn.turn [1])
        clear nn
        clear c0 c1 c2 c3 c4 c5
        have o0 := ho.get 0 rfl
        have o1 := ho.get 1 rfl
        have o2 := ho.get 2 rfl
        have o3 := ho.get 3 rfl
        have o4 := ho.get 4 rfl
        have o5 := ho.get 5 rfl
        simp only [Nat.zero_add] at o0 o1 o2 o3 o4 o5
        go_cut [8] from 42 to 56 (fun b wx => wx = w11 ∧ b = .bool (inB us' o))
        case first => as_aux_lemma =>
          have hiff := inB_iff us' o
          have hno := inB_no us' o
          by_cases q1 : 0 ≤ o.job
          · by_cases q2 : 0 ≤ o.res
            · by_cases q3 : o.res < (us'.length : Int)
              · have Hv := Lib.hid (hiff.2 ⟨q1, q2, q3⟩)
                clear hiff hno
                go_wp2_with fail
                go_meet
                exact ⟨rfl, by rw [Hv.out]⟩
              · have Hv := Lib.hid (hno (fun h => q3 h.2.2))
                clear hiff hno
                go_wp2_with fail
                go_meet
                exact ⟨rfl, by rw [Hv.out]⟩
            · have Hv := Lib.hid (hno (fun h => q2 h.2.1))
              clear hiff hno
              go_wp2_with fail
              go_meet
              exact ⟨rfl, by rw [Hv.out]⟩
          · have Hv := Lib.hid (hno (fun h => q1 h.1))
            clear hiff hno
            go_wp2_with fail
            go_meet
            exact ⟨rfl, by rw [Hv.out]⟩
        case rest => as_aux_lemma =>
          obtain ⟨rfl, rfl⟩ := hcut
          obtain ⟨w20, rfl⟩ : ∃ w20 : World, w20 = wc := ⟨_, rfl⟩
          go_wp2_with fail
          refine (held w20 ow11 [1, 1] g us' C T hT o.job o.res).mono ?_
          rintro e w21 ⟨rfl, bb⟩
          have nn := bb.nw ow11
          replace hT := hT.new_ nn
          replace hl := hl.new_ nn
          replace ho := ho.new_ nn
          replace t := t.trans (nn.turn [1])
          clear nn
          clear bb
          clear o0 o1 o2 o3 o4 o5
          have o0 := ho.get 0 rfl
          have o1 := ho.get 1 rfl
          have o2 := ho.get 2 rfl
          have o3 := ho.get 3 rfl
          have o4 := ho.get 4 rfl
          have o5 := ho.get 5 rfl
          simp only [Nat.zero_add] at o0 o1 o2 o3 o4 o5
          go_wp2_with fail
          refine (free w21 ow11 [1, 1] g us' C T hT o.res).mono ?_
          rintro e w22 ⟨rfl, bb⟩
          have nn := bb.nw ow11
          replace hT := hT.new_ nn
          replace hl := hl.new_ nn
          replace ho := ho.new_ nn
          replace t := t.trans (nn.turn [1])
          clear nn
          clear bb
          clear o0 o1 o2 o3 o4 o5
          have o0 := ho.get 0 rfl
          have o1 := ho.get 1 rfl
          have o2 := ho.get 2 rfl
          have o3 := ho.get 3 rfl
          have o4 := ho.get 4 rfl
          have o5 := ho.get 5 rfl
          simp only [Nat.zero_add] at o0 o1 o2 o3 o4 o5
          go_wp2_with fail
          refine (locks w22 ow11 [1, 1] g us' C T [1, 4] hT o.job).mono ?_
          rintro e w23 ⟨v4, ow23, rfl, hw, nn, -⟩
          replace hT := hT.new_ nn
          replace hl := hl.new_ nn
          replace ho := ho.new_ nn
          replace t := t.trans (nn.turn [1])
          clear nn
          clear o0 o1 o2 o3 o4 o5
          obtain ⟨A4, c4, rfl, -⟩ := hw.slice
          have hqb : 0 ≤ heldQ us' T o.job o.res ∧ heldQ us' T o.job o.res ≤ 255 := by obtain ⟨rr, hi, -⟩ := hT; exact hi.heldQ_le _ _
          have hfb : 0 ≤ freeQ us' T o.res ∧ freeQ us' T o.res ≤ 255 := by obtain ⟨rr, hi, -⟩ := hT; exact hi.freeQ_le _
          have hlT : (locksOf T o.job).length ≤ 4080 := by obtain ⟨rr, hi, -⟩ := hT; exact Nat.le_trans (locks_len _ _) hi.len
          obtain ⟨hq, hhq⟩ : ∃ hq, heldQ us' T o.job o.res = hq := ⟨_, rfl⟩
          obtain ⟨fq, hfq⟩ : ∃ fq, freeQ us' T o.res = fq := ⟨_, rfl⟩
          rw [hhq] at hqb
          rw [hfq] at hfb
          rw [hhq, hfq]
          have Hhq := Lib.hid hhq
          have Hfq := Lib.hid hfq
          clear hhq hfq
          have o0 := ho.get 0 rfl
          simp only [Nat.zero_add] at o0
          by_cases k0 : o.kind = 0
          · have b0 : (o.kind == 0) = true := beq_iff_eq.2 k0
            go_upto_region 20 with fail
            clear o0 k0 b0
            go_cut [8, 13] from 80 to 110 (fun y x wx => y = .bool (inB us' o) ∧ uwMid w g gx (.slice Al us'.length cL) us' C T o x wx)
            case first => as_aux_lemma =>
              clear hw
              have hE := lockE_iff (U := us') (T := T) o.job o.res o.n o.need
              cases hin : inB us' o with
              | false =>
                have HE := Lib.hid (show Value.bool false = .bool (decide (lockE us' T o.job o.res o.n o.need = 0)) from congrArg Value.bool (decide_eq_false (fun h => by
                  obtain ⟨h1, h2, -⟩ := hE.1 h
                  obtain ⟨r, h3, h4, -⟩ := known_yes h2
                  have := (inB_iff us' o).2 ⟨h1, by omega, by omega⟩
                  rw [hin] at this
                  cases this)).symm)
                have Hin := Lib.hid hin
                clear hE hin
                as_aux_lemma =>
                  refine plain_regionN (fun W' : World => W'.cell? ⟨gx, 3, none⟩ = some (.int .i64 o.n) ∧ W'.cell? ⟨gx, 2, none⟩ = some (.int .i64 o.res) ∧ W'.cell? ⟨gx, 4, none⟩ = some (.int .i64 o.need)) [] (by kernel_rfl) ?_
                  have nn : New w23 ow23 w23.drew ow23 := (New.refl _ _).drew
                  replace hT := hT.new_ nn
                  replace hl := hl.new_ nn
                  replace ho := ho.new_ nn
                  replace t := t.trans (nn.turn [1])
                  clear nn
                  generalize w23.drew = w61 at *
                  have o2 := ho.get 2 rfl
                  have o3 := ho.get 3 rfl
                  have o4 := ho.get 4 rfl
                  simp only [Nat.zero_add] at o2 o3 o4
                  have hS : (fun W' : World => W'.cell? ⟨gx, 3, none⟩ = some (.int .i64 o.n) ∧ W'.cell? ⟨gx, 2, none⟩ = some (.int .i64 o.res) ∧ W'.cell? ⟨gx, 4, none⟩ = some (.int .i64 o.need)) w61 := ⟨o3, o2, o4⟩
                  refine anyX_takeNL 0 (v := ?_) rfl rfl (by as_aux_lemma => kernel_rfl) (by as_aux_lemma => kernel_rfl) (by as_aux_lemma => kernel_rfl) (by as_aux_lemma => kernel_rfl) (by as_aux_lemma => kernel_rfl) (fun _ _ _ h => h) rfl ?_ hS ?_
                  rotate_left
                  · intro W' hW'
                    obtain ⟨s0, s1, s2⟩ := hW'
                    all_goals (go_simp; first | done | rfl)
                  intro l' hl
                  dsimp only [List.set_cons_succ, List.set_cons_zero] at hl
                  subst hl
                  refine anyX_takeNL 1 (v := ?_) rfl rfl (by as_aux_lemma => kernel_rfl) (by as_aux_lemma => kernel_rfl) (by as_aux_lemma => kernel_rfl) (by as_aux_lemma => kernel_rfl) (by as_aux_lemma => kernel_rfl) (fun _ _ _ h => h) rfl ?_ hS ?_
                  rotate_left
                  · intro W' hW'
                    obtain ⟨s0, s1, s2⟩ := hW'
                    all_goals (go_simp; first | done | rfl)
                  intro l' hl
                  dsimp only [List.set_cons_succ, List.set_cons_zero] at hl
                  subst hl
                  refine anyX_takeUL 2 rfl rfl (by as_aux_lemma => kernel_rfl) (by as_aux_lemma => kernel_rfl) (by as_aux_lemma => kernel_rfl) (by as_aux_lemma => kernel_rfl) (by as_aux_lemma => kernel_rfl) (fun _ _ _ h => h) (by rfl) hS ?_
                  intro l' hl
                  dsimp only [List.set_cons_succ, List.set_cons_zero] at hl
                  subst hl
                  refine anyX_takeUL 3 rfl rfl (by as_aux_lemma => kernel_rfl) (by as_aux_lemma => kernel_rfl) (by as_aux_lemma => kernel_rfl) (by as_aux_lemma => kernel_rfl) (by as_aux_lemma => kernel_rfl) (fun _ _ _ h => h) (by rfl) hS ?_
                  intro l' hl
                  dsimp only [List.set_cons_succ, List.set_cons_zero] at hl
                  subst hl
                  refine anyX_takeUL 4 rfl rfl (by as_aux_lemma => kernel_rfl) (by as_aux_lemma => kernel_rfl) (by as_aux_lemma => kernel_rfl) (by as_aux_lemma => kernel_rfl) (by as_aux_lemma => kernel_rfl) (fun _ _ _ h => h) (by rfl) hS ?_
                  intro l' hl
                  dsimp only [List.set_cons_succ, List.set_cons_zero] at hl
                  subst hl
                  refine anyX_takeNL 5 (v := ?_) rfl rfl (by as_aux_lemma => kernel_rfl) (by as_aux_lemma => kernel_rfl) (by as_aux_lemma => kernel_rfl) (by as_aux_lemma => kernel_rfl) (by as_aux_lemma => kernel_rfl) (fun _ _ _ h => h) rfl ?_ hS ?_
                  rotate_left
                  · intro W' hW'
                    obtain ⟨s0, s1, s2⟩ := hW'
                    all_goals (go_simp; first | done | rfl)
                  intro l' hl
                  dsimp only [List.set_cons_succ, List.set_cons_zero] at hl
                  subst hl
                  refine anyX_takeNL 6 (v := ?_) rfl rfl (by as_aux_lemma => kernel_rfl) (by as_aux_lemma => kernel_rfl) (by as_aux_lemma => kernel_rfl) (by as_aux_lemma => kernel_rfl) (by as_aux_lemma => kernel_rfl) (fun _ _ _ h => h) rfl ?_ hS ?_
                  rotate_left
                  · intro W' hW'
                    obtain ⟨s0, s1, s2⟩ := hW'
                    all_goals (go_simp; first | done | rfl)
                  intro l' hl
                  dsimp only [List.set_cons_succ, List.set_cons_zero] at hl
                  subst hl
                  refine anyX_takeUL 7 rfl rfl (by as_aux_lemma => kernel_rfl) (by as_aux_lemma => kernel_rfl) (by as_aux_lemma => kernel_rfl) (by as_aux_lemma => kernel_rfl) (by as_aux_lemma => kernel_rfl) (fun _ _ _ h => h) (by rfl) hS ?_
                  intro l' hl
                  dsimp only [List.set_cons_succ, List.set_cons_zero] at hl
                  subst hl
                  refine anyX_takeUL 8 rfl rfl (by as_aux_lemma => kernel_rfl) (by as_aux_lemma => kernel_rfl) (by as_aux_lemma => kernel_rfl) (by as_aux_lemma => kernel_rfl) (by as_aux_lemma => kernel_rfl) (fun _ _ _ h => h) (by rfl) hS ?_
                  intro l' hl
                  dsimp only [List.set_cons_succ, List.set_cons_zero] at hl
                  subst hl
                  refine anyX_takeUL 9 rfl rfl (by as_aux_lemma => kernel_rfl) (by as_aux_lemma => kernel_rfl) (by as_aux_lemma => kernel_rfl) (by as_aux_lemma => kernel_rfl) (by as_aux_lemma => kernel_rfl) (fun _ _ _ h => h) (by rfl) hS ?_
                  intro l' hl
                  dsimp only [List.set_cons_succ, List.set_cons_zero] at hl
                  subst hl
                  refine anyX_takeUL 10 rfl rfl (by as_aux_lemma => kernel_rfl) (by as_aux_lemma => kernel_rfl) (by as_aux_lemma => kernel_rfl) (by as_aux_lemma => kernel_rfl) (by as_aux_lemma => kernel_rfl) (fun _ _ _ h => h) (by rfl) hS ?_
                  intro l' hl
                  dsimp only [List.set_cons_succ, List.set_cons_zero] at hl
                  subst hl
                  refine anyX_takeUL 11 rfl rfl (by as_aux_lemma => kernel_rfl) (by as_aux_lemma => kernel_rfl) (by as_aux_lemma => kernel_rfl) (by as_aux_lemma => kernel_rfl) (by as_aux_lemma => kernel_rfl) (fun _ _ _ h => h) (by rfl) hS ?_
                  intro l' hl
                  dsimp only [List.set_cons_succ, List.set_cons_zero] at hl
                  subst hl
                  refine anyX_takeUL 12 rfl rfl (by as_aux_lemma => kernel_rfl) (by as_aux_lemma => kernel_rfl) (by as_aux_lemma => kernel_rfl) (by as_aux_lemma => kernel_rfl) (by as_aux_lemma => kernel_rfl) (fun _ _ _ h => h) (by rfl) hS ?_
                  intro l' hl
                  dsimp only [List.set_cons_succ, List.set_cons_zero] at hl
                  subst hl
                  refine anyX_takeUL 13 rfl rfl (by as_aux_lemma => kernel_rfl) (by as_aux_lemma => kernel_rfl) (by as_aux_lemma => kernel_rfl) (by as_aux_lemma => kernel_rfl) (by as_aux_lemma => kernel_rfl) (fun _ _ _ h => h) (by rfl) hS ?_
                  intro l' hl
                  dsimp only [List.set_cons_succ, List.set_cons_zero] at hl
                  subst hl
                  refine anyX_takeUL 14 rfl rfl (by as_aux_lemma => kernel_rfl) (by as_aux_lemma => kernel_rfl) (by as_aux_lemma => kernel_rfl) (by as_aux_lemma => kernel_rfl) (by as_aux_lemma => kernel_rfl) (fun _ _ _ h => h) (by rfl) hS ?_
                  intro l' hl
                  dsimp only [List.set_cons_succ, List.set_cons_zero] at hl
                  subst hl
                  refine anyX_takeNL 15 (v := ?_) rfl rfl (by as_aux_lemma => kernel_rfl) (by as_aux_lemma => kernel_rfl) (by as_aux_lemma => kernel_rfl) (by as_aux_lemma => kernel_rfl) (by as_aux_lemma => kernel_rfl) (fun _ _ _ h => h) rfl ?_ hS ?_
                  rotate_left
                  · intro W' hW'
                    obtain ⟨s0, s1, s2⟩ := hW'
                    all_goals (go_simp; first | done | rfl)
                  intro l' hl
                  dsimp only [List.set_cons_succ, List.set_cons_zero] at hl
                  subst hl
                  refine anyX_takeNL 16 (v := ?_) rfl rfl (by as_aux_lemma => kernel_rfl) (by as_aux_lemma => kernel_rfl) (by as_aux_lemma => kernel_rfl) (by as_aux_lemma => kernel_rfl) (by as_aux_lemma => kernel_rfl) (fun _ _ _ h => h) rfl ?_ hS ?_
                  rotate_left
                  · intro W' hW'
                    obtain ⟨s0, s1, s2⟩ := hW'
                    all_goals (go_simp; first | done | rfl)
                  intro l' hl
                  dsimp only [List.set_cons_succ, List.set_cons_zero] at hl
                  subst hl
                  refine anyX_takeUL 17 rfl rfl (by as_aux_lemma => kernel_rfl) (by as_aux_lemma => kernel_rfl) (by as_aux_lemma => kernel_rfl) (by as_aux_lemma => kernel_rfl) (by as_aux_lemma => kernel_rfl) (fun _ _ _ h => h) (by rfl) hS ?_
                  intro l' hl
                  dsimp only [List.set_cons_succ, List.set_cons_zero] at hl
                  subst hl
                  refine anyX_takeUL 18 rfl rfl (by as_aux_lemma => kernel_rfl) (by as_aux_lemma => kernel_rfl) (by as_aux_lemma => kernel_rfl) (by as_aux_lemma => kernel_rfl) (by as_aux_lemma => kernel_rfl) (fun _ _ _ h => h) (by rfl) hS ?_
                  intro l' hl
                  dsimp only [List.set_cons_succ, List.set_cons_zero] at hl
                  subst hl
                  refine anyX_takeUL 19 rfl rfl (by as_aux_lemma => kernel_rfl) (by as_aux_lemma => kernel_rfl) (by as_aux_lemma => kernel_rfl) (by as_aux_lemma => kernel_rfl) (by as_aux_lemma => kernel_rfl) (fun _ _ _ h => h) (by rfl) hS ?_
                  intro l' hl
                  dsimp only [List.set_cons_succ, List.set_cons_zero] at hl
                  subst hl
                  refine anyX_takeUL 20 rfl rfl (by as_aux_lemma => kernel_rfl) (by as_aux_lemma => kernel_rfl) (by as_aux_lemma => kernel_rfl) (by as_aux_lemma => kernel_rfl) (by as_aux_lemma => kernel_rfl) (fun _ _ _ h => h) (by rfl) hS ?_
                  intro l' hl
                  dsimp only [List.set_cons_succ, List.set_cons_zero] at hl
                  subst hl
                  refine anyX_takeUL 21 rfl rfl (by as_aux_lemma => kernel_rfl) (by as_aux_lemma => kernel_rfl) (by as_aux_lemma => kernel_rfl) (by as_aux_lemma => kernel_rfl) (by as_aux_lemma => kernel_rfl) (fun _ _ _ h => h) (by rfl) hS ?_
                  intro l' hl
                  dsimp only [List.set_cons_succ, List.set_cons_zero] at hl
                  subst hl
                  refine anyX_takeUL 22 rfl rfl (by as_aux_lemma => kernel_rfl) (by as_aux_lemma => kernel_rfl) (by as_aux_lemma => kernel_rfl) (by as_aux_lemma => kernel_rfl) (by as_aux_lemma => kernel_rfl) (fun _ _ _ h => h) (by rfl) hS ?_
                  intro l' hl
                  dsimp only [List.set_cons_succ, List.set_cons_zero] at hl
                  subst hl
                  refine anyX_takeUL 23 rfl rfl (by as_aux_lemma => kernel_rfl) (by as_aux_lemma => kernel_rfl) (by as_aux_lemma => kernel_rfl) (by as_aux_lemma => kernel_rfl) (by as_aux_lemma => kernel_rfl) (fun _ _ _ h => h) (by rfl) hS ?_
                  intro l' hl
                  dsimp only [List.set_cons_succ, List.set_cons_zero] at hl
                  subst hl
                  refine anyX_takeNL 24 (v := ?_) rfl rfl (by as_aux_lemma => kernel_rfl) (by as_aux_lemma => kernel_rfl) (by as_aux_lemma => kernel_rfl) (by as_aux_lemma => kernel_rfl) (by as_aux_lemma => kernel_rfl) (fun _ _ _ h => h) rfl ?_ hS ?_
                  rotate_left
                  · intro W' hW'
                    obtain ⟨s0, s1, s2⟩ := hW'
                    all_goals (go_simp; first | done | rfl)
                  intro l' hl
                  dsimp only [List.set_cons_succ, List.set_cons_zero] at hl
                  subst hl
                  refine anyX_takeNL 25 (v := ?_) rfl rfl (by as_aux_lemma => kernel_rfl) (by as_aux_lemma => kernel_rfl) (by as_aux_lemma => kernel_rfl) (by as_aux_lemma => kernel_rfl) (by as_aux_lemma => kernel_rfl) (fun _ _ _ h => h) rfl ?_ hS ?_
                  rotate_left
                  · intro W' hW'
                    obtain ⟨s0, s1, s2⟩ := hW'
                    all_goals (go_simp; first | done | rfl)
                  intro l' hl
                  dsimp only [List.set_cons_succ, List.set_cons_zero] at hl
                  subst hl
                  refine anyX_takeUL 26 rfl rfl (by as_aux_lemma => kernel_rfl) (by as_aux_lemma => kernel_rfl) (by as_aux_lemma => kernel_rfl) (by as_aux_lemma => kernel_rfl) (by as_aux_lemma => kernel_rfl) (fun _ _ _ h => h) (by rfl) hS ?_
                  intro l' hl
                  dsimp only [List.set_cons_succ, List.set_cons_zero] at hl
                  subst hl
                  refine anyX_takeUL 27 rfl rfl (by as_aux_lemma => kernel_rfl) (by as_aux_lemma => kernel_rfl) (by as_aux_lemma => kernel_rfl) (by as_aux_lemma => kernel_rfl) (by as_aux_lemma => kernel_rfl) (fun _ _ _ h => h) (by rfl) hS ?_
                  intro l' hl
                  dsimp only [List.set_cons_succ, List.set_cons_zero] at hl
                  subst hl
                  refine anyX_takeUL 28 rfl rfl (by as_aux_lemma => kernel_rfl) (by as_aux_lemma => kernel_rfl) (by as_aux_lemma => kernel_rfl) (by as_aux_lemma => kernel_rfl) (by as_aux_lemma => kernel_rfl) (fun _ _ _ h => h) (by rfl) hS ?_
                  intro l' hl
                  dsimp only [List.set_cons_succ, List.set_cons_zero] at hl
                  subst hl
                  refine anyX_takeUL 29 rfl rfl (by as_aux_lemma => kernel_rfl) (by as_aux_lemma => kernel_rfl) (by as_aux_lemma => kernel_rfl) (by as_aux_lemma => kernel_rfl) (by as_aux_lemma => kernel_rfl) (fun _ _ _ h => h) (by rfl) hS ?_
                  intro l' hl
                  dsimp only [List.set_cons_succ, List.set_cons_zero] at hl
                  subst hl
                  refine anyX_takeNL 30 (v := ?_) rfl rfl (by as_aux_lemma => kernel_rfl) (by as_aux_lemma => kernel_rfl) (by as_aux_lemma => kernel_rfl) (by as_aux_lemma => kernel_rfl) (by as_aux_lemma => kernel_rfl) (fun _ _ _ h => h) rfl ?_ hS ?_
                  rotate_left
                  · intro W' hW'
                    obtain ⟨s0, s1, s2⟩ := hW'
                    all_goals (go_simp; first | done | rfl)
                  intro l' hl
                  dsimp only [List.set_cons_succ, List.set_cons_zero] at hl
                  subst hl
                  refine anyX_takeNL 31 (v := ?_) rfl rfl (by as_aux_lemma => kernel_rfl) (by as_aux_lemma => kernel_rfl) (by as_aux_lemma => kernel_rfl) (by as_aux_lemma => kernel_rfl) (by as_aux_lemma => kernel_rfl) (fun _ _ _ h => h) rfl ?_ hS ?_
                  rotate_left
                  · intro W' hW'
                    obtain ⟨s0, s1, s2⟩ := hW'
                    all_goals (go_simp; first | done | rfl)
                  intro l' hl
                  dsimp only [List.set_cons_succ, List.set_cons_zero] at hl
                  subst hl
                  refine anyX_done (by kernel_rfl) ?_ _
                  refine NoPanic.normal ?_
                  go_wp2_with fail
                  go_meet
                  exact ⟨congrArg Value.bool Hin.out.symm, ow23, HE.out, hT, hl, ho, t⟩
              | true =>
                obtain ⟨q0, ir0, ir1⟩ := (inB_iff us' o).1 hin
                have hkn : known us' o.res = true := decide_eq_true ⟨ir0, ir1⟩
                obtain ⟨u, hu⟩ : ∃ u, us'[o.res.toNat]? = some u := ⟨_, List.getElem?_eq_getElem (by omega)⟩
                have hub : 1 ≤ u ∧ u ≤ 255 := by obtain ⟨rr, hi, -⟩ := hT; exact hi.ub u (List.mem_of_getElem? hu)
                have huo : unitsOf us' o.res = u := by unfold unitsOf; rw [if_pos ir0, hu]; rfl
                have hh2 : heldT T o.job o.res = hq := by have h := Hhq.out; unfold heldQ at h; rw [if_pos hkn] at h; exact h
                have hf2 : freeT us' T o.res = fq := by have h := Hfq.out; unfold freeQ at h; rw [if_pos hkn] at h; exact h
                rw [huo, hh2, hf2] at hE
                have Hin := Lib.hid hin
                clear hin huo hh2 hf2
                have Hu := Lib.hid hu
                clear hu
                obtain ⟨bl, offl, capl, hvl, -⟩ := row_at hl rfl o.res.toNat u Hu.out
                simp only [Value.slice.injEq] at hvl
                obtain ⟨rfl, -, rfl⟩ := hvl
                by_cases d1 : 1 ≤ o.n
                · by_cases d2 : o.n ≤ u
                  · have wr3 : IntKind.i64.wrap (o.n + hq) = o.n + hq := by rw [IntKind.wrap_i64]; omega
                    by_cases d3 : o.n + hq ≤ o.need
                    · by_cases d4 : o.n ≤ fq
                      · have d4' : decide (o.n ≤ fq) = true := decide_eq_true d4
                        have HE := Lib.hid (show Value.bool true = .bool (decide (lockE us' T o.job o.res o.n o.need = 0)) from congrArg Value.bool (decide_eq_true (hE.2 ⟨q0, hkn, by omega, by omega, by omega, by omega⟩)).symm)
                        clear hE
                        as_aux_lemma =>
                          refine plain_regionN (fun W' : World => W'.cell? ⟨gx, 3, none⟩ = some (.int .i64 o.n) ∧ W'.cell? ⟨gx, 2, none⟩ = some (.int .i64 o.res) ∧ W'.cell? ⟨gx, 4, none⟩ = some (.int .i64 o.need) ∧ W'.cell? ⟨bl, offl + o.res.toNat, none⟩ = some (.int .i64 u)) [] (by kernel_rfl) ?_
                          have nn : New w23 ow23 w23.drew ow23 := (New.refl _ _).drew
                          replace hT := hT.new_ nn
                          replace hl := hl.new_ nn
                          replace ho := ho.new_ nn
                          replace t := t.trans (nn.turn [1])
                          clear nn
                          generalize w23.drew = w111 at *
                          have o2 := ho.get 2 rfl
                          have o3 := ho.get 3 rfl
                          have o4 := ho.get 4 rfl
                          simp only [Nat.zero_add] at o2 o3 o4
                          obtain ⟨b', off', cap', hv', -, e', -⟩ := row_at hl rfl o.res.toNat u Hu.out
                          simp only [Value.slice.injEq, Option.some.injEq, Addr.mk.injEq, and_true, true_and] at hv'
                          obtain ⟨⟨rfl, rfl⟩, -⟩ := hv'
                          have hS : (fun W' : World => W'.cell? ⟨gx, 3, none⟩ = some (.int .i64 o.n) ∧ W'.cell? ⟨gx, 2, none⟩ = some (.int .i64 o.res) ∧ W'.cell? ⟨gx, 4, none⟩ = some (.int .i64 o.need) ∧ W'.cell? ⟨bl, offl + o.res.toNat, none⟩ = some (.int .i64 u)) w111 := ⟨o3, o2, o4, e'⟩
                          refine anyX_takeNL 0 (v := ?_) rfl rfl (by as_aux_lemma => kernel_rfl) (by as_aux_lemma => kernel_rfl) (by as_aux_lemma => kernel_rfl) (by as_aux_lemma => kernel_rfl) (by as_aux_lemma => kernel_rfl) (fun _ _ _ h => h) rfl ?_ hS ?_
                          rotate_left
                          · intro W' hW'
                            obtain ⟨s0, s1, s2, s3⟩ := hW'
                            all_goals (go_simp; first | done | rfl)
                          intro l' hl
                          dsimp only [List.set_cons_succ, List.set_cons_zero] at hl
                          subst hl
                          refine anyX_takeNL 1 (v := ?_) rfl rfl (by as_aux_lemma => kernel_rfl) (by as_aux_lemma => kernel_rfl) (by as_aux_lemma => kernel_rfl) (by as_aux_lemma => kernel_rfl) (by as_aux_lemma => kernel_rfl) (fun _ _ _ h => h) rfl ?_ hS ?_
                          rotate_left
                          · intro W' hW'
                            obtain ⟨s0, s1, s2, s3⟩ := hW'
                            all_goals (go_simp; first | done | rfl)
                          intro l' hl
                          dsimp only [List.set_cons_succ, List.set_cons_zero] at hl
                          subst hl
                          refine anyX_takeWL 2 (v := ?_) rfl rfl (by as_aux_lemma => kernel_rfl) (by as_aux_lemma => kernel_rfl) (by as_aux_lemma => kernel_rfl) (by as_aux_lemma => kernel_rfl) (by as_aux_lemma => kernel_rfl) (fun _ _ _ h => h) (by rfl) ?_ hS ?_
                          rotate_left
                          · intro W' hW'
                            obtain ⟨s0, s1, s2, s3⟩ := hW'
                            all_goals (go_simp; first | done | rfl)
                          intro l' hl
                          dsimp only [List.set_cons_succ, List.set_cons_zero] at hl
                          subst hl
                          refine anyX_takeWL 3 (v := ?_) rfl rfl (by as_aux_lemma => kernel_rfl) (by as_aux_lemma => kernel_rfl) (by as_aux_lemma => kernel_rfl) (by as_aux_lemma => kernel_rfl) (by as_aux_lemma => kernel_rfl) (fun _ _ _ h => h) (by rfl) ?_ hS ?_
                          rotate_left
                          · intro W' hW'
                            obtain ⟨s0, s1, s2, s3⟩ := hW'
                            all_goals (go_simp; first | done | rfl)
                          intro l' hl
                          dsimp only [List.set_cons_succ, List.set_cons_zero] at hl
                          subst hl
                          refine anyX_takeWL 4 (v := ?_) rfl rfl (by as_aux_lemma => kernel_rfl) (by as_aux_lemma => kernel_rfl) (by as_aux_lemma => kernel_rfl) (by as_aux_lemma => kernel_rfl) (by as_aux_lemma => kernel_rfl) (fun _ _ _ h => h) (by rfl) ?_ hS ?_
                          rotate_left
                          · intro W' hW'
                            obtain ⟨s0, s1, s2, s3⟩ := hW'
                            all_goals (go_simp; first | done | rfl)
                          intro l' hl
                          dsimp only [List.set_cons_succ, List.set_cons_zero] at hl
                          subst hl
                          refine anyX_takeNL 5 (v := ?_) rfl rfl (by as_aux_lemma => kernel_rfl) (by as_aux_lemma => kernel_rfl) (by as_aux_lemma => kernel_rfl) (by as_aux_lemma => kernel_rfl) (by as_aux_lemma => kernel_rfl) (fun _ _ _ h => h) rfl ?_ hS ?_
                          rotate_left
                          · intro W' hW'
                            obtain ⟨s0, s1, s2, s3⟩ := hW'
                            all_goals (go_simp; first | done | rfl)
                          intro l' hl
                          dsimp only [List.set_cons_succ, List.set_cons_zero] at hl
                          subst hl
                          refine anyX_takeNL 6 (v := ?_) rfl rfl (by as_aux_lemma => kernel_rfl) (by as_aux_lemma => kernel_rfl) (by as_aux_lemma => kernel_rfl) (by as_aux_lemma => kernel_rfl) (by as_aux_lemma => kernel_rfl) (fun _ _ _ h => h) rfl ?_ hS ?_
                          rotate_left
                          · intro W' hW'
                            obtain ⟨s0, s1, s2, s3⟩ := hW'
                            all_goals (go_simp; first | done | rfl)
                          intro l' hl
                          dsimp only [List.set_cons_succ, List.set_cons_zero] at hl
                          subst hl
                          refine anyX_takeWL 7 (v := ?_) rfl rfl (by as_aux_lemma => kernel_rfl) (by as_aux_lemma => kernel_rfl) (by as_aux_lemma => kernel_rfl) (by as_aux_lemma => kernel_rfl) (by as_aux_lemma => kernel_rfl) (fun _ _ _ h => h) (by rfl) ?_ hS ?_
                          rotate_left
                          · intro W' hW'
                            obtain ⟨s0, s1, s2, s3⟩ := hW'
                            all_goals (go_simp; first | done | rfl)
                          intro l' hl
                          dsimp only [List.set_cons_succ, List.set_cons_zero] at hl
                          subst hl
                          refine anyX_takeWL 8 (v := ?_) rfl rfl (by as_aux_lemma => kernel_rfl) (by as_aux_lemma => kernel_rfl) (by as_aux_lemma => kernel_rfl) (by as_aux_lemma => kernel_rfl) (by as_aux_lemma => kernel_rfl) (fun _ _ _ h => h) (by rfl) ?_ hS ?_
                          rotate_left
                          · intro W' hW'
                            obtain ⟨s0, s1, s2, s3⟩ := hW'
                            all_goals (go_simp; first | done | rfl)
                          intro l' hl
                          dsimp only [List.set_cons_succ, List.set_cons_zero] at hl
                          subst hl
                          refine anyX_takeWL 9 (v := ?_) rfl rfl (by as_aux_lemma => kernel_rfl) (by as_aux_lemma => kernel_rfl) (by as_aux_lemma => kernel_rfl) (by as_aux_lemma => kernel_rfl) (by as_aux_lemma => kernel_rfl) (fun _ _ _ h => h) (by rfl) ?_ hS ?_
                          rotate_left
                          · intro W' hW'
                            obtain ⟨s0, s1, s2, s3⟩ := hW'
                            all_goals (go_simp; first | done | rfl)
                          intro l' hl
                          dsimp only [List.set_cons_succ, List.set_cons_zero] at hl
                          subst hl
                          refine anyX_takeWL 10 (v := ?_) rfl rfl (by as_aux_lemma => kernel_rfl) (by as_aux_lemma => kernel_rfl) (by as_aux_lemma => kernel_rfl) (by as_aux_lemma => kernel_rfl) (by as_aux_lemma => kernel_rfl) (fun _ _ _ h => h) (by rfl) ?_ hS ?_
                          rotate_left
                          · intro W' hW'
                            obtain ⟨s0, s1, s2, s3⟩ := hW'
                            all_goals (go_simp; first | done | rfl)
                          intro l' hl
                          dsimp only [List.set_cons_succ, List.set_cons_zero] at hl
                          subst hl
                          refine anyX_takeWL 11 (v := ?_) rfl rfl (by as_aux_lemma => kernel_rfl) (by as_aux_lemma => kernel_rfl) (by as_aux_lemma => kernel_rfl) (by as_aux_lemma => kernel_rfl) (by as_aux_lemma => kernel_rfl) (fun _ _ _ h => h) (by rfl) ?_ hS ?_
                          rotate_left
                          · intro W' hW'
                            obtain ⟨s0, s1, s2, s3⟩ := hW'
                            all_goals (go_simp; first | done | rfl)
                          intro l' hl
                          dsimp only [List.set_cons_succ, List.set_cons_zero] at hl
                          subst hl
                          refine anyX_takeWL 12 (v := ?_) rfl rfl (by as_aux_lemma => kernel_rfl) (by as_aux_lemma => kernel_rfl) (by as_aux_lemma => kernel_rfl) (by as_aux_lemma => kernel_rfl) (by as_aux_lemma => kernel_rfl) (fun _ _ _ h => h) (by rfl) ?_ hS ?_
                          rotate_left
                          · intro W' hW'
                            obtain ⟨s0, s1, s2, s3⟩ := hW'
                            all_goals (go_simp; first | done | rfl)
                          intro l' hl
                          dsimp only [List.set_cons_succ, List.set_cons_zero] at hl
                          subst hl
                          refine anyX_takeWL 13 (v := ?_) rfl rfl (by as_aux_lemma => kernel_rfl) (by as_aux_lemma => kernel_rfl) (by as_aux_lemma => kernel_rfl) (by as_aux_lemma => kernel_rfl) (by as_aux_lemma => kernel_rfl) (fun _ _ _ h => h) (by rfl) ?_ hS ?_
                          rotate_left
                          · intro W' hW'
                            obtain ⟨s0, s1, s2, s3⟩ := hW'
                            all_goals (go_simp; first | done | rfl)
                          intro l' hl
                          dsimp only [List.set_cons_succ, List.set_cons_zero] at hl
                          subst hl
                          refine anyX_takeWL 14 (v := ?_) rfl rfl (by as_aux_lemma => kernel_rfl) (by as_aux_lemma => kernel_rfl) (by as_aux_lemma => kernel_rfl) (by as_aux_lemma => kernel_rfl) (by as_aux_lemma => kernel_rfl) (fun _ _ _ h => h) (by rfl) ?_ hS ?_
                          rotate_left
                          · intro W' hW'
                            obtain ⟨s0, s1, s2, s3⟩ := hW'
                            all_goals (go_simp; first | done | rfl)
                          intro l' hl
                          dsimp only [List.set_cons_succ, List.set_cons_zero] at hl
                          subst hl
                          refine anyX_takeNL 15 (v := ?_) rfl rfl (by as_aux_lemma => kernel_rfl) (by as_aux_lemma => kernel_rfl) (by as_aux_lemma => kernel_rfl) (by as_aux_lemma => kernel_rfl) (by as_aux_lemma => kernel_rfl) (fun _ _ _ h => h) rfl ?_ hS ?_
                          rotate_left
                          · intro W' hW'
                            obtain ⟨s0, s1, s2, s3⟩ := hW'
                            all_goals (go_simp; first | done | rfl)
                          intro l' hl
                          dsimp only [List.set_cons_succ, List.set_cons_zero] at hl
                          subst hl
                          refine anyX_takeNL 16 (v := ?_) rfl rfl (by as_aux_lemma => kernel_rfl) (by as_aux_lemma => kernel_rfl) (by as_aux_lemma => kernel_rfl) (by as_aux_lemma => kernel_rfl) (by as_aux_lemma => kernel_rfl) (fun _ _ _ h => h) rfl ?_ hS ?_
                          rotate_left
                          · intro W' hW'
                            obtain ⟨s0, s1, s2, s3⟩ := hW'
                            all_goals (go_simp; first | done | rfl)
                          intro l' hl
                          dsimp only [List.set_cons_succ, List.set_cons_zero] at hl
                          subst hl
                          refine anyX_takeWL 17 (v := ?_) rfl rfl (by as_aux_lemma => kernel_rfl) (by as_aux_lemma => kernel_rfl) (by as_aux_lemma => kernel_rfl) (by as_aux_lemma => kernel_rfl) (by as_aux_lemma => kernel_rfl) (fun _ _ _ h => h) (by rfl) ?_ hS ?_
                          rotate_left
                          · intro W' hW'
                            obtain ⟨s0, s1, s2, s3⟩ := hW'
                            all_goals (go_simp; first | done | rfl)
                          intro l' hl
                          dsimp only [List.set_cons_succ, List.set_cons_zero] at hl
                          subst hl
                          refine anyX_takeWL 18 (v := ?_) rfl rfl (by as_aux_lemma => kernel_rfl) (by as_aux_lemma => kernel_rfl) (by as_aux_lemma => kernel_rfl) (by as_aux_lemma => kernel_rfl) (by as_aux_lemma => kernel_rfl) (fun _ _ _ h => h) (by rfl) ?_ hS ?_
                          rotate_left
                          · intro W' hW'
                            obtain ⟨s0, s1, s2, s3⟩ := hW'
                            all_goals (go_simp; first | done | rfl)
                          intro l' hl
                          dsimp only [List.set_cons_succ, List.set_cons_zero] at hl
                          subst hl
                          refine anyX_takeWL 19 (v := ?_) rfl rfl (by as_aux_lemma => kernel_rfl) (by as_aux_lemma => kernel_rfl) (by as_aux_lemma => kernel_rfl) (by as_aux_lemma => kernel_rfl) (by as_aux_lemma => kernel_rfl) (fun _ _ _ h => h) (by rfl) ?_ hS ?_
                          rotate_left
                          · intro W' hW'
                            obtain ⟨s0, s1, s2, s3⟩ := hW'
                            all_goals (go_simp; first | done | rfl)
                          intro l' hl
                          dsimp only [List.set_cons_succ, List.set_cons_zero] at hl
                          subst hl
                          refine anyX_takeWL 20 (v := ?_) rfl rfl (by as_aux_lemma => kernel_rfl) (by as_aux_lemma => kernel_rfl) (by as_aux_lemma => kernel_rfl) (by as_aux_lemma => kernel_rfl) (by as_aux_lemma => kernel_rfl) (fun _ _ _ h => h) (by rfl) ?_ hS ?_
                          rotate_left
                          · intro W' hW'
                            obtain ⟨s0, s1, s2, s3⟩ := hW'
                            all_goals (go_simp; first | done | rfl)
                          intro l' hl
                          dsimp only [List.set_cons_succ, List.set_cons_zero] at hl
                          subst hl
                          refine anyX_takeWL 21 (v := ?_) rfl rfl (by as_aux_lemma => kernel_rfl) (by as_aux_lemma => kernel_rfl) (by as_aux_lemma => kernel_rfl) (by as_aux_lemma => kernel_rfl) (by as_aux_lemma => kernel_rfl) (fun _ _ _ h => h) (by rfl) ?_ hS ?_
                          rotate_left
                          · intro W' hW'
                            obtain ⟨s0, s1, s2, s3⟩ := hW'
                            all_goals (go_simp; first | done | rfl)
                          intro l' hl
                          dsimp only [List.set_cons_succ, List.set_cons_zero] at hl
                          subst hl
                          refine anyX_takeWL 22 (v := ?_) rfl rfl (by as_aux_lemma => kernel_rfl) (by as_aux_lemma => kernel_rfl) (by as_aux_lemma => kernel_rfl) (by as_aux_lemma => kernel_rfl) (by as_aux_lemma => kernel_rfl) (fun _ _ _ h => h) (by rfl) ?_ hS ?_
                          rotate_left
                          · intro W' hW'
                            obtain ⟨s0, s1, s2, s3⟩ := hW'
                            all_goals (go_simp; first | done | rfl)
                          intro l' hl
                          dsimp only [List.set_cons_succ, List.set_cons_zero] at hl
                          subst hl
                          refine anyX_takeWL 23 (v := ?_) rfl rfl (by as_aux_lemma => kernel_rfl) (by as_aux_lemma => kernel_rfl) (by as_aux_lemma => kernel_rfl) (by as_aux_lemma => kernel_rfl) (by as_aux_lemma => kernel_rfl) (fun _ _ _ h => h) (by rfl) ?_ hS ?_
                          rotate_left
                          · intro W' hW'
                            obtain ⟨s0, s1, s2, s3⟩ := hW'
                            all_goals (go_simp; first | done | rfl)
                          intro l' hl
                          dsimp only [List.set_cons_succ, List.set_cons_zero] at hl
                          subst hl
                          refine anyX_takeNL 24 (v := ?_) rfl rfl (by as_aux_lemma => kernel_rfl) (by as_aux_lemma => kernel_rfl) (by as_aux_lemma => kernel_rfl) (by as_aux_lemma => kernel_rfl) (by as_aux_lemma => kernel_rfl) (fun _ _ _ h => h) rfl ?_ hS ?_
                          rotate_left
                          · intro W' hW'
                            obtain ⟨s0, s1, s2, s3⟩ := hW'
                            all_goals (go_simp; first | done | rfl)
                          intro l' hl
                          dsimp only [List.set_cons_succ, List.set_cons_zero] at hl
                          subst hl
                          refine anyX_takeNL 25 (v := ?_) rfl rfl (by as_aux_lemma => kernel_rfl) (by as_aux_lemma => kernel_rfl) (by as_aux_lemma => kernel_rfl) (by as_aux_lemma => kernel_rfl) (by as_aux_lemma => kernel_rfl) (fun _ _ _ h => h) rfl ?_ hS ?_
                          rotate_left
                          · intro W' hW'
                            obtain ⟨s0, s1, s2, s3⟩ := hW'
                            all_goals (go_simp; first | done | rfl)
                          intro l' hl
                          dsimp only [List.set_cons_succ, List.set_cons_zero] at hl
                          subst hl
                          refine anyX_takeWL 26 (v := ?_) rfl rfl (by as_aux_lemma => kernel_rfl) (by as_aux_lemma => kernel_rfl) (by as_aux_lemma => kernel_rfl) (by as_aux_lemma => kernel_rfl) (by as_aux_lemma => kernel_rfl) (fun _ _ _ h => h) (by rfl) ?_ hS ?_
                          rotate_left
                          · intro W' hW'
                            obtain ⟨s0, s1, s2, s3⟩ := hW'
                            all_goals (go_simp; first | done | rfl)
                          intro l' hl
                          dsimp only [List.set_cons_succ, List.set_cons_zero] at hl
                          subst hl
                          refine anyX_takeWL 27 (v := ?_) rfl rfl (by as_aux_lemma => kernel_rfl) (by as_aux_lemma => kernel_rfl) (by as_aux_lemma => kernel_rfl) (by as_aux_lemma => kernel_rfl) (by as_aux_lemma => kernel_rfl) (fun _ _ _ h => h) (by rfl) ?_ hS ?_
                          rotate_left
                          · intro W' hW'
                            obtain ⟨s0, s1, s2, s3⟩ := hW'
                            all_goals (go_simp; first | done | rfl)
                          intro l' hl
                          dsimp only [List.set_cons_succ, List.set_cons_zero] at hl
                          subst hl
                          refine anyX_takeWL 28 (v := ?_) rfl rfl (by as_aux_lemma => kernel_rfl) (by as_aux_lemma => kernel_rfl) (by as_aux_lemma => kernel_rfl) (by as_aux_lemma => kernel_rfl) (by as_aux_lemma => kernel_rfl) (fun _ _ _ h => h) (by rfl) ?_ hS ?_
                          rotate_left
                          · intro W' hW'
                            obtain ⟨s0, s1, s2, s3⟩ := hW'
                            all_goals (go_simp; first | done | rfl)
                          intro l' hl
                          dsimp only [List.set_cons_succ, List.set_cons_zero] at hl
                          subst hl
                          refine anyX_takeWL 29 (v := ?_) rfl rfl (by as_aux_lemma => kernel_rfl) (by as_aux_lemma => kernel_rfl) (by as_aux_lemma => kernel_rfl) (by as_aux_lemma => kernel_rfl) (by as_aux_lemma => kernel_rfl) (fun _ _ _ h => h) (by rfl) ?_ hS ?_
                          rotate_left
                          · intro W' hW'
                            obtain ⟨s0, s1, s2, s3⟩ := hW'
                            all_goals (go_simp; first | done | rfl)
                          intro l' hl
                          dsimp only [List.set_cons_succ, List.set_cons_zero] at hl
                          subst hl
                          refine anyX_takeNL 30 (v := ?_) rfl rfl (by as_aux_lemma => kernel_rfl) (by as_aux_lemma => kernel_rfl) (by as_aux_lemma => kernel_rfl) (by as_aux_lemma => kernel_rfl) (by as_aux_lemma => kernel_rfl) (fun _ _ _ h => h) rfl ?_ hS ?_
                          rotate_left
                          · intro W' hW'
                            obtain ⟨s0, s1, s2, s3⟩ := hW'
                            all_goals (go_simp; first | done | rfl)
                          intro l' hl
                          dsimp only [List.set_cons_succ, List.set_cons_zero] at hl
                          subst hl
                          refine anyX_takeNL 31 (v := ?_) rfl rfl (by as_aux_lemma => kernel_rfl) (by as_aux_lemma => kernel_rfl) (by as_aux_lemma => kernel_rfl) (by as_aux_lemma => kernel_rfl) (by as_aux_lemma => kernel_rfl) (fun _ _ _ h => h) rfl ?_ hS ?_
                          rotate_left
                          · intro W' hW'
                            obtain ⟨s0, s1, s2, s3⟩ := hW'
                            all_goals (go_simp; first | done | rfl)
                          intro l' hl
                          dsimp only [List.set_cons_succ, List.set_cons_zero] at hl
                          subst hl
                          refine anyX_done (by kernel_rfl) ?_ _
                          refine NoPanic.normal ?_
                          go_wp2_with fail
                          go_meet
                          exact ⟨congrArg Value.bool Hin.out.symm, ow23, HE.out, hT, hl, ho, t⟩
                      · have d4' : decide (o.n ≤ fq) = false := decide_eq_false d4
                        have HE := Lib.hid (show Value.bool false = .bool (decide (lockE us' T o.job o.res o.n o.need = 0)) from congrArg Value.bool (decide_eq_false (fun h => by have := hE.1 h; omega)).symm)
                        clear hE
                        as_aux_lemma =>
                          refine plain_regionN (fun W' : World => W'.cell? ⟨gx, 3, none⟩ = some (.int .i64 o.n) ∧ W'.cell? ⟨gx, 2, none⟩ = some (.int .i64 o.res) ∧ W'.cell? ⟨gx, 4, none⟩ = some (.int .i64 o.need) ∧ W'.cell? ⟨bl, offl + o.res.toNat, none⟩ = some (.int .i64 u)) [] (by kernel_rfl) ?_
                          have nn : New w23 ow23 w23.drew ow23 := (New.refl _ _).drew
                          replace hT := hT.new_ nn
                          replace hl := hl.new_ nn
                          replace ho := ho.new_ nn
                          replace t := t.trans (nn.turn [1])
                          clear nn
                          generalize w23.drew = w101 at *
                          have o2 := ho.get 2 rfl
                          have o3 := ho.get 3 rfl
                          have o4 := ho.get 4 rfl
                          simp only [Nat.zero_add] at o2 o3 o4
                          obtain ⟨b', off', cap', hv', -, e', -⟩ := row_at hl rfl o.res.toNat u Hu.out
                          simp only [Value.slice.injEq, Option.some.injEq, Addr.mk.injEq, and_true, true_and] at hv'
                          obtain ⟨⟨rfl, rfl⟩, -⟩ := hv'
                          have hS : (fun W' : World => W'.cell? ⟨gx, 3, none⟩ = some (.int .i64 o.n) ∧ W'.cell? ⟨gx, 2, none⟩ = some (.int .i64 o.res) ∧ W'.cell? ⟨gx, 4, none⟩ = some (.int .i64 o.need) ∧ W'.cell? ⟨bl, offl + o.res.toNat, none⟩ = some (.int .i64 u)) w101 := ⟨o3, o2, o4, e'⟩
                          refine anyX_takeNL 0 (v := ?_) rfl rfl (by as_aux_lemma => kernel_rfl) (by as_aux_lemma => kernel_rfl) (by as_aux_lemma => kernel_rfl) (by as_aux_lemma => kernel_rfl) (by as_aux_lemma => kernel_rfl) (fun _ _ _ h => h) rfl ?_ hS ?_
                          rotate_left
                          · intro W' hW'
                            obtain ⟨s0, s1, s2, s3⟩ := hW'
                            all_goals (go_simp; first | done | rfl)
                          intro l' hl
                          dsimp only [List.set_cons_succ, List.set_cons_zero] at hl
                          subst hl
                          refine anyX_takeNL 1 (v := ?_) rfl rfl (by as_aux_lemma => kernel_rfl) (by as_aux_lemma => kernel_rfl) (by as_aux_lemma => kernel_rfl) (by as_aux_lemma => kernel_rfl) (by as_aux_lemma => kernel_rfl) (fun _ _ _ h => h) rfl ?_ hS ?_
                          rotate_left
                          · intro W' hW'
                            obtain ⟨s0, s1, s2, s3⟩ := hW'
                            all_goals (go_simp; first | done | rfl)
                          intro l' hl
                          dsimp only [List.set_cons_succ, List.set_cons_zero] at hl
                          subst hl
                          refine anyX_takeWL 2 (v := ?_) rfl rfl (by as_aux_lemma => kernel_rfl) (by as_aux_lemma => kernel_rfl) (by as_aux_lemma => kernel_rfl) (by as_aux_lemma => kernel_rfl) (by as_aux_lemma => kernel_rfl) (fun _ _ _ h => h) (by rfl) ?_ hS ?_
                          rotate_left
                          · intro W' hW'
                            obtain ⟨s0, s1, s2, s3⟩ := hW'
                            all_goals (go_simp; first | done | rfl)
                          intro l' hl
                          dsimp only [List.set_cons_succ, List.set_cons_zero] at hl
                          subst hl
                          refine anyX_takeWL 3 (v := ?_) rfl rfl (by as_aux_lemma => kernel_rfl) (by as_aux_lemma => kernel_rfl) (by as_aux_lemma => kernel_rfl) (by as_aux_lemma => kernel_rfl) (by as_aux_lemma => kernel_rfl) (fun _ _ _ h => h) (by rfl) ?_ hS ?_
                          rotate_left
                          · intro W' hW'
                            obtain ⟨s0, s1, s2, s3⟩ := hW'
                            all_goals (go_simp; first | done | rfl)
                          intro l' hl
                          dsimp only [List.set_cons_succ, List.set_cons_zero] at hl
                          subst hl
                          refine anyX_takeWL 4 (v := ?_) rfl rfl (by as_aux_lemma => kernel_rfl) (by as_aux_lemma => kernel_rfl) (by as_aux_lemma => kernel_rfl) (by as_aux_lemma => kernel_rfl) (by as_aux_lemma => kernel_rfl) (fun _ _ _ h => h) (by rfl) ?_ hS ?_
                          rotate_left
                          · intro W' hW'
                            obtain ⟨s0, s1, s2, s3⟩ := hW'
                            all_goals (go_simp; first | done | rfl)
                          intro l' hl
                          dsimp only [List.set_cons_succ, List.set_cons_zero] at hl
                          subst hl
                          refine anyX_takeNL 5 (v := ?_) rfl rfl (by as_aux_lemma => kernel_rfl) (by as_aux_lemma => kernel_rfl) (by as_aux_lemma => kernel_rfl) (by as_aux_lemma => kernel_rfl) (by as_aux_lemma => kernel_rfl) (fun _ _ _ h => h) rfl ?_ hS ?_
                          rotate_left
                          · intro W' hW'
                            obtain ⟨s0, s1, s2, s3⟩ := hW'
                            all_goals (go_simp; first | done | rfl)
                          intro l' hl
                          dsimp only [List.set_cons_succ, List.set_cons_zero] at hl
                          subst hl
                          refine anyX_takeNL 6 (v := ?_) rfl rfl (by as_aux_lemma => kernel_rfl) (by as_aux_lemma => kernel_rfl) (by as_aux_lemma => kernel_rfl) (by as_aux_lemma => kernel_rfl) (by as_aux_lemma => kernel_rfl) (fun _ _ _ h => h) rfl ?_ hS ?_
                          rotate_left
                          · intro W' hW'
                            obtain ⟨s0, s1, s2, s3⟩ := hW'
                            all_goals (go_simp; first | done | rfl)
                          intro l' hl
                          dsimp only [List.set_cons_succ, List.set_cons_zero] at hl
                          subst hl
                          refine anyX_takeWL 7 (v := ?_) rfl rfl (by as_aux_lemma => kernel_rfl) (by as_aux_lemma => kernel_rfl) (by as_aux_lemma => kernel_rfl) (by as_aux_lemma => kernel_rfl) (by as_aux_lemma => kernel_rfl) (fun _ _ _ h => h) (by rfl) ?_ hS ?_
                          rotate_left
                          · intro W' hW'
                            obtain ⟨s0, s1, s2, s3⟩ := hW'
                            all_goals (go_simp; first | done | rfl)
                          intro l' hl
                          dsimp only [List.set_cons_succ, List.set_cons_zero] at hl
                          subst hl
                          refine anyX_takeWL 8 (v := ?_) rfl rfl (by as_aux_lemma => kernel_rfl) (by as_aux_lemma => kernel_rfl) (by as_aux_lemma => kernel_rfl) (by as_aux_lemma => kernel_rfl) (by as_aux_lemma => kernel_rfl) (fun _ _ _ h => h) (by rfl) ?_ hS ?_
                          rotate_left
                          · intro W' hW'
                            obtain ⟨s0, s1, s2, s3⟩ := hW'
                            all_goals (go_simp; first | done | rfl)
                          intro l' hl
                          dsimp only [List.set_cons_succ, List.set_cons_zero] at hl
                          subst hl
                          refine anyX_takeWL 9 (v := ?_) rfl rfl (by as_aux_lemma => kernel_rfl) (by as_aux_lemma => kernel_rfl) (by as_aux_lemma => kernel_rfl) (by as_aux_lemma => kernel_rfl) (by as_aux_lemma => kernel_rfl) (fun _ _ _ h => h) (by rfl) ?_ hS ?_
                          rotate_left
                          · intro W' hW'
                            obtain ⟨s0, s1, s2, s3⟩ := hW'
                            all_goals (go_simp; first | done | rfl)
                          intro l' hl
                          dsimp only [List.set_cons_succ, List.set_cons_zero] at hl
                          subst hl
                          refine anyX_takeWL 10 (v := ?_) rfl rfl (by as_aux_lemma => kernel_rfl) (by as_aux_lemma => kernel_rfl) (by as_aux_lemma => kernel_rfl) (by as_aux_lemma => kernel_rfl) (by as_aux_lemma => kernel_rfl) (fun _ _ _ h => h) (by rfl) ?_ hS ?_
                          rotate_left
                          · intro W' hW'
                            obtain ⟨s0, s1, s2, s3⟩ := hW'
                            all_goals (go_simp; first | done | rfl)
                          intro l' hl
                          dsimp only [List.set_cons_succ, List.set_cons_zero] at hl
                          subst hl
                          refine anyX_takeWL 11 (v := ?_) rfl rfl (by as_aux_lemma => kernel_rfl) (by as_aux_lemma => kernel_rfl) (by as_aux_lemma => kernel_rfl) (by as_aux_lemma => kernel_rfl) (by as_aux_lemma => kernel_rfl) (fun _ _ _ h => h) (by rfl) ?_ hS ?_
                          rotate_left
                          · intro W' hW'
                            obtain ⟨s0, s1, s2, s3⟩ := hW'
                            all_goals (go_simp; first | done | rfl)
                          intro l' hl
                          dsimp only [List.set_cons_succ, List.set_cons_zero] at hl
                          subst hl
                          refine anyX_takeWL 12 (v := ?_) rfl rfl (by as_aux_lemma => kernel_rfl) (by as_aux_lemma => kernel_rfl) (by as_aux_lemma => kernel_rfl) (by as_aux_lemma => kernel_rfl) (by as_aux_lemma => kernel_rfl) (fun _ _ _ h => h) (by rfl) ?_ hS ?_
                          rotate_left
                          · intro W' hW'
                            obtain ⟨s0, s1, s2, s3⟩ := hW'
                            all_goals (go_simp; first | done | rfl)
                          intro l' hl
                          dsimp only [List.set_cons_succ, List.set_cons_zero] at hl
                          subst hl
                          refine anyX_takeWL 13 (v := ?_) rfl rfl (by as_aux_lemma => kernel_rfl) (by as_aux_lemma => kernel_rfl) (by as_aux_lemma => kernel_rfl) (by as_aux_lemma => kernel_rfl) (by as_aux_lemma => kernel_rfl) (fun _ _ _ h => h) (by rfl) ?_ hS ?_
                          rotate_left
                          · intro W' hW'
                            obtain ⟨s0, s1, s2, s3⟩ := hW'
                            all_goals (go_simp; first | done | rfl)
                          intro l' hl
                          dsimp only [List.set_cons_succ, List.set_cons_zero] at hl
                          subst hl
                          refine anyX_takeWL 14 (v := ?_) rfl rfl (by as_aux_lemma => kernel_rfl) (by as_aux_lemma => kernel_rfl) (by as_aux_lemma => kernel_rfl) (by as_aux_lemma => kernel_rfl) (by as_aux_lemma => kernel_rfl) (fun _ _ _ h => h) (by rfl) ?_ hS ?_
                          rotate_left
                          · intro W' hW'
                            obtain ⟨s0, s1, s2, s3⟩ := hW'
                            all_goals (go_simp; first | done | rfl)
                          intro l' hl
                          dsimp only [List.set_cons_succ, List.set_cons_zero] at hl
                          subst hl
                          refine anyX_takeNL 15 (v := ?_) rfl rfl (by as_aux_lemma => kernel_rfl) (by as_aux_lemma => kernel_rfl) (by as_aux_lemma => kernel_rfl) (by as_aux_lemma => kernel_rfl) (by as_aux_lemma => kernel_rfl) (fun _ _ _ h => h) rfl ?_ hS ?_
                          rotate_left
                          · intro W' hW'
                            obtain ⟨s0, s1, s2, s3⟩ := hW'
                            all_goals (go_simp; first | done | rfl)
                          intro l' hl
                          dsimp only [List.set_cons_succ, List.set_cons_zero] at hl
                          subst hl
                          refine anyX_takeNL 16 (v := ?_) rfl rfl (by as_aux_lemma => kernel_rfl) (by as_aux_lemma => kernel_rfl) (by as_aux_lemma => kernel_rfl) (by as_aux_lemma => kernel_rfl) (by as_aux_lemma => kernel_rfl) (fun _ _ _ h => h) rfl ?_ hS ?_
                          rotate_left
                          · intro W' hW'
                            obtain ⟨s0, s1, s2, s3⟩ := hW'
                            all_goals (go_simp; first | done | rfl)
                          intro l' hl
                          dsimp only [List.set_cons_succ, List.set_cons_zero] at hl
                          subst hl
                          refine anyX_takeWL 17 (v := ?_) rfl rfl (by as_aux_lemma => kernel_rfl) (by as_aux_lemma => kernel_rfl) (by as_aux_lemma => kernel_rfl) (by as_aux_lemma => kernel_rfl) (by as_aux_lemma => kernel_rfl) (fun _ _ _ h => h) (by rfl) ?_ hS ?_
                          rotate_left
                          · intro W' hW'
                            obtain ⟨s0, s1, s2, s3⟩ := hW'
                            all_goals (go_simp; first | done | rfl)
                          intro l' hl
                          dsimp only [List.set_cons_succ, List.set_cons_zero] at hl
                          subst hl
                          refine anyX_takeWL 18 (v := ?_) rfl rfl (by as_aux_lemma => kernel_rfl) (by as_aux_lemma => kernel_rfl) (by as_aux_lemma => kernel_rfl) (by as_aux_lemma => kernel_rfl) (by as_aux_lemma => kernel_rfl) (fun _ _ _ h => h) (by rfl) ?_ hS ?_
                          rotate_left
                          · intro W' hW'
                            obtain ⟨s0, s1, s2, s3⟩ := hW'
                            all_goals (go_simp; first | done | rfl)
                          intro l' hl
                          dsimp only [List.set_cons_succ, List.set_cons_zero] at hl
                          subst hl
                          refine anyX_takeWL 19 (v := ?_) rfl rfl (by as_aux_lemma => kernel_rfl) (by as_aux_lemma => kernel_rfl) (by as_aux_lemma => kernel_rfl) (by as_aux_lemma => kernel_rfl) (by as_aux_lemma => kernel_rfl) (fun _ _ _ h => h) (by rfl) ?_ hS ?_
                          rotate_left
                          · intro W' hW'
                            obtain ⟨s0, s1, s2, s3⟩ := hW'
                            all_goals (go_simp; first | done | rfl)
                          intro l' hl
                          dsimp only [List.set_cons_succ, List.set_cons_zero] at hl
                          subst hl
                          refine anyX_takeWL 20 (v := ?_) rfl rfl (by as_aux_lemma => kernel_rfl) (by as_aux_lemma => kernel_rfl) (by as_aux_lemma => kernel_rfl) (by as_aux_lemma => kernel_rfl) (by as_aux_lemma => kernel_rfl) (fun _ _ _ h => h) (by rfl) ?_ hS ?_
                          rotate_left
                          · intro W' hW'
                            obtain ⟨s0, s1, s2, s3⟩ := hW'
                            all_goals (go_simp; first | done | rfl)
                          intro l' hl
                          dsimp only [List.set_cons_succ, List.set_cons_zero] at hl
                          subst hl
                          refine anyX_takeWL 21 (v := ?_) rfl rfl (by as_aux_lemma => kernel_rfl) (by as_aux_lemma => kernel_rfl) (by as_aux_lemma => kernel_rfl) (by as_aux_lemma => kernel_rfl) (by as_aux_lemma => kernel_rfl) (fun _ _ _ h => h) (by rfl) ?_ hS ?_
                          rotate_left
                          · intro W' hW'
                            obtain ⟨s0, s1, s2, s3⟩ := hW'
                            all_goals (go_simp; first | done | rfl)
                          intro l' hl
                          dsimp only [List.set_cons_succ, List.set_cons_zero] at hl
                          subst hl
                          refine anyX_takeWL 22 (v := ?_) rfl rfl (by as_aux_lemma => kernel_rfl) (by as_aux_lemma => kernel_rfl) (by as_aux_lemma => kernel_rfl) (by as_aux_lemma => kernel_rfl) (by as_aux_lemma => kernel_rfl) (fun _ _ _ h => h) (by rfl) ?_ hS ?_
                          rotate_left
                          · intro W' hW'
                            obtain ⟨s0, s1, s2, s3⟩ := hW'
                            all_goals (go_simp; first | done | rfl)
                          intro l' hl
                          dsimp only [List.set_cons_succ, List.set_cons_zero] at hl
                          subst hl
                          refine anyX_takeWL 23 (v := ?_) rfl rfl (by as_aux_lemma => kernel_rfl) (by as_aux_lemma => kernel_rfl) (by as_aux_lemma => kernel_rfl) (by as_aux_lemma => kernel_rfl) (by as_aux_lemma => kernel_rfl) (fun _ _ _ h => h) (by rfl) ?_ hS ?_
                          rotate_left
                          · intro W' hW'
                            obtain ⟨s0, s1, s2, s3⟩ := hW'
                            all_goals (go_simp; first | done | rfl)
                          intro l' hl
                          dsimp only [List.set_cons_succ, List.set_cons_zero] at hl
                          subst hl
                          refine anyX_takeNL 24 (v := ?_) rfl rfl (by as_aux_lemma => kernel_rfl) (by as_aux_lemma => kernel_rfl) (by as_aux_lemma => kernel_rfl) (by as_aux_lemma => kernel_rfl) (by as_aux_lemma => kernel_rfl) (fun _ _ _ h => h) rfl ?_ hS ?_
                          rotate_left
                          · intro W' hW'
                            obtain ⟨s0, s1, s2, s3⟩ := hW'
                            all_goals (go_simp; first | done | rfl)
                          intro l' hl
                          dsimp only [List.set_cons_succ, List.set_cons_zero] at hl
                          subst hl
                          refine anyX_takeNL 25 (v := ?_) rfl rfl (by as_aux_lemma => kernel_rfl) (by as_aux_lemma => kernel_rfl) (by as_aux_lemma => kernel_rfl) (by as_aux_lemma => kernel_rfl) (by as_aux_lemma => kernel_rfl) (fun _ _ _ h => h) rfl ?_ hS ?_
                          rotate_left
                          · intro W' hW'
                            obtain ⟨s0, s1, s2, s3⟩ := hW'
                            all_goals (go_simp; first | done | rfl)
                          intro l' hl
                          dsimp only [List.set_cons_succ, List.set_cons_zero] at hl
                          subst hl
                          refine anyX_takeWL 26 (v := ?_) rfl rfl (by as_aux_lemma => kernel_rfl) (by as_aux_lemma => kernel_rfl) (by as_aux_lemma => kernel_rfl) (by as_aux_lemma => kernel_rfl) (by as_aux_lemma => kernel_rfl) (fun _ _ _ h => h) (by rfl) ?_ hS ?_
                          rotate_left
                          · intro W' hW'
                            obtain ⟨s0, s1, s2, s3⟩ := hW'
                            all_goals (go_simp; first | done | rfl)
                          intro l' hl
                          dsimp only [List.set_cons_succ, List.set_cons_zero] at hl
                          subst hl
                          refine anyX_takeWL 27 (v := ?_) rfl rfl (by as_aux_lemma => kernel_rfl) (by as_aux_lemma => kernel_rfl) (by as_aux_lemma => kernel_rfl) (by as_aux_lemma => kernel_rfl) (by as_aux_lemma => kernel_rfl) (fun _ _ _ h => h) (by rfl) ?_ hS ?_
                          rotate_left
                          · intro W' hW'
                            obtain ⟨s0, s1, s2, s3⟩ := hW'
                            all_goals (go_simp; first | done | rfl)
                          intro l' hl
                          dsimp only [List.set_cons_succ, List.set_cons_zero] at hl
                          subst hl
                          refine anyX_takeWL 28 (v := ?_) rfl rfl (by as_aux_lemma => kernel_rfl) (by as_aux_lemma => kernel_rfl) (by as_aux_lemma => kernel_rfl) (by as_aux_lemma => kernel_rfl) (by as_aux_lemma => kernel_rfl) (fun _ _ _ h => h) (by rfl) ?_ hS ?_
                          rotate_left
                          · intro W' hW'
                            obtain ⟨s0, s1, s2, s3⟩ := hW'
                            all_goals (go_simp; first | done | rfl)
                          intro l' hl
                          dsimp only [List.set_cons_succ, List.set_cons_zero] at hl
                          subst hl
                          refine anyX_takeWL 29 (v := ?_) rfl rfl (by as_aux_lemma => kernel_rfl) (by as_aux_lemma => kernel_rfl) (by as_aux_lemma => kernel_rfl) (by as_aux_lemma => kernel_rfl) (by as_aux_lemma => kernel_rfl) (fun _ _ _ h => h) (by rfl) ?_ hS ?_
                          rotate_left
                          · intro W' hW'
                            obtain ⟨s0, s1, s2, s3⟩ := hW'
                            all_goals (go_simp; first | done | rfl)
                          intro l' hl
                          dsimp only [List.set_cons_succ, List.set_cons_zero] at hl
                          subst hl
                          refine anyX_takeNL 30 (v := ?_) rfl rfl (by as_aux_lemma => kernel_rfl) (by as_aux_lemma => kernel_rfl) (by as_aux_lemma => kernel_rfl) (by as_aux_lemma => kernel_rfl) (by as_aux_lemma => kernel_rfl) (fun _ _ _ h => h) rfl ?_ hS ?_
                          rotate_left
                          · intro W' hW'
                            obtain ⟨s0, s1, s2, s3⟩ := hW'
                            all_goals (go_simp; first | done | rfl)
                          intro l' hl
                          dsimp only [List.set_cons_succ, List.set_cons_zero] at hl
                          subst hl
                          refine anyX_takeNL 31 (v := ?_) rfl rfl (by as_aux_lemma => kernel_rfl) (by as_aux_lemma => kernel_rfl) (by as_aux_lemma => kernel_rfl) (by as_aux_lemma => kernel_rfl) (by as_aux_lemma => kernel_rfl) (fun _ _ _ h => h) rfl ?_ hS ?_
                          rotate_left
                          · intro W' hW'
                            obtain ⟨s0, s1, s2, s3⟩ := hW'
                            all_goals (go_simp; first | done | rfl)
                          intro l' hl
                          dsimp only [List.set_cons_succ, List.set_cons_zero] at hl
                          subst hl
                          refine anyX_done (by kernel_rfl) ?_ _
                          refine NoPanic.normal ?_
                          go_wp2_with fail
                          go_meet
                          exact ⟨congrArg Value.bool Hin.out.symm, ow23, HE.out, hT, hl, ho, t⟩
                    · have d3' : decide (o.n + hq ≤ o.need) = false := decide_eq_false d3
                      have HE := Lib.hid (show Value.bool false = .bool (decide (lockE us' T o.job o.res o.n o.need = 0)) from congrArg Value.bool (decide_eq_false (fun h => by have := hE.1 h; omega)).symm)
                      clear hE
                      as_aux_lemma =>
                        refine plain_regionN (fun W' : World => W'.cell? ⟨gx, 3, none⟩ = some (.int .i64 o.n) ∧ W'.cell? ⟨gx, 2, none⟩ = some (.int .i64 o.res) ∧ W'.cell? ⟨gx, 4, none⟩ = some (.int .i64 o.need) ∧ W'.cell? ⟨bl, offl + o.res.toNat, none⟩ = some (.int .i64 u)) [] (by kernel_rfl) ?_
                        have nn : New w23 ow23 w23.drew ow23 := (New.refl _ _).drew
                        replace hT := hT.new_ nn
                        replace hl := hl.new_ nn
                        replace ho := ho.new_ nn
                        replace t := t.trans (nn.turn [1])
                        clear nn
                        generalize w23.drew = w91 at *
                        have o2 := ho.get 2 rfl
                        have o3 := ho.get 3 rfl
                        have o4 := ho.get 4 rfl
                        simp only [Nat.zero_add] at o2 o3 o4
                        obtain ⟨b', off', cap', hv', -, e', -⟩ := row_at hl rfl o.res.toNat u Hu.out
                        simp only [Value.slice.injEq, Option.some.injEq, Addr.mk.injEq, and_true, true_and] at hv'
                        obtain ⟨⟨rfl, rfl⟩, -⟩ := hv'
                        have hS : (fun W' : World => W'.cell? ⟨gx, 3, none⟩ = some (.int .i64 o.n) ∧ W'.cell? ⟨gx, 2, none⟩ = some (.int .i64 o.res) ∧ W'.cell? ⟨gx, 4, none⟩ = some (.int .i64 o.need) ∧ W'.cell? ⟨bl, offl + o.res.toNat, none⟩ = some (.int .i64 u)) w91 := ⟨o3, o2, o4, e'⟩
                        refine anyX_takeNL 0 (v := ?_) rfl rfl (by as_aux_lemma => kernel_rfl) (by as_aux_lemma => kernel_rfl) (by as_aux_lemma => kernel_rfl) (by as_aux_lemma => kernel_rfl) (by as_aux_lemma => kernel_rfl) (fun _ _ _ h => h) rfl ?_ hS ?_
                        rotate_left
                        · intro W' hW'
                          obtain ⟨s0, s1, s2, s3⟩ := hW'
                          all_goals (go_simp; first | done | rfl)
                        intro l' hl
                        dsimp only [List.set_cons_succ, List.set_cons_zero] at hl
                        subst hl
                        refine anyX_takeNL 1 (v := ?_) rfl rfl (by as_aux_lemma => kernel_rfl) (by as_aux_lemma => kernel_rfl) (by as_aux_lemma => kernel_rfl) (by as_aux_lemma => kernel_rfl) (by as_aux_lemma => kernel_rfl) (fun _ _ _ h => h) rfl ?_ hS ?_
                        rotate_left
                        · intro W' hW'
                          obtain ⟨s0, s1, s2, s3⟩ := hW'
                          all_goals (go_simp; first | done | rfl)
                        intro l' hl
                        dsimp only [List.set_cons_succ, List.set_cons_zero] at hl
                        subst hl
                        refine anyX_takeWL 2 (v := ?_) rfl rfl (by as_aux_lemma => kernel_rfl) (by as_aux_lemma => kernel_rfl) (by as_aux_lemma => kernel_rfl) (by as_aux_lemma => kernel_rfl) (by as_aux_lemma => kernel_rfl) (fun _ _ _ h => h) (by rfl) ?_ hS ?_
                        rotate_left
                        · intro W' hW'
                          obtain ⟨s0, s1, s2, s3⟩ := hW'
                          all_goals (go_simp; first | done | rfl)
                        intro l' hl
                        dsimp only [List.set_cons_succ, List.set_cons_zero] at hl
                        subst hl
                        refine anyX_takeWL 3 (v := ?_) rfl rfl (by as_aux_lemma => kernel_rfl) (by as_aux_lemma => kernel_rfl) (by as_aux_lemma => kernel_rfl) (by as_aux_lemma => kernel_rfl) (by as_aux_lemma => kernel_rfl) (fun _ _ _ h => h) (by rfl) ?_ hS ?_
                        rotate_left
                        · intro W' hW'
                          obtain ⟨s0, s1, s2, s3⟩ := hW'
                          all_goals (go_simp; first | done | rfl)
                        intro l' hl
                        dsimp only [List.set_cons_succ, List.set_cons_zero] at hl
                        subst hl
                        refine anyX_takeWL 4 (v := ?_) rfl rfl (by as_aux_lemma => kernel_rfl) (by as_aux_lemma => kernel_rfl) (by as_aux_lemma => kernel_rfl) (by as_aux_lemma => kernel_rfl) (by as_aux_lemma => kernel_rfl) (fun _ _ _ h => h) (by rfl) ?_ hS ?_
                        rotate_left
                        · intro W' hW'
                          obtain ⟨s0, s1, s2, s3⟩ := hW'
                          all_goals (go_simp; first | done | rfl)
                        intro l' hl
                        dsimp only [List.set_cons_succ, List.set_cons_zero] at hl
                        subst hl
                        refine anyX_takeNL 5 (v := ?_) rfl rfl (by as_aux_lemma => kernel_rfl) (by as_aux_lemma => kernel_rfl) (by as_aux_lemma => kernel_rfl) (by as_aux_lemma => kernel_rfl) (by as_aux_lemma => kernel_rfl) (fun _ _ _ h => h) rfl ?_ hS ?_
                        rotate_left
                        · intro W' hW'
                          obtain ⟨s0, s1, s2, s3⟩ := hW'
                          all_goals (go_simp; first | done | rfl)
                        intro l' hl
                        dsimp only [List.set_cons_succ, List.set_cons_zero] at hl
                        subst hl
                        refine anyX_takeNL 6 (v := ?_) rfl rfl (by as_aux_lemma => kernel_rfl) (by as_aux_lemma => kernel_rfl) (by as_aux_lemma => kernel_rfl) (by as_aux_lemma => kernel_rfl) (by as_aux_lemma => kernel_rfl) (fun _ _ _ h => h) rfl ?_ hS ?_
                        rotate_left
                        · intro W' hW'
                          obtain ⟨s0, s1, s2, s3⟩ := hW'
                          all_goals (go_simp; first | done | rfl)
                        intro l' hl
                        dsimp only [List.set_cons_succ, List.set_cons_zero] at hl
                        subst hl
                        refine anyX_takeWL 7 (v := ?_) rfl rfl (by as_aux_lemma => kernel_rfl) (by as_aux_lemma => kernel_rfl) (by as_aux_lemma => kernel_rfl) (by as_aux_lemma => kernel_rfl) (by as_aux_lemma => kernel_rfl) (fun _ _ _ h => h) (by rfl) ?_ hS ?_
                        rotate_left
                        · intro W' hW'
                          obtain ⟨s0, s1, s2, s3⟩ := hW'
                          all_goals (go_simp; first | done | rfl)
                        intro l' hl
                        dsimp only [List.set_cons_succ, List.set_cons_zero] at hl
                        subst hl
                        refine anyX_takeWL 8 (v := ?_) rfl rfl (by as_aux_lemma => kernel_rfl) (by as_aux_lemma => kernel_rfl) (by as_aux_lemma => kernel_rfl) (by as_aux_lemma => kernel_rfl) (by as_aux_lemma => kernel_rfl) (fun _ _ _ h => h) (by rfl) ?_ hS ?_
                        rotate_left
                        · intro W' hW'
                          obtain ⟨s0, s1, s2, s3⟩ := hW'
                          all_goals (go_simp; first | done | rfl)
                        intro l' hl
                        dsimp only [List.set_cons_succ, List.set_cons_zero] at hl
                        subst hl
                        refine anyX_takeWL 9 (v := ?_) rfl rfl (by as_aux_lemma => kernel_rfl) (by as_aux_lemma => kernel_rfl) (by as_aux_lemma => kernel_rfl) (by as_aux_lemma => kernel_rfl) (by as_aux_lemma => kernel_rfl) (fun _ _ _ h => h) (by rfl) ?_ hS ?_
                        rotate_left
                        · intro W' hW'
                          obtain ⟨s0, s1, s2, s3⟩ := hW'
                          all_goals (go_simp; first | done | rfl)
                        intro l' hl
                        dsimp only [List.set_cons_succ, List.set_cons_zero] at hl
                        subst hl
                        refine anyX_takeWL 10 (v := ?_) rfl rfl (by as_aux_lemma => kernel_rfl) (by as_aux_lemma => kernel_rfl) (by as_aux_lemma => kernel_rfl) (by as_aux_lemma => kernel_rfl) (by as_aux_lemma => kernel_rfl) (fun _ _ _ h => h) (by rfl) ?_ hS ?_
                        rotate_left
                        · intro W' hW'
                          obtain ⟨s0, s1, s2, s3⟩ := hW'
                          all_goals (go_simp; first | done | rfl)
                        intro l' hl
                        dsimp only [List.set_cons_succ, List.set_cons_zero] at hl
                        subst hl
                        refine anyX_takeWL 11 (v := ?_) rfl rfl (by as_aux_lemma => kernel_rfl) (by as_aux_lemma => kernel_rfl) (by as_aux_lemma => kernel_rfl) (by as_aux_lemma => kernel_rfl) (by as_aux_lemma => kernel_rfl) (fun _ _ _ h => h) (by rfl) ?_ hS ?_
                        rotate_left
                        · intro W' hW'
                          obtain ⟨s0, s1, s2, s3⟩ := hW'
                          all_goals (go_simp; first | done | rfl)
                        intro l' hl
                        dsimp only [List.set_cons_succ, List.set_cons_zero] at hl
                        subst hl
                        refine anyX_takeWL 12 (v := ?_) rfl rfl (by as_aux_lemma => kernel_rfl) (by as_aux_lemma => kernel_rfl) (by as_aux_lemma => kernel_rfl) (by as_aux_lemma => kernel_rfl) (by as_aux_lemma => kernel_rfl) (fun _ _ _ h => h) (by rfl) ?_ hS ?_
                        rotate_left
                        · intro W' hW'
                          obtain ⟨s0, s1, s2, s3⟩ := hW'
                          all_goals (go_simp; first | done | rfl)
                        intro l' hl
                        dsimp only [List.set_cons_succ, List.set_cons_zero] at hl
                        subst hl
                        refine anyX_takeWL 13 (v := ?_) rfl rfl (by as_aux_lemma => kernel_rfl) (by as_aux_lemma => kernel_rfl) (by as_aux_lemma => kernel_rfl) (by as_aux_lemma => kernel_rfl) (by as_aux_lemma => kernel_rfl) (fun _ _ _ h => h) (by rfl) ?_ hS ?_
                        rotate_left
                        · intro W' hW'
                          obtain ⟨s0, s1, s2, s3⟩ := hW'
                          all_goals (go_simp; first | done | rfl)
                        intro l' hl
                        dsimp only [List.set_cons_succ, List.set_cons_zero] at hl
                        subst hl
                        refine anyX_takeWL 14 (v := ?_) rfl rfl (by as_aux_lemma => kernel_rfl) (by as_aux_lemma => kernel_rfl) (by as_aux_lemma => kernel_rfl) (by as_aux_lemma => kernel_rfl) (by as_aux_lemma => kernel_rfl) (fun _ _ _ h => h) (by rfl) ?_ hS ?_
                        rotate_left
                        · intro W' hW'
                          obtain ⟨s0, s1, s2, s3⟩ := hW'
                          all_goals (go_simp; first | done | rfl)
                        intro l' hl
                        dsimp only [List.set_cons_succ, List.set_cons_zero] at hl
                        subst hl
                        refine anyX_takeNL 15 (v := ?_) rfl rfl (by as_aux_lemma => kernel_rfl) (by as_aux_lemma => kernel_rfl) (by as_aux_lemma => kernel_rfl) (by as_aux_lemma => kernel_rfl) (by as_aux_lemma => kernel_rfl) (fun _ _ _ h => h) rfl ?_ hS ?_
                        rotate_left
                        · intro W' hW'
                          obtain ⟨s0, s1, s2, s3⟩ := hW'
                          all_goals (go_simp; first | done | rfl)
                        intro l' hl
                        dsimp only [List.set_cons_succ, List.set_cons_zero] at hl
                        subst hl
                        refine anyX_takeNL 16 (v := ?_) rfl rfl (by as_aux_lemma => kernel_rfl) (by as_aux_lemma => kernel_rfl) (by as_aux_lemma => kernel_rfl) (by as_aux_lemma => kernel_rfl) (by as_aux_lemma => kernel_rfl) (fun _ _ _ h => h) rfl ?_ hS ?_
                        rotate_left
                        · intro W' hW'
                          obtain ⟨s0, s1, s2, s3⟩ := hW'
                          all_goals (go_simp; first | done | rfl)
                        intro l' hl
                        dsimp only [List.set_cons_succ, List.set_cons_zero] at hl
                        subst hl
                        refine anyX_takeWL 17 (v := ?_) rfl rfl (by as_aux_lemma => kernel_rfl) (by as_aux_lemma => kernel_rfl) (by as_aux_lemma => kernel_rfl) (by as_aux_lemma => kernel_rfl) (by as_aux_lemma => kernel_rfl) (fun _ _ _ h => h) (by rfl) ?_ hS ?_
                        rotate_left
                        · intro W' hW'
                          obtain ⟨s0, s1, s2, s3⟩ := hW'
                          all_goals (go_simp; first | done | rfl)
                        intro l' hl
                        dsimp only [List.set_cons_succ, List.set_cons_zero] at hl
                        subst hl
                        refine anyX_takeWL 18 (v := ?_) rfl rfl (by as_aux_lemma => kernel_rfl) (by as_aux_lemma => kernel_rfl) (by as_aux_lemma => kernel_rfl) (by as_aux_lemma => kernel_rfl) (by as_aux_lemma => kernel_rfl) (fun _ _ _ h => h) (by rfl) ?_ hS ?_
                        rotate_left
                        · intro W' hW'
                          obtain ⟨s0, s1, s2, s3⟩ := hW'
                          all_goals (go_simp; first | done | rfl)
                        intro l' hl
                        dsimp only [List.set_cons_succ, List.set_cons_zero] at hl
                        subst hl
                        refine anyX_takeWL 19 (v := ?_) rfl rfl (by as_aux_lemma => kernel_rfl) (by as_aux_lemma => kernel_rfl) (by as_aux_lemma => kernel_rfl) (by as_aux_lemma => kernel_rfl) (by as_aux_lemma => kernel_rfl) (fun _ _ _ h => h) (by rfl) ?_ hS ?_
                        rotate_left
                        · intro W' hW'
                          obtain ⟨s0, s1, s2, s3⟩ := hW'
                          all_goals (go_simp; first | done | rfl)
                        intro l' hl
                        dsimp only [List.set_cons_succ, List.set_cons_zero] at hl
                        subst hl
                        refine anyX_takeWL 20 (v := ?_) rfl rfl (by as_aux_lemma => kernel_rfl) (by as_aux_lemma => kernel_rfl) (by as_aux_lemma => kernel_rfl) (by as_aux_lemma => kernel_rfl) (by as_aux_lemma => kernel_rfl) (fun _ _ _ h => h) (by rfl) ?_ hS ?_
                        rotate_left
                        · intro W' hW'
                          obtain ⟨s0, s1, s2, s3⟩ := hW'
                          all_goals (go_simp; first | done | rfl)
                        intro l' hl
                        dsimp only [List.set_cons_succ, List.set_cons_zero] at hl
                        subst hl
                        refine anyX_takeWL 21 (v := ?_) rfl rfl (by as_aux_lemma => kernel_rfl) (by as_aux_lemma => kernel_rfl) (by as_aux_lemma => kernel_rfl) (by as_aux_lemma => kernel_rfl) (by as_aux_lemma => kernel_rfl) (fun _ _ _ h => h) (by rfl) ?_ hS ?_
                        rotate_left
                        · intro W' hW'
                          obtain ⟨s0, s1, s2, s3⟩ := hW'
                          all_goals (go_simp; first | done | rfl)
                        intro l' hl
                        dsimp only [List.set_cons_succ, List.set_cons_zero] at hl
                        subst hl
                        refine anyX_takeWL 22 (v := ?_) rfl rfl (by as_aux_lemma => kernel_rfl) (by as_aux_lemma => kernel_rfl) (by as_aux_lemma => kernel_rfl) (by as_aux_lemma => kernel_rfl) (by as_aux_lemma => kernel_rfl) (fun _ _ _ h => h) (by rfl) ?_ hS ?_
                        rotate_left
                        · intro W' hW'
                          obtain ⟨s0, s1, s2, s3⟩ := hW'
                          all_goals (go_simp; first | done | rfl)
                        intro l' hl
                        dsimp only [List.set_cons_succ, List.set_cons_zero] at hl
                        subst hl
                        refine anyX_takeWL 23 (v := ?_) rfl rfl (by as_aux_lemma => kernel_rfl) (by as_aux_lemma => kernel_rfl) (by as_aux_lemma => kernel_rfl) (by as_aux_lemma => kernel_rfl) (by as_aux_lemma => kernel_rfl) (fun _ _ _ h => h) (by rfl) ?_ hS ?_
                        rotate_left
                        · intro W' hW'
                          obtain ⟨s0, s1, s2, s3⟩ := hW'
                          all_goals (go_simp; first | done | rfl)
                        intro l' hl
                        dsimp only [List.set_cons_succ, List.set_cons_zero] at hl
                        subst hl
                        refine anyX_takeNL 24 (v := ?_) rfl rfl (by as_aux_lemma => kernel_rfl) (by as_aux_lemma => kernel_rfl) (by as_aux_lemma => kernel_rfl) (by as_aux_lemma => kernel_rfl) (by as_aux_lemma => kernel_rfl) (fun _ _ _ h => h) rfl ?_ hS ?_
                        rotate_left
                        · intro W' hW'
                          obtain ⟨s0, s1, s2, s3⟩ := hW'
                          all_goals (go_simp; first | done | rfl)
                        intro l' hl
                        dsimp only [List.set_cons_succ, List.set_cons_zero] at hl
                        subst hl
                        refine anyX_takeNL 25 (v := ?_) rfl rfl (by as_aux_lemma => kernel_rfl) (by as_aux_lemma => kernel_rfl) (by as_aux_lemma => kernel_rfl) (by as_aux_lemma => kernel_rfl) (by as_aux_lemma => kernel_rfl) (fun _ _ _ h => h) rfl ?_ hS ?_
                        rotate_left
                        · intro W' hW'
                          obtain ⟨s0, s1, s2, s3⟩ := hW'
                          all_goals (go_simp; first | done | rfl)
                        intro l' hl
                        dsimp only [List.set_cons_succ, List.set_cons_zero] at hl
                        subst hl
                        refine anyX_takeUL 26 rfl rfl (by as_aux_lemma => kernel_rfl) (by as_aux_lemma => kernel_rfl) (by as_aux_lemma => kernel_rfl) (by as_aux_lemma => kernel_rfl) (by as_aux_lemma => kernel_rfl) (fun _ _ _ h => h) (by rfl) hS ?_
                        intro l' hl
                        dsimp only [List.set_cons_succ, List.set_cons_zero] at hl
                        subst hl
                        refine anyX_takeUL 27 rfl rfl (by as_aux_lemma => kernel_rfl) (by as_aux_lemma => kernel_rfl) (by as_aux_lemma => kernel_rfl) (by as_aux_lemma => kernel_rfl) (by as_aux_lemma => kernel_rfl) (fun _ _ _ h => h) (by rfl) hS ?_
                        intro l' hl
                        dsimp only [List.set_cons_succ, List.set_cons_zero] at hl
                        subst hl
                        refine anyX_takeUL 28 rfl rfl (by as_aux_lemma => kernel_rfl) (by as_aux_lemma => kernel_rfl) (by as_aux_lemma => kernel_rfl) (by as_aux_lemma => kernel_rfl) (by as_aux_lemma => kernel_rfl) (fun _ _ _ h => h) (by rfl) hS ?_
                        intro l' hl
                        dsimp only [List.set_cons_succ, List.set_cons_zero] at hl
                        subst hl
                        refine anyX_takeUL 29 rfl rfl (by as_aux_lemma => kernel_rfl) (by as_aux_lemma => kernel_rfl) (by as_aux_lemma => kernel_rfl) (by as_aux_lemma => kernel_rfl) (by as_aux_lemma => kernel_rfl) (fun _ _ _ h => h) (by rfl) hS ?_
                        intro l' hl
                        dsimp only [List.set_cons_succ, List.set_cons_zero] at hl
                        subst hl
                        refine anyX_takeNL 30 (v := ?_) rfl rfl (by as_aux_lemma => kernel_rfl) (by as_aux_lemma => kernel_rfl) (by as_aux_lemma => kernel_rfl) (by as_aux_lemma => kernel_rfl) (by as_aux_lemma => kernel_rfl) (fun _ _ _ h => h) rfl ?_ hS ?_
                        rotate_left
                        · intro W' hW'
                          obtain ⟨s0, s1, s2, s3⟩ := hW'
                          all_goals (go_simp; first | done | rfl)
                        intro l' hl
                        dsimp only [List.set_cons_succ, List.set_cons_zero] at hl
                        subst hl
                        refine anyX_takeNL 31 (v := ?_) rfl rfl (by as_aux_lemma => kernel_rfl) (by as_aux_lemma => kernel_rfl) (by as_aux_lemma => kernel_rfl) (by as_aux_lemma => kernel_rfl) (by as_aux_lemma => kernel_rfl) (fun _ _ _ h => h) rfl ?_ hS ?_
                        rotate_left
                        · intro W' hW'
                          obtain ⟨s0, s1, s2, s3⟩ := hW'
                          all_goals (go_simp; first | done | rfl)
                        intro l' hl
                        dsimp only [List.set_cons_succ, List.set_cons_zero] at hl
                        subst hl
                        refine anyX_done (by kernel_rfl) ?_ _
                        refine NoPanic.normal ?_
                        go_wp2_with fail
                        go_meet
                        exact ⟨congrArg Value.bool Hin.out.symm, ow23, HE.out, hT, hl, ho, t⟩
                  · have d2' : decide (o.n ≤ u) = false := decide_eq_false d2
                    have HE := Lib.hid (show Value.bool false = .bool (decide (lockE us' T o.job o.res o.n o.need = 0)) from congrArg Value.bool (decide_eq_false (fun h => by have := hE.1 h; omega)).symm)
                    clear hE
                    as_aux_lemma =>
                      refine plain_regionN (fun W' : World => W'.cell? ⟨gx, 3, none⟩ = some (.int .i64 o.n) ∧ W'.cell? ⟨gx, 2, none⟩ = some (.int .i64 o.res) ∧ W'.cell? ⟨gx, 4, none⟩ = some (.int .i64 o.need) ∧ W'.cell? ⟨bl, offl + o.res.toNat, none⟩ = some (.int .i64 u)) [] (by kernel_rfl) ?_
                      have nn : New w23 ow23 w23.drew ow23 := (New.refl _ _).drew
                      replace hT := hT.new_ nn
                      replace hl := hl.new_ nn
                      replace ho := ho.new_ nn
                      replace t := t.trans (nn.turn [1])
                      clear nn
                      generalize w23.drew = w81 at *
                      have o2 := ho.get 2 rfl
                      have o3 := ho.get 3 rfl
                      have o4 := ho.get 4 rfl
                      simp only [Nat.zero_add] at o2 o3 o4
                      obtain ⟨b', off', cap', hv', -, e', -⟩ := row_at hl rfl o.res.toNat u Hu.out
                      simp only [Value.slice.injEq, Option.some.injEq, Addr.mk.injEq, and_true, true_and] at hv'
                      obtain ⟨⟨rfl, rfl⟩, -⟩ := hv'
                      have hS : (fun W' : World => W'.cell? ⟨gx, 3, none⟩ = some (.int .i64 o.n) ∧ W'.cell? ⟨gx, 2, none⟩ = some (.int .i64 o.res) ∧ W'.cell? ⟨gx, 4, none⟩ = some (.int .i64 o.need) ∧ W'.cell? ⟨bl, offl + o.res.toNat, none⟩ = some (.int .i64 u)) w81 := ⟨o3, o2, o4, e'⟩
                      refine anyX_takeNL 0 (v := ?_) rfl rfl (by as_aux_lemma => kernel_rfl) (by as_aux_lemma => kernel_rfl) (by as_aux_lemma => kernel_rfl) (by as_aux_lemma => kernel_rfl) (by as_aux_lemma => kernel_rfl) (fun _ _ _ h => h) rfl ?_ hS ?_
                      rotate_left
                      · intro W' hW'
                        obtain ⟨s0, s1, s2, s3⟩ := hW'
                        all_goals (go_simp; first | done | rfl)
                      intro l' hl
                      dsimp only [List.set_cons_succ, List.set_cons_zero] at hl
                      subst hl
                      refine anyX_takeNL 1 (v := ?_) rfl rfl (by as_aux_lemma => kernel_rfl) (by as_aux_lemma => kernel_rfl) (by as_aux_lemma => kernel_rfl) (by as_aux_lemma => kernel_rfl) (by as_aux_lemma => kernel_rfl) (fun _ _ _ h => h) rfl ?_ hS ?_
                      rotate_left
                      · intro W' hW'
                        obtain ⟨s0, s1, s2, s3⟩ := hW'
                        all_goals (go_simp; first | done | rfl)
                      intro l' hl
                      dsimp only [List.set_cons_succ, List.set_cons_zero] at hl
                      subst hl
                      refine anyX_takeWL 2 (v := ?_) rfl rfl (by as_aux_lemma => kernel_rfl) (by as_aux_lemma => kernel_rfl) (by as_aux_lemma => kernel_rfl) (by as_aux_lemma => kernel_rfl) (by as_aux_lemma => kernel_rfl) (fun _ _ _ h => h) (by rfl) ?_ hS ?_
                      rotate_left
                      · intro W' hW'
                        obtain ⟨s0, s1, s2, s3⟩ := hW'
                        all_goals (go_simp; first | done | rfl)
                      intro l' hl
                      dsimp only [List.set_cons_succ, List.set_cons_zero] at hl
                      subst hl
                      refine anyX_takeWL 3 (v := ?_) rfl rfl (by as_aux_lemma => kernel_rfl) (by as_aux_lemma => kernel_rfl) (by as_aux_lemma => kernel_rfl) (by as_aux_lemma => kernel_rfl) (by as_aux_lemma => kernel_rfl) (fun _ _ _ h => h) (by rfl) ?_ hS ?_
                      rotate_left
                      · intro W' hW'
                        obtain ⟨s0, s1, s2, s3⟩ := hW'
                        all_goals (go_simp; first | done | rfl)
                      intro l' hl
                      dsimp only [List.set_cons_succ, List.set_cons_zero] at hl
                      subst hl
                      refine anyX_takeWL 4 (v := ?_) rfl rfl (by as_aux_lemma => kernel_rfl) (by as_aux_lemma => kernel_rfl) (by as_aux_lemma => kernel_rfl) (by as_aux_lemma => kernel_rfl) (by as_aux_lemma => kernel_rfl) (fun _ _ _ h => h) (by rfl) ?_ hS ?_
                      rotate_left
                      · intro W' hW'
                        obtain ⟨s0, s1, s2, s3⟩ := hW'
                        all_goals (go_simp; first | done | rfl)
                      intro l' hl
                      dsimp only [List.set_cons_succ, List.set_cons_zero] at hl
                      subst hl
                      refine anyX_takeNL 5 (v := ?_) rfl rfl (by as_aux_lemma => kernel_rfl) (by as_aux_lemma => kernel_rfl) (by as_aux_lemma => kernel_rfl) (by as_aux_lemma => kernel_rfl) (by as_aux_lemma => kernel_rfl) (fun _ _ _ h => h) rfl ?_ hS ?_
                      rotate_left
                      · intro W' hW'
                        obtain ⟨s0, s1, s2, s3⟩ := hW'
                        all_goals (go_simp; first | done | rfl)
                      intro l' hl
                      dsimp only [List.set_cons_succ, List.set_cons_zero] at hl
                      subst hl
                      refine anyX_takeNL 6 (v := ?_) rfl rfl (by as_aux_lemma => kernel_rfl) (by as_aux_lemma => kernel_rfl) (by as_aux_lemma => kernel_rfl) (by as_aux_lemma => kernel_rfl) (by as_aux_lemma => kernel_rfl) (fun _ _ _ h => h) rfl ?_ hS ?_
                      rotate_left
                      · intro W' hW'
                        obtain ⟨s0, s1, s2, s3⟩ := hW'
                        all_goals (go_simp; first | done | rfl)
                      intro l' hl
                      dsimp only [List.set_cons_succ, List.set_cons_zero] at hl
                      subst hl
                      refine anyX_takeWL 7 (v := ?_) rfl rfl (by as_aux_lemma => kernel_rfl) (by as_aux_lemma => kernel_rfl) (by as_aux_lemma => kernel_rfl) (by as_aux_lemma => kernel_rfl) (by as_aux_lemma => kernel_rfl) (fun _ _ _ h => h) (by rfl) ?_ hS ?_
                      rotate_left
                      · intro W' hW'
                        obtain ⟨s0, s1, s2, s3⟩ := hW'
                        all_goals (go_simp; first | done | rfl)
                      intro l' hl
                      dsimp only [List.set_cons_succ, List.set_cons_zero] at hl
                      subst hl
                      refine anyX_takeWL 8 (v := ?_) rfl rfl (by as_aux_lemma => kernel_rfl) (by as_aux_lemma => kernel_rfl) (by as_aux_lemma => kernel_rfl) (by as_aux_lemma => kernel_rfl) (by as_aux_lemma => kernel_rfl) (fun _ _ _ h => h) (by rfl) ?_ hS ?_
                      rotate_left
                      · intro W' hW'
                        obtain ⟨s0, s1, s2, s3⟩ := hW'
                        all_goals (go_simp; first | done | rfl)
                      intro l' hl
                      dsimp only [List.set_cons_succ, List.set_cons_zero] at hl
                      subst hl
                      refine anyX_takeWL 9 (v := ?_) rfl rfl (by as_aux_lemma => kernel_rfl) (by as_aux_lemma => kernel_rfl) (by as_aux_lemma => kernel_rfl) (by as_aux_lemma => kernel_rfl) (by as_aux_lemma => kernel_rfl) (fun _ _ _ h => h) (by rfl) ?_ hS ?_
                      rotate_left
                      · intro W' hW'
                        obtain ⟨s0, s1, s2, s3⟩ := hW'
                        all_goals (go_simp; first | done | rfl)
                      intro l' hl
                      dsimp only [List.set_cons_succ, List.set_cons_zero] at hl
                      subst hl
                      refine anyX_takeWL 10 (v := ?_) rfl rfl (by as_aux_lemma => kernel_rfl) (by as_aux_lemma => kernel_rfl) (by as_aux_lemma => kernel_rfl) (by as_aux_lemma => kernel_rfl) (by as_aux_lemma => kernel_rfl) (fun _ _ _ h => h) (by rfl) ?_ hS ?_
                      rotate_left
                      · intro W' hW'
                        obtain ⟨s0, s1, s2, s3⟩ := hW'
                        all_goals (go_simp; first | done | rfl)
                      intro l' hl
                      dsimp only [List.set_cons_succ, List.set_cons_zero] at hl
                      subst hl
                      refine anyX_takeWL 11 (v := ?_) rfl rfl (by as_aux_lemma => kernel_rfl) (by as_aux_lemma => kernel_rfl) (by as_aux_lemma => kernel_rfl) (by as_aux_lemma => kernel_rfl) (by as_aux_lemma => kernel_rfl) (fun _ _ _ h => h) (by rfl) ?_ hS ?_
                      rotate_left
                      · intro W' hW'
                        obtain ⟨s0, s1, s2, s3⟩ := hW'
                        all_goals (go_simp; first | done | rfl)
                      intro l' hl
                      dsimp only [List.set_cons_succ, List.set_cons_zero] at hl
                      subst hl
                      refine anyX_takeWL 12 (v := ?_) rfl rfl (by as_aux_lemma => kernel_rfl) (by as_aux_lemma => kernel_rfl) (by as_aux_lemma => kernel_rfl) (by as_aux_lemma => kernel_rfl) (by as_aux_lemma => kernel_rfl) (fun _ _ _ h => h) (by rfl) ?_ hS ?_
                      rotate_left
                      · intro W' hW'
                        obtain ⟨s0, s1, s2, s3⟩ := hW'
                        all_goals (go_simp; first | done | rfl)
                      intro l' hl
                      dsimp only [List.set_cons_succ, List.set_cons_zero] at hl
                      subst hl
                      refine anyX_takeWL 13 (v := ?_) rfl rfl (by as_aux_lemma => kernel_rfl) (by as_aux_lemma => kernel_rfl) (by as_aux_lemma => kernel_rfl) (by as_aux_lemma => kernel_rfl) (by as_aux_lemma => kernel_rfl) (fun _ _ _ h => h) (by rfl) ?_ hS ?_
                      rotate_left
                      · intro W' hW'
                        obtain ⟨s0, s1, s2, s3⟩ := hW'
                        all_goals (go_simp; first | done | rfl)
                      intro l' hl
                      dsimp only [List.set_cons_succ, List.set_cons_zero] at hl
                      subst hl
                      refine anyX_takeWL 14 (v := ?_) rfl rfl (by as_aux_lemma => kernel_rfl) (by as_aux_lemma => kernel_rfl) (by as_aux_lemma => kernel_rfl) (by as_aux_lemma => kernel_rfl) (by as_aux_lemma => kernel_rfl) (fun _ _ _ h => h) (by rfl) ?_ hS ?_
                      rotate_left
                      · intro W' hW'
                        obtain ⟨s0, s1, s2, s3⟩ := hW'
                        all_goals (go_simp; first | done | rfl)
                      intro l' hl
                      dsimp only [List.set_cons_succ, List.set_cons_zero] at hl
                      subst hl
                      refine anyX_takeNL 15 (v := ?_) rfl rfl (by as_aux_lemma => kernel_rfl) (by as_aux_lemma => kernel_rfl) (by as_aux_lemma => kernel_rfl) (by as_aux_lemma => kernel_rfl) (by as_aux_lemma => kernel_rfl) (fun _ _ _ h => h) rfl ?_ hS ?_
                      rotate_left
                      · intro W' hW'
                        obtain ⟨s0, s1, s2, s3⟩ := hW'
                        all_goals (go_simp; first | done | rfl)
                      intro l' hl
                      dsimp only [List.set_cons_succ, List.set_cons_zero] at hl
                      subst hl
                      refine anyX_takeNL 16 (v := ?_) rfl rfl (by as_aux_lemma => kernel_rfl) (by as_aux_lemma => kernel_rfl) (by as_aux_lemma => kernel_rfl) (by as_aux_lemma => kernel_rfl) (by as_aux_lemma => kernel_rfl) (fun _ _ _ h => h) rfl ?_ hS ?_
                      rotate_left
                      · intro W' hW'
                        obtain ⟨s0, s1, s2, s3⟩ := hW'
                        all_goals (go_simp; first | done | rfl)
                      intro l' hl
                      dsimp only [List.set_cons_succ, List.set_cons_zero] at hl
                      subst hl
                      refine anyX_takeUL 17 rfl rfl (by as_aux_lemma => kernel_rfl) (by as_aux_lemma => kernel_rfl) (by as_aux_lemma => kernel_rfl) (by as_aux_lemma => kernel_rfl) (by as_aux_lemma => kernel_rfl) (fun _ _ _ h => h) (by rfl) hS ?_
                      intro l' hl
                      dsimp only [List.set_cons_succ, List.set_cons_zero] at hl
                      subst hl
                      refine anyX_takeUL 18 rfl rfl (by as_aux_lemma => kernel_rfl) (by as_aux_lemma => kernel_rfl) (by as_aux_lemma => kernel_rfl) (by as_aux_lemma => kernel_rfl) (by as_aux_lemma => kernel_rfl) (fun _ _ _ h => h) (by rfl) hS ?_
                      intro l' hl
                      dsimp only [List.set_cons_succ, List.set_cons_zero] at hl
                      subst hl
                      refine anyX_takeUL 19 rfl rfl (by as_aux_lemma => kernel_rfl) (by as_aux_lemma => kernel_rfl) (by as_aux_lemma => kernel_rfl) (by as_aux_lemma => kernel_rfl) (by as_aux_lemma => kernel_rfl) (fun _ _ _ h => h) (by rfl) hS ?_
                      intro l' hl
                      dsimp only [List.set_cons_succ, List.set_cons_zero] at hl
                      subst hl
                      refine anyX_takeUL 20 rfl rfl (by as_aux_lemma => kernel_rfl) (by as_aux_lemma => kernel_rfl) (by as_aux_lemma => kernel_rfl) (by as_aux_lemma => kernel_rfl) (by as_aux_lemma => kernel_rfl) (fun _ _ _ h => h) (by rfl) hS ?_
                      intro l' hl
                      dsimp only [List.set_cons_succ, List.set_cons_zero] at hl
                      subst hl
                      refine anyX_takeUL 21 rfl rfl (by as_aux_lemma => kernel_rfl) (by as_aux_lemma => kernel_rfl) (by as_aux_lemma => kernel_rfl) (by as_aux_lemma => kernel_rfl) (by as_aux_lemma => kernel_rfl) (fun _ _ _ h => h) (by rfl) hS ?_
                      intro l' hl
                      dsimp only [List.set_cons_succ, List.set_cons_zero] at hl
                      subst hl
                      refine anyX_takeUL 22 rfl rfl (by as_aux_lemma => kernel_rfl) (by as_aux_lemma => kernel_rfl) (by as_aux_lemma => kernel_rfl) (by as_aux_lemma => kernel_rfl) (by as_aux_lemma => kernel_rfl) (fun _ _ _ h => h) (by rfl) hS ?_
                      intro l' hl
                      dsimp only [List.set_cons_succ, List.set_cons_zero] at hl
                      subst hl
                      refine anyX_takeUL 23 rfl rfl (by as_aux_lemma => kernel_rfl) (by as_aux_lemma => kernel_rfl) (by as_aux_lemma => kernel_rfl) (by as_aux_lemma => kernel_rfl) (by as_aux_lemma => kernel_rfl) (fun _ _ _ h => h) (by rfl) hS ?_
                      intro l' hl
                      dsimp only [List.set_cons_succ, List.set_cons_zero] at hl
                      subst hl
                      refine anyX_takeNL 24 (v := ?_) rfl rfl (by as_aux_lemma => kernel_rfl) (by as_aux_lemma => kernel_rfl) (by as_aux_lemma => kernel_rfl) (by as_aux_lemma => kernel_rfl) (by as_aux_lemma => kernel_rfl) (fun _ _ _ h => h) rfl ?_ hS ?_
                      rotate_left
                      · intro W' hW'
                        obtain ⟨s0, s1, s2, s3⟩ := hW'
                        all_goals (go_simp; first | done | rfl)
                      intro l' hl
                      dsimp only [List.set_cons_succ, List.set_cons_zero] at hl
                      subst hl
                      refine anyX_takeNL 25 (v := ?_) rfl rfl (by as_aux_lemma => kernel_rfl) (by as_aux_lemma => kernel_rfl) (by as_aux_lemma => kernel_rfl) (by as_aux_lemma => kernel_rfl) (by as_aux_lemma => kernel_rfl) (fun _ _ _ h => h) rfl ?_ hS ?_
                      rotate_left
                      · intro W' hW'
                        obtain ⟨s0, s1, s2, s3⟩ := hW'
                        all_goals (go_simp; first | done | rfl)
                      intro l' hl
                      dsimp only [List.set_cons_succ, List.set_cons_zero] at hl
                      subst hl
                      refine anyX_takeUL 26 rfl rfl (by as_aux_lemma => kernel_rfl) (by as_aux_lemma => kernel_rfl) (by as_aux_lemma => kernel_rfl) (by as_aux_lemma => kernel_rfl) (by as_aux_lemma => kernel_rfl) (fun _ _ _ h => h) (by rfl) hS ?_
                      intro l' hl
                      dsimp only [List.set_cons_succ, List.set_cons_zero] at hl
                      subst hl
                      refine anyX_takeUL 27 rfl rfl (by as_aux_lemma => kernel_rfl) (by as_aux_lemma => kernel_rfl) (by as_aux_lemma => kernel_rfl) (by as_aux_lemma => kernel_rfl) (by as_aux_lemma => kernel_rfl) (fun _ _ _ h => h) (by rfl) hS ?_
                      intro l' hl
                      dsimp only [List.set_cons_succ, List.set_cons_zero] at hl
                      subst hl
                      refine anyX_takeUL 28 rfl rfl (by as_aux_lemma => kernel_rfl) (by as_aux_lemma => kernel_rfl) (by as_aux_lemma => kernel_rfl) (by as_aux_lemma => kernel_rfl) (by as_aux_lemma => kernel_rfl) (fun _ _ _ h => h) (by rfl) hS ?_
                      intro l' hl
                      dsimp only [List.set_cons_succ, List.set_cons_zero] at hl
                      subst hl
                      refine anyX_takeUL 29 rfl rfl (by as_aux_lemma => kernel_rfl) (by as_aux_lemma => kernel_rfl) (by as_aux_lemma => kernel_rfl) (by as_aux_lemma => kernel_rfl) (by as_aux_lemma => kernel_rfl) (fun _ _ _ h => h) (by rfl) hS ?_
                      intro l' hl
                      dsimp only [List.set_cons_succ, List.set_cons_zero] at hl
                      subst hl
                      refine anyX_takeNL 30 (v := ?_) rfl rfl (by as_aux_lemma => kernel_rfl) (by as_aux_lemma => kernel_rfl) (by as_aux_lemma => kernel_rfl) (by as_aux_lemma => kernel_rfl) (by as_aux_lemma => kernel_rfl) (fun _ _ _ h => h) rfl ?_ hS ?_
                      rotate_left
                      · intro W' hW'
                        obtain ⟨s0, s1, s2, s3⟩ := hW'
                        all_goals (go_simp; first | done | rfl)
                      intro l' hl
                      dsimp only [List.set_cons_succ, List.set_cons_zero] at hl
                      subst hl
                      refine anyX_takeNL 31 (v := ?_) rfl rfl (by as_aux_lemma => kernel_rfl) (by as_aux_lemma => kernel_rfl) (by as_aux_lemma => kernel_rfl) (by as_aux_lemma => kernel_rfl) (by as_aux_lemma => kernel_rfl) (fun _ _ _ h => h) rfl ?_ hS ?_
                      rotate_left
                      · intro W' hW'
                        obtain ⟨s0, s1, s2, s3⟩ := hW'
                        all_goals (go_simp; first | done | rfl)
                      intro l' hl
                      dsimp only [List.set_cons_succ, List.set_cons_zero] at hl
                      subst hl
                      refine anyX_done (by kernel_rfl) ?_ _
                      refine NoPanic.normal ?_
                      go_wp2_with fail
                      go_meet
                      exact ⟨congrArg Value.bool Hin.out.symm, ow23, HE.out, hT, hl, ho, t⟩
                · have d1' : decide (1 ≤ o.n) = false := decide_eq_false d1
                  have HE := Lib.hid (show Value.bool false = .bool (decide (lockE us' T o.job o.res o.n o.need = 0)) from congrArg Value.bool (decide_eq_false (fun h => by have := hE.1 h; omega)).symm)
                  clear hE
                  as_aux_lemma =>
                    refine plain_regionN (fun W' : World => W'.cell? ⟨gx, 3, none⟩ = some (.int .i64 o.n) ∧ W'.cell? ⟨gx, 2, none⟩ = some (.int .i64 o.res) ∧ W'.cell? ⟨gx, 4, none⟩ = some (.int .i64 o.need)) [] (by kernel_rfl) ?_
                    have nn : New w23 ow23 w23.drew ow23 := (New.refl _ _).drew
                    replace hT := hT.new_ nn
                    replace hl := hl.new_ nn
                    replace ho := ho.new_ nn
                    replace t := t.trans (nn.turn [1])
                    clear nn
                    generalize w23.drew = w71 at *
                    have o2 := ho.get 2 rfl
                    have o3 := ho.get 3 rfl
                    have o4 := ho.get 4 rfl
                    simp only [Nat.zero_add] at o2 o3 o4
                    have hS : (fun W' : World => W'.cell? ⟨gx, 3, none⟩ = some (.int .i64 o.n) ∧ W'.cell? ⟨gx, 2, none⟩ = some (.int .i64 o.res) ∧ W'.cell? ⟨gx, 4, none⟩ = some (.int .i64 o.need)) w71 := ⟨o3, o2, o4⟩
                    refine anyX_takeNL 0 (v := ?_) rfl rfl (by as_aux_lemma => kernel_rfl) (by as_aux_lemma => kernel_rfl) (by as_aux_lemma => kernel_rfl) (by as_aux_lemma => kernel_rfl) (by as_aux_lemma => kernel_rfl) (fun _ _ _ h => h) rfl ?_ hS ?_
                    rotate_left
                    · intro W' hW'
                      obtain ⟨s0, s1, s2⟩ := hW'
                      all_goals (go_simp; first | done | rfl)
                    intro l' hl
                    dsimp only [List.set_cons_succ, List.set_cons_zero] at hl
                    subst hl
                    refine anyX_takeNL 1 (v := ?_) rfl rfl (by as_aux_lemma => kernel_rfl) (by as_aux_lemma => kernel_rfl) (by as_aux_lemma => kernel_rfl) (by as_aux_lemma => kernel_rfl) (by as_aux_lemma => kernel_rfl) (fun _ _ _ h => h) rfl ?_ hS ?_
                    rotate_left
                    · intro W' hW'
                      obtain ⟨s0, s1, s2⟩ := hW'
                      all_goals (go_simp; first | done | rfl)
                    intro l' hl
                    dsimp only [List.set_cons_succ, List.set_cons_zero] at hl
                    subst hl
                    refine anyX_takeWL 2 (v := ?_) rfl rfl (by as_aux_lemma => kernel_rfl) (by as_aux_lemma => kernel_rfl) (by as_aux_lemma => kernel_rfl) (by as_aux_lemma => kernel_rfl) (by as_aux_lemma => kernel_rfl) (fun _ _ _ h => h) (by rfl) ?_ hS ?_
                    rotate_left
                    · intro W' hW'
                      obtain ⟨s0, s1, s2⟩ := hW'
                      all_goals (go_simp; first | done | rfl)
                    intro l' hl
                    dsimp only [List.set_cons_succ, List.set_cons_zero] at hl
                    subst hl
                    refine anyX_takeWL 3 (v := ?_) rfl rfl (by as_aux_lemma => kernel_rfl) (by as_aux_lemma => kernel_rfl) (by as_aux_lemma => kernel_rfl) (by as_aux_lemma => kernel_rfl) (by as_aux_lemma => kernel_rfl) (fun _ _ _ h => h) (by rfl) ?_ hS ?_
                    rotate_left
                    · intro W' hW'
                      obtain ⟨s0, s1, s2⟩ := hW'
                      all_goals (go_simp; first | done | rfl)
                    intro l' hl
                    dsimp only [List.set_cons_succ, List.set_cons_zero] at hl
                    subst hl
                    refine anyX_takeWL 4 (v := ?_) rfl rfl (by as_aux_lemma => kernel_rfl) (by as_aux_lemma => kernel_rfl) (by as_aux_lemma => kernel_rfl) (by as_aux_lemma => kernel_rfl) (by as_aux_lemma => kernel_rfl) (fun _ _ _ h => h) (by rfl) ?_ hS ?_
                    rotate_left
                    · intro W' hW'
                      obtain ⟨s0, s1, s2⟩ := hW'
                      all_goals (go_simp; first | done | rfl)
                    intro l' hl
                    dsimp only [List.set_cons_succ, List.set_cons_zero] at hl
                    subst hl
                    refine anyX_takeNL 5 (v := ?_) rfl rfl (by as_aux_lemma => kernel_rfl) (by as_aux_lemma => kernel_rfl) (by as_aux_lemma => kernel_rfl) (by as_aux_lemma => kernel_rfl) (by as_aux_lemma => kernel_rfl) (fun _ _ _ h => h) rfl ?_ hS ?_
                    rotate_left
                    · intro W' hW'
                      obtain ⟨s0, s1, s2⟩ := hW'
                      all_goals (go_simp; first | done | rfl)
                    intro l' hl
                    dsimp only [List.set_cons_succ, List.set_cons_zero] at hl
                    subst hl
                    refine anyX_takeNL 6 (v := ?_) rfl rfl (by as_aux_lemma => kernel_rfl) (by as_aux_lemma => kernel_rfl) (by as_aux_lemma => kernel_rfl) (by as_aux_lemma => kernel_rfl) (by as_aux_lemma => kernel_rfl) (fun _ _ _ h => h) rfl ?_ hS ?_
                    rotate_left
                    · intro W' hW'
                      obtain ⟨s0, s1, s2⟩ := hW'
                      all_goals (go_simp; first | done | rfl)
                    intro l' hl
                    dsimp only [List.set_cons_succ, List.set_cons_zero] at hl
                    subst hl
                    refine anyX_takeUL 7 rfl rfl (by as_aux_lemma => kernel_rfl) (by as_aux_lemma => kernel_rfl) (by as_aux_lemma => kernel_rfl) (by as_aux_lemma => kernel_rfl) (by as_aux_lemma => kernel_rfl) (fun _ _ _ h => h) (by rfl) hS ?_
                    intro l' hl
                    dsimp only [List.set_cons_succ, List.set_cons_zero] at hl
                    subst hl
                    refine anyX_takeUL 8 rfl rfl (by as_aux_lemma => kernel_rfl) (by as_aux_lemma => kernel_rfl) (by as_aux_lemma => kernel_rfl) (by as_aux_lemma => kernel_rfl) (by as_aux_lemma => kernel_rfl) (fun _ _ _ h => h) (by rfl) hS ?_
                    intro l' hl
                    dsimp only [List.set_cons_succ, List.set_cons_zero] at hl
                    subst hl
                    refine anyX_takeUL 9 rfl rfl (by as_aux_lemma => kernel_rfl) (by as_aux_lemma => kernel_rfl) (by as_aux_lemma => kernel_rfl) (by as_aux_lemma => kernel_rfl) (by as_aux_lemma => kernel_rfl) (fun _ _ _ h => h) (by rfl) hS ?_
                    intro l' hl
                    dsimp only [List.set_cons_succ, List.set_cons_zero] at hl
                    subst hl
                    refine anyX_takeUL 10 rfl rfl (by as_aux_lemma => kernel_rfl) (by as_aux_lemma => kernel_rfl) (by as_aux_lemma => kernel_rfl) (by as_aux_lemma => kernel_rfl) (by as_aux_lemma => kernel_rfl) (fun _ _ _ h => h) (by rfl) hS ?_
                    intro l' hl
                    dsimp only [List.set_cons_succ, List.set_cons_zero] at hl
                    subst hl
                    refine anyX_takeUL 11 rfl rfl (by as_aux_lemma => kernel_rfl) (by as_aux_lemma => kernel_rfl) (by as_aux_lemma => kernel_rfl) (by as_aux_lemma => kernel_rfl) (by as_aux_lemma => kernel_rfl) (fun _ _ _ h => h) (by rfl) hS ?_
                    intro l' hl
                    dsimp only [List.set_cons_succ, List.set_cons_zero] at hl
                    subst hl
                    refine anyX_takeUL 12 rfl rfl (by as_aux_lemma => kernel_rfl) (by as_aux_lemma => kernel_rfl) (by as_aux_lemma => kernel_rfl) (by as_aux_lemma => kernel_rfl) (by as_aux_lemma => kernel_rfl) (fun _ _ _ h => h) (by rfl) hS ?_
                    intro l' hl
                    dsimp only [List.set_cons_succ, List.set_cons_zero] at hl
                    subst hl
                    refine anyX_takeUL 13 rfl rfl (by as_aux_lemma => kernel_rfl) (by as_aux_lemma => kernel_rfl) (by as_aux_lemma => kernel_rfl) (by as_aux_lemma => kernel_rfl) (by as_aux_lemma => kernel_rfl) (fun _ _ _ h => h) (by rfl) hS ?_
                    intro l' hl
                    dsimp only [List.set_cons_succ, List.set_cons_zero] at hl
                    subst hl
                    refine anyX_takeUL 14 rfl rfl (by as_aux_lemma => kernel_rfl) (by as_aux_lemma => kernel_rfl) (by as_aux_lemma => kernel_rfl) (by as_aux_lemma => kernel_rfl) (by as_aux_lemma => kernel_rfl) (fun _ _ _ h => h) (by rfl) hS ?_
                    intro l' hl
                    dsimp only [List.set_cons_succ, List.set_cons_zero] at hl
                    subst hl
                    refine anyX_takeNL 15 (v := ?_) rfl rfl (by as_aux_lemma => kernel_rfl) (by as_aux_lemma => kernel_rfl) (by as_aux_lemma => kernel_rfl) (by as_aux_lemma => kernel_rfl) (by as_aux_lemma => kernel_rfl) (fun _ _ _ h => h) rfl ?_ hS ?_
                    rotate_left
                    · intro W' hW'
                      obtain ⟨s0, s1, s2⟩ := hW'
                      all_goals (go_simp; first | done | rfl)
                    intro l' hl
                    dsimp only [List.set_cons_succ, List.set_cons_zero] at hl
                    subst hl
                    refine anyX_takeNL 16 (v := ?_) rfl rfl (by as_aux_lemma => kernel_rfl) (by as_aux_lemma => kernel_rfl) (by as_aux_lemma => kernel_rfl) (by as_aux_lemma => kernel_rfl) (by as_aux_lemma => kernel_rfl) (fun _ _ _ h => h) rfl ?_ hS ?_
                    rotate_left
                    · intro W' hW'
                      obtain ⟨s0, s1, s2⟩ := hW'
                      all_goals (go_simp; first | done | rfl)
                    intro l' hl
                    dsimp only [List.set_cons_succ, List.set_cons_zero] at hl
                    subst hl
                    refine anyX_takeUL 17 rfl rfl (by as_aux_lemma => kernel_rfl) (by as_aux_lemma => kernel_rfl) (by as_aux_lemma => kernel_rfl) (by as_aux_lemma => kernel_rfl) (by as_aux_lemma => kernel_rfl) (fun _ _ _ h => h) (by rfl) hS ?_
                    intro l' hl
                    dsimp only [List.set_cons_succ, List.set_cons_zero] at hl
                    subst hl
                    refine anyX_takeUL 18 rfl rfl (by as_aux_lemma => kernel_rfl) (by as_aux_lemma => kernel_rfl) (by as_aux_lemma => kernel_rfl) (by as_aux_lemma => kernel_rfl) (by as_aux_lemma => kernel_rfl) (fun _ _ _ h => h) (by rfl) hS ?_
                    intro l' hl
                    dsimp only [List.set_cons_succ, List.set_cons_zero] at hl
                    subst hl
                    refine anyX_takeUL 19 rfl rfl (by as_aux_lemma => kernel_rfl) (by as_aux_lemma => kernel_rfl) (by as_aux_lemma => kernel_rfl) (by as_aux_lemma => kernel_rfl) (by as_aux_lemma => kernel_rfl) (fun _ _ _ h => h) (by rfl) hS ?_
                    intro l' hl
                    dsimp only [List.set_cons_succ, List.set_cons_zero] at hl
                    subst hl
                    refine anyX_takeUL 20 rfl rfl (by as_aux_lemma => kernel_rfl) (by as_aux_lemma => kernel_rfl) (by as_aux_lemma => kernel_rfl) (by as_aux_lemma => kernel_rfl) (by as_aux_lemma => kernel_rfl) (fun _ _ _ h => h) (by rfl) hS ?_
                    intro l' hl
                    dsimp only [List.set_cons_succ, List.set_cons_zero] at hl
                    subst hl
                    refine anyX_takeUL 21 rfl rfl (by as_aux_lemma => kernel_rfl) (by as_aux_lemma => kernel_rfl) (by as_aux_lemma => kernel_rfl) (by as_aux_lemma => kernel_rfl) (by as_aux_lemma => kernel_rfl) (fun _ _ _ h => h) (by rfl) hS ?_
                    intro l' hl
                    dsimp only [List.set_cons_succ, List.set_cons_zero] at hl
                    subst hl
                    refine anyX_takeUL 22 rfl rfl (by as_aux_lemma => kernel_rfl) (by as_aux_lemma => kernel_rfl) (by as_aux_lemma => kernel_rfl) (by as_aux_lemma => kernel_rfl) (by as_aux_lemma => kernel_rfl) (fun _ _ _ h => h) (by rfl) hS ?_
                    intro l' hl
                    dsimp only [List.set_cons_succ, List.set_cons_zero] at hl
                    subst hl
                    refine anyX_takeUL 23 rfl rfl (by as_aux_lemma => kernel_rfl) (by as_aux_lemma => kernel_rfl) (by as_aux_lemma => kernel_rfl) (by as_aux_lemma => kernel_rfl) (by as_aux_lemma => kernel_rfl) (fun _ _ _ h => h) (by rfl) hS ?_
                    intro l' hl
                    dsimp only [List.set_cons_succ, List.set_cons_zero] at hl
                    subst hl
                    refine anyX_takeNL 24 (v := ?_) rfl rfl (by as_aux_lemma => kernel_rfl) (by as_aux_lemma => kernel_rfl) (by as_aux_lemma => kernel_rfl) (by as_aux_lemma => kernel_rfl) (by as_aux_lemma => kernel_rfl) (fun _ _ _ h => h) rfl ?_ hS ?_
                    rotate_left
                    · intro W' hW'
                      obtain ⟨s0, s1, s2⟩ := hW'
                      all_goals (go_simp; first | done | rfl)
                    intro l' hl
                    dsimp only [List.set_cons_succ, List.set_cons_zero] at hl
                    subst hl
                    refine anyX_takeNL 25 (v := ?_) rfl rfl (by as_aux_lemma => kernel_rfl) (by as_aux_lemma => kernel_rfl) (by as_aux_lemma => kernel_rfl) (by as_aux_lemma => kernel_rfl) (by as_aux_lemma => kernel_rfl) (fun _ _ _ h => h) rfl ?_ hS ?_
                    rotate_left
                    · intro W' hW'
                      obtain ⟨s0, s1, s2⟩ := hW'
                      all_goals (go_simp; first | done | rfl)
                    intro l' hl
                    dsimp only [List.set_cons_succ, List.set_cons_zero] at hl
                    subst hl
                    refine anyX_takeUL 26 rfl rfl (by as_aux_lemma => kernel_rfl) (by as_aux_lemma => kernel_rfl) (by as_aux_lemma => kernel_rfl) (by as_aux_lemma => kernel_rfl) (by as_aux_lemma => kernel_rfl) (fun _ _ _ h => h) (by rfl) hS ?_
                    intro l' hl
                    dsimp only [List.set_cons_succ, List.set_cons_zero] at hl
                    subst hl
                    refine anyX_takeUL 27 rfl rfl (by as_aux_lemma => kernel_rfl) (by as_aux_lemma => kernel_rfl) (by as_aux_lemma => kernel_rfl) (by as_aux_lemma => kernel_rfl) (by as_aux_lemma => kernel_rfl) (fun _ _ _ h => h) (by rfl) hS ?_
                    intro l' hl
                    dsimp only [List.set_cons_succ, List.set_cons_zero] at hl
                    subst hl
                    refine anyX_takeUL 28 rfl rfl (by as_aux_lemma => kernel_rfl) (by as_aux_lemma => kernel_rfl) (by as_aux_lemma => kernel_rfl) (by as_aux_lemma => kernel_rfl) (by as_aux_lemma => kernel_rfl) (fun _ _ _ h => h) (by rfl) hS ?_
                    intro l' hl
                    dsimp only [List.set_cons_succ, List.set_cons_zero] at hl
                    subst hl
                    refine anyX_takeUL 29 rfl rfl (by as_aux_lemma => kernel_rfl) (by as_aux_lemma => kernel_rfl) (by as_aux_lemma => kernel_rfl) (by as_aux_lemma => kernel_rfl) (by as_aux_lemma => kernel_rfl) (fun _ _ _ h => h) (by rfl) hS ?_
                    intro l' hl
                    dsimp only [List.set_cons_succ, List.set_cons_zero] at hl
                    subst hl
                    refine anyX_takeNL 30 (v := ?_) rfl rfl (by as_aux_lemma => kernel_rfl) (by as_aux_lemma => kernel_rfl) (by as_aux_lemma => kernel_rfl) (by as_aux_lemma => kernel_rfl) (by as_aux_lemma => kernel_rfl) (fun _ _ _ h => h) rfl ?_ hS ?_
                    rotate_left
                    · intro W' hW'
                      obtain ⟨s0, s1, s2⟩ := hW'
                      all_goals (go_simp; first | done | rfl)
                    intro l' hl
                    dsimp only [List.set_cons_succ, List.set_cons_zero] at hl
                    subst hl
                    refine anyX_takeNL 31 (v := ?_) rfl rfl (by as_aux_lemma => kernel_rfl) (by as_aux_lemma => kernel_rfl) (by as_aux_lemma => kernel_rfl) (by as_aux_lemma => kernel_rfl) (by as_aux_lemma => kernel_rfl) (fun _ _ _ h => h) rfl ?_ hS ?_
                    rotate_left
                    · intro W' hW'
                      obtain ⟨s0, s1, s2⟩ := hW'
                      all_goals (go_simp; first | done | rfl)
                    intro l' hl
                    dsimp only [List.set_cons_succ, List.set_cons_zero] at hl
                    subst hl
                    refine anyX_done (by kernel_rfl) ?_ _
                    refine NoPanic.normal ?_
                    go_wp2_with fail
                    go_meet
                    exact ⟨congrArg Value.bool Hin.out.symm, ow23, HE.out, hT, hl, ho, t⟩
            case rest => as_aux_lemma =>
              obtain ⟨rfl, ow30, rfl, hT, hl, ho, t⟩ := hcut
              clear hw
              obtain ⟨w30, rfl⟩ : ∃ w30 : World, w30 = wc := ⟨_, rfl⟩
              by_cases hE : lockE us' T o.job o.res o.n o.need = 0
              · as_aux_lemma =>
                obtain ⟨l1, l2⟩ := lock_yes hE
                obtain ⟨-, hk, hn1, -, -, hn5⟩ := (lockE_iff (U := us') (T := T) o.job o.res o.n o.need).1 hE
                rw [Hhq.out] at l1
                rw [Hfq.out] at l2
                have hf2 : freeT us' T o.res = fq := by have h := Hfq.out; unfold freeQ at h; rw [if_pos hk] at h; exact h
                have hnb : 1 ≤ o.n ∧ o.n ≤ 255 := by omega
                have wr1 : IntKind.i64.wrap (hq + o.n) = hq + o.n := by rw [IntKind.wrap_i64]; omega
                have wr2 : IntKind.i64.wrap (fq - o.n) = fq - o.n := by rw [IntKind.wrap_i64]; omega
                rw [decide_eq_true hE]
                have HE := Lib.hid hE
                have L1 := Lib.hid l1
                have L2 := Lib.hid l2
                clear hE l1 l2 hk hn1 hn5 hf2
                have o1 := ho.get 1 rfl
                have o2 := ho.get 2 rfl
                have o3 := ho.get 3 rfl
                have o4 := ho.get 4 rfl
                simp only [Nat.zero_add] at o1 o2 o3 o4
                go_wp2_with fail
                refine (lock w30 ow30 [1, 1] g us' C T hT o.job o.res o.n o.need).mono ?_
                rw [HE.out]
                rintro e w121 ⟨ow121, rfl, hn', tt⟩
                replace hl := hl.keep tt (by simp)
                replace ho := ho.keep tt (by simp)
                replace t := t.trans (tt.up (by simp))
                clear hT tt
                have hT := hn'
                clear hn'
                clear o1 o2 o3 o4
                generalize lockT us' T o.job o.res o.n o.need = T' at *
                go_upto_region 22 with fail
                refine plain_regionN (fun W' : World => W'.cell? ⟨gx, 1, none⟩ = some (.int .i64 o.job) ∧ W'.cell? ⟨gx, 2, none⟩ = some (.int .i64 o.res) ∧ W'.cell? ⟨gx, 3, none⟩ = some (.int .i64 o.n)) [] (by kernel_rfl) ?_
                have nn : New w121 ow121 w121.drew ow121 := (New.refl _ _).drew
                replace hT := hT.new_ nn
                replace hl := hl.new_ nn
                replace ho := ho.new_ nn
                replace t := t.trans (nn.turn [1])
                clear nn
                generalize w121.drew = w122 at *
                have o1 := ho.get 1 rfl
                have o2 := ho.get 2 rfl
                have o3 := ho.get 3 rfl
                simp only [Nat.zero_add] at o1 o2 o3
                have hS : (fun W' : World => W'.cell? ⟨gx, 1, none⟩ = some (.int .i64 o.job) ∧ W'.cell? ⟨gx, 2, none⟩ = some (.int .i64 o.res) ∧ W'.cell? ⟨gx, 3, none⟩ = some (.int .i64 o.n)) w122 := ⟨o1, o2, o3⟩
                refine anyX_takeNL 0 (v := ?_) rfl rfl (by as_aux_lemma => kernel_rfl) (by as_aux_lemma => kernel_rfl) (by as_aux_lemma => kernel_rfl) (by as_aux_lemma => kernel_rfl) (by as_aux_lemma => kernel_rfl) (fun _ _ _ h => h) rfl ?_ hS ?_
                rotate_left
                · intro W' hW'
                  obtain ⟨s0, s1, s2⟩ := hW'
                  all_goals (go_simp; first | done | rfl)
                intro l' hl
                dsimp only [List.set_cons_succ, List.set_cons_zero] at hl
                subst hl
                refine anyX_takeNL 1 (v := ?_) rfl rfl (by as_aux_lemma => kernel_rfl) (by as_aux_lemma => kernel_rfl) (by as_aux_lemma => kernel_rfl) (by as_aux_lemma => kernel_rfl) (by as_aux_lemma => kernel_rfl) (fun _ _ _ h => h) rfl ?_ hS ?_
                rotate_left
                · intro W' hW'
                  obtain ⟨s0, s1, s2⟩ := hW'
                  all_goals (go_simp; first | done | rfl)
                intro l' hl
                dsimp only [List.set_cons_succ, List.set_cons_zero] at hl
                subst hl
                refine anyX_takeNL 2 (v := ?_) rfl rfl (by as_aux_lemma => kernel_rfl) (by as_aux_lemma => kernel_rfl) (by as_aux_lemma => kernel_rfl) (by as_aux_lemma => kernel_rfl) (by as_aux_lemma => kernel_rfl) (fun _ _ _ h => h) rfl ?_ hS ?_
                rotate_left
                · intro W' hW'
                  obtain ⟨s0, s1, s2⟩ := hW'
                  all_goals (go_simp; first | done | rfl)
                intro l' hl
                dsimp only [List.set_cons_succ, List.set_cons_zero] at hl
                subst hl
                refine anyX_takeNL 3 (v := ?_) rfl rfl (by as_aux_lemma => kernel_rfl) (by as_aux_lemma => kernel_rfl) (by as_aux_lemma => kernel_rfl) (by as_aux_lemma => kernel_rfl) (by as_aux_lemma => kernel_rfl) (fun _ _ _ h => h) rfl ?_ hS ?_
                rotate_left
                · intro W' hW'
                  obtain ⟨s0, s1, s2⟩ := hW'
                  all_goals (go_simp; first | done | rfl)
                intro l' hl
                dsimp only [List.set_cons_succ, List.set_cons_zero] at hl
                subst hl
                refine anyX_takeNL 4 (v := ?_) rfl rfl (by as_aux_lemma => kernel_rfl) (by as_aux_lemma => kernel_rfl) (by as_aux_lemma => kernel_rfl) (by as_aux_lemma => kernel_rfl) (by as_aux_lemma => kernel_rfl) (fun _ _ _ h => h) rfl ?_ hS ?_
                rotate_left
                · intro W' hW'
                  obtain ⟨s0, s1, s2⟩ := hW'
                  all_goals (go_simp; first | done | rfl)
                intro l' hl
                dsimp only [List.set_cons_succ, List.set_cons_zero] at hl
                subst hl
                refine anyX_takeWL 5 (v := ?_) rfl rfl (by as_aux_lemma => kernel_rfl) (by as_aux_lemma => kernel_rfl) (by as_aux_lemma => kernel_rfl) (by as_aux_lemma => kernel_rfl) (by as_aux_lemma => kernel_rfl) (fun _ _ _ h => h) (by rfl) ?_ hS ?_
                rotate_left
                · intro W' hW'
                  obtain ⟨s0, s1, s2⟩ := hW'
                  all_goals (go_simp; first | done | rfl)
                intro l' hl
                dsimp only [List.set_cons_succ, List.set_cons_zero] at hl
                subst hl
                refine anyX_takeWL 6 (v := ?_) rfl rfl (by as_aux_lemma => kernel_rfl) (by as_aux_lemma => kernel_rfl) (by as_aux_lemma => kernel_rfl) (by as_aux_lemma => kernel_rfl) (by as_aux_lemma => kernel_rfl) (fun _ _ _ h => h) (by rfl) ?_ hS ?_
                rotate_left
                · intro W' hW'
                  obtain ⟨s0, s1, s2⟩ := hW'
                  all_goals (go_simp; first | done | rfl)
                intro l' hl
                dsimp only [List.set_cons_succ, List.set_cons_zero] at hl
                subst hl
                refine anyX_takeWL 7 (v := ?_) rfl rfl (by as_aux_lemma => kernel_rfl) (by as_aux_lemma => kernel_rfl) (by as_aux_lemma => kernel_rfl) (by as_aux_lemma => kernel_rfl) (by as_aux_lemma => kernel_rfl) (fun _ _ _ h => h) (by rfl) ?_ hS ?_
                rotate_left
                · intro W' hW'
                  obtain ⟨s0, s1, s2⟩ := hW'
                  all_goals (go_simp; first | done | rfl)
                intro l' hl
                dsimp only [List.set_cons_succ, List.set_cons_zero] at hl
                subst hl
                refine anyX_takeWL 8 (v := ?_) rfl rfl (by as_aux_lemma => kernel_rfl) (by as_aux_lemma => kernel_rfl) (by as_aux_lemma => kernel_rfl) (by as_aux_lemma => kernel_rfl) (by as_aux_lemma => kernel_rfl) (fun _ _ _ h => h) (by rfl) ?_ hS ?_
                rotate_left
                · intro W' hW'
                  obtain ⟨s0, s1, s2⟩ := hW'
                  all_goals (go_simp; first | done | rfl)
                intro l' hl
                dsimp only [List.set_cons_succ, List.set_cons_zero] at hl
                subst hl
                refine anyX_takeWL 9 (v := ?_) rfl rfl (by as_aux_lemma => kernel_rfl) (by as_aux_lemma => kernel_rfl) (by as_aux_lemma => kernel_rfl) (by as_aux_lemma => kernel_rfl) (by as_aux_lemma => kernel_rfl) (fun _ _ _ h => h) (by rfl) ?_ hS ?_
                rotate_left
                · intro W' hW'
                  obtain ⟨s0, s1, s2⟩ := hW'
                  all_goals (go_simp; first | done | rfl)
                intro l' hl
                dsimp only [List.set_cons_succ, List.set_cons_zero] at hl
                subst hl
                refine anyX_takeWL 10 (v := ?_) rfl rfl (by as_aux_lemma => kernel_rfl) (by as_aux_lemma => kernel_rfl) (by as_aux_lemma => kernel_rfl) (by as_aux_lemma => kernel_rfl) (by as_aux_lemma => kernel_rfl) (fun _ _ _ h => h) (by rfl) ?_ hS ?_
                rotate_left
                · intro W' hW'
                  obtain ⟨s0, s1, s2⟩ := hW'
                  all_goals (go_simp; first | done | rfl)
                intro l' hl
                dsimp only [List.set_cons_succ, List.set_cons_zero] at hl
                subst hl
                refine anyX_takeWL 11 (v := ?_) rfl rfl (by as_aux_lemma => kernel_rfl) (by as_aux_lemma => kernel_rfl) (by as_aux_lemma => kernel_rfl) (by as_aux_lemma => kernel_rfl) (by as_aux_lemma => kernel_rfl) (fun _ _ _ h => h) (by rfl) ?_ hS ?_
                rotate_left
                · intro W' hW'
                  obtain ⟨s0, s1, s2⟩ := hW'
                  all_goals (go_simp; first | done | rfl)
                intro l' hl
                dsimp only [List.set_cons_succ, List.set_cons_zero] at hl
                subst hl
                refine anyX_takeWL 12 (v := ?_) rfl rfl (by as_aux_lemma => kernel_rfl) (by as_aux_lemma => kernel_rfl) (by as_aux_lemma => kernel_rfl) (by as_aux_lemma => kernel_rfl) (by as_aux_lemma => kernel_rfl) (fun _ _ _ h => h) (by rfl) ?_ hS ?_
                rotate_left
                · intro W' hW'
                  obtain ⟨s0, s1, s2⟩ := hW'
                  all_goals (go_simp; first | done | rfl)
                intro l' hl
                dsimp only [List.set_cons_succ, List.set_cons_zero] at hl
                subst hl
                refine anyX_takeWL 14 (v := ?_) rfl rfl (by as_aux_lemma => kernel_rfl) (by as_aux_lemma => kernel_rfl) (by as_aux_lemma => kernel_rfl) (by as_aux_lemma => kernel_rfl) (by as_aux_lemma => kernel_rfl) (fun _ _ _ h => h) (by rfl) ?_ hS ?_
                rotate_left
                · intro W' hW'
                  obtain ⟨s0, s1, s2⟩ := hW'
                  all_goals (go_simp; first | done | rfl)
                intro l' hl
                dsimp only [List.set_cons_succ, List.set_cons_zero] at hl
                subst hl
                refine anyX_takeWL 15 (v := ?_) rfl rfl (by as_aux_lemma => kernel_rfl) (by as_aux_lemma => kernel_rfl) (by as_aux_lemma => kernel_rfl) (by as_aux_lemma => kernel_rfl) (by as_aux_lemma => kernel_rfl) (fun _ _ _ h => h) (by rfl) ?_ hS ?_
                rotate_left
                · intro W' hW'
                  obtain ⟨s0, s1, s2⟩ := hW'
                  all_goals (go_simp; first | done | rfl)
                intro l' hl
                dsimp only [List.set_cons_succ, List.set_cons_zero] at hl
                subst hl
                refine anyX_takeWL 16 (v := ?_) rfl rfl (by as_aux_lemma => kernel_rfl) (by as_aux_lemma => kernel_rfl) (by as_aux_lemma => kernel_rfl) (by as_aux_lemma => kernel_rfl) (by as_aux_lemma => kernel_rfl) (fun _ _ _ h => h) (by rfl) ?_ hS ?_
                rotate_left
                · intro W' hW'
                  obtain ⟨s0, s1, s2⟩ := hW'
                  all_goals (go_simp; first | done | rfl)
                intro l' hl
                dsimp only [List.set_cons_succ, List.set_cons_zero] at hl
                subst hl
                refine anyX_takeWL 17 (v := ?_) rfl rfl (by as_aux_lemma => kernel_rfl) (by as_aux_lemma => kernel_rfl) (by as_aux_lemma => kernel_rfl) (by as_aux_lemma => kernel_rfl) (by as_aux_lemma => kernel_rfl) (fun _ _ _ h => h) (by rfl) ?_ hS ?_
                rotate_left
                · intro W' hW'
                  obtain ⟨s0, s1, s2⟩ := hW'
                  all_goals (go_simp; first | done | rfl)
                intro l' hl
                dsimp only [List.set_cons_succ, List.set_cons_zero] at hl
                subst hl
                refine anyX_oneW (i := 13) (by kernel_rfl) rfl (by rfl) fun K' hK' => ?_
                unfold Oper.wp
                go_simp
                clear hS
                clear o1 o2 o3
                refine (held w122 ow121 [1, 1] g us' C T' hT o.job o.res).mono ?_
                rw [L1.out]
                rintro e w123 ⟨rfl, bb⟩
                have nn := bb.nw ow121
                replace hT := hT.new_ nn
                replace hl := hl.new_ nn
                replace ho := ho.new_ nn
                replace t := t.trans (nn.turn [1])
                clear nn
                clear bb
                have o1 := ho.get 1 rfl
                have o2 := ho.get 2 rfl
                have o3 := ho.get 3 rfl
                simp only [Nat.zero_add] at o1 o2 o3
                have hS : (fun W' : World => W'.cell? ⟨gx, 1, none⟩ = some (.int .i64 o.job) ∧ W'.cell? ⟨gx, 2, none⟩ = some (.int .i64 o.res) ∧ W'.cell? ⟨gx, 3, none⟩ = some (.int .i64 o.n)) w123 := ⟨o1, o2, o3⟩
                refine hK' _ _ (fun _ => hS) ?_
                clear hK' K'
                refine anyX_takeWL 18 (v := ?_) rfl rfl (by as_aux_lemma => kernel_rfl) (by as_aux_lemma => kernel_rfl) (by as_aux_lemma => kernel_rfl) (by as_aux_lemma => kernel_rfl) (by as_aux_lemma => kernel_rfl) (fun _ _ _ h => h) (by rfl) ?_ hS ?_
                rotate_left
                · intro W' hW'
                  obtain ⟨s0, s1, s2⟩ := hW'
                  all_goals (go_simp; first | done | rfl)
                intro l' hl
                dsimp only [List.set_cons_succ, List.set_cons_zero] at hl
                subst hl
                refine anyX_takeWL 19 (v := ?_) rfl rfl (by as_aux_lemma => kernel_rfl) (by as_aux_lemma => kernel_rfl) (by as_aux_lemma => kernel_rfl) (by as_aux_lemma => kernel_rfl) (by as_aux_lemma => kernel_rfl) (fun _ _ _ h => h) (by rfl) ?_ hS ?_
                rotate_left
                · intro W' hW'
                  obtain ⟨s0, s1, s2⟩ := hW'
                  all_goals (go_simp; first | done | rfl)
                intro l' hl
                dsimp only [List.set_cons_succ, List.set_cons_zero] at hl
                subst hl
                refine anyX_takeWL 20 (v := ?_) rfl rfl (by as_aux_lemma => kernel_rfl) (by as_aux_lemma => kernel_rfl) (by as_aux_lemma => kernel_rfl) (by as_aux_lemma => kernel_rfl) (by as_aux_lemma => kernel_rfl) (fun _ _ _ h => h) (by rfl) ?_ hS ?_
                rotate_left
                · intro W' hW'
                  obtain ⟨s0, s1, s2⟩ := hW'
                  all_goals (go_simp; first | done | rfl)
                intro l' hl
                dsimp only [List.set_cons_succ, List.set_cons_zero] at hl
                subst hl
                refine anyX_takeWL 21 (v := ?_) rfl rfl (by as_aux_lemma => kernel_rfl) (by as_aux_lemma => kernel_rfl) (by as_aux_lemma => kernel_rfl) (by as_aux_lemma => kernel_rfl) (by as_aux_lemma => kernel_rfl) (fun _ _ _ h => h) (by rfl) ?_ hS ?_
                rotate_left
                · intro W' hW'
                  obtain ⟨s0, s1, s2⟩ := hW'
                  all_goals (go_simp; first | done | rfl)
                intro l' hl
                dsimp only [List.set_cons_succ, List.set_cons_zero] at hl
                subst hl
                refine anyX_takeWL 22 (v := ?_) rfl rfl (by as_aux_lemma => kernel_rfl) (by as_aux_lemma => kernel_rfl) (by as_aux_lemma => kernel_rfl) (by as_aux_lemma => kernel_rfl) (by as_aux_lemma => kernel_rfl) (fun _ _ _ h => h) (by rfl) ?_ hS ?_
                rotate_left
                · intro W' hW'
                  obtain ⟨s0, s1, s2⟩ := hW'
                  all_goals (go_simp; first | done | rfl)
                intro l' hl
                dsimp only [List.set_cons_succ, List.set_cons_zero] at hl
                subst hl
                refine anyX_takeWL 24 (v := ?_) rfl rfl (by as_aux_lemma => kernel_rfl) (by as_aux_lemma => kernel_rfl) (by as_aux_lemma => kernel_rfl) (by as_aux_lemma => kernel_rfl) (by as_aux_lemma => kernel_rfl) (fun _ _ _ h => h) (by rfl) ?_ hS ?_
                rotate_left
                · intro W' hW'
                  obtain ⟨s0, s1, s2⟩ := hW'
                  all_goals (go_simp; first | done | rfl)
                intro l' hl
                dsimp only [List.set_cons_succ, List.set_cons_zero] at hl
                subst hl
                refine anyX_takeWL 25 (v := ?_) rfl rfl (by as_aux_lemma => kernel_rfl) (by as_aux_lemma => kernel_rfl) (by as_aux_lemma => kernel_rfl) (by as_aux_lemma => kernel_rfl) (by as_aux_lemma => kernel_rfl) (fun _ _ _ h => h) (by rfl) ?_ hS ?_
                rotate_left
                · intro W' hW'
                  obtain ⟨s0, s1, s2⟩ := hW'
                  all_goals (go_simp; first | done | rfl)
                intro l' hl
                dsimp only [List.set_cons_succ, List.set_cons_zero] at hl
                subst hl
                refine anyX_takeWL 26 (v := ?_) rfl rfl (by as_aux_lemma => kernel_rfl) (by as_aux_lemma => kernel_rfl) (by as_aux_lemma => kernel_rfl) (by as_aux_lemma => kernel_rfl) (by as_aux_lemma => kernel_rfl) (fun _ _ _ h => h) (by rfl) ?_ hS ?_
                rotate_left
                · intro W' hW'
                  obtain ⟨s0, s1, s2⟩ := hW'
                  all_goals (go_simp; first | done | rfl)
                intro l' hl
                dsimp only [List.set_cons_succ, List.set_cons_zero] at hl
                subst hl
                refine anyX_takeWL 27 (v := ?_) rfl rfl (by as_aux_lemma => kernel_rfl) (by as_aux_lemma => kernel_rfl) (by as_aux_lemma => kernel_rfl) (by as_aux_lemma => kernel_rfl) (by as_aux_lemma => kernel_rfl) (fun _ _ _ h => h) (by rfl) ?_ hS ?_
                rotate_left
                · intro W' hW'
                  obtain ⟨s0, s1, s2⟩ := hW'
                  all_goals (go_simp; first | done | rfl)
                intro l' hl
                dsimp only [List.set_cons_succ, List.set_cons_zero] at hl
                subst hl
                refine anyX_oneW (i := 23) (by kernel_rfl) rfl (by rfl) fun K' hK' => ?_
                unfold Oper.wp
                go_simp
                clear hS
                clear o1 o2 o3
                refine (free w123 ow121 [1, 1] g us' C T' hT o.res).mono ?_
                rw [L2.out]
                rintro e w124 ⟨rfl, bb⟩
                have nn := bb.nw ow121
                replace hT := hT.new_ nn
                replace hl := hl.new_ nn
                replace ho := ho.new_ nn
                replace t := t.trans (nn.turn [1])
                clear nn
                clear bb
                have o1 := ho.get 1 rfl
                have o2 := ho.get 2 rfl
                have o3 := ho.get 3 rfl
                simp only [Nat.zero_add] at o1 o2 o3
                have hS : (fun W' : World => W'.cell? ⟨gx, 1, none⟩ = some (.int .i64 o.job) ∧ W'.cell? ⟨gx, 2, none⟩ = some (.int .i64 o.res) ∧ W'.cell? ⟨gx, 3, none⟩ = some (.int .i64 o.n)) w124 := ⟨o1, o2, o3⟩
                refine hK' _ _ (fun _ => hS) ?_
                clear hK' K'
                refine anyX_takeWL 28 (v := ?_) rfl rfl (by as_aux_lemma => kernel_rfl) (by as_aux_lemma => kernel_rfl) (by as_aux_lemma => kernel_rfl) (by as_aux_lemma => kernel_rfl) (by as_aux_lemma => kernel_rfl) (fun _ _ _ h => h) (by rfl) ?_ hS ?_
                rotate_left
                · intro W' hW'
                  obtain ⟨s0, s1, s2⟩ := hW'
                  all_goals (go_simp; first | done | rfl)
                intro l' hl
                dsimp only [List.set_cons_succ, List.set_cons_zero] at hl
                subst hl
                refine anyX_takeWL 29 (v := ?_) rfl rfl (by as_aux_lemma => kernel_rfl) (by as_aux_lemma => kernel_rfl) (by as_aux_lemma => kernel_rfl) (by as_aux_lemma => kernel_rfl) (by as_aux_lemma => kernel_rfl) (fun _ _ _ h => h) (by rfl) ?_ hS ?_
                rotate_left
                · intro W' hW'
                  obtain ⟨s0, s1, s2⟩ := hW'
                  all_goals (go_simp; first | done | rfl)
                intro l' hl
                dsimp only [List.set_cons_succ, List.set_cons_zero] at hl
                subst hl
                refine anyX_takeWL 30 (v := ?_) rfl rfl (by as_aux_lemma => kernel_rfl) (by as_aux_lemma => kernel_rfl) (by as_aux_lemma => kernel_rfl) (by as_aux_lemma => kernel_rfl) (by as_aux_lemma => kernel_rfl) (fun _ _ _ h => h) (by rfl) ?_ hS ?_
                rotate_left
                · intro W' hW'
                  obtain ⟨s0, s1, s2⟩ := hW'
                  all_goals (go_simp; first | done | rfl)
                intro l' hl
                dsimp only [List.set_cons_succ, List.set_cons_zero] at hl
                subst hl
                refine anyX_takeNL 31 (v := ?_) rfl rfl (by as_aux_lemma => kernel_rfl) (by as_aux_lemma => kernel_rfl) (by as_aux_lemma => kernel_rfl) (by as_aux_lemma => kernel_rfl) (by as_aux_lemma => kernel_rfl) (fun _ _ _ h => h) rfl ?_ hS ?_
                rotate_left
                · intro W' hW'
                  obtain ⟨s0, s1, s2⟩ := hW'
                  all_goals (go_simp; first | done | rfl)
                intro l' hl
                dsimp only [List.set_cons_succ, List.set_cons_zero] at hl
                subst hl
                refine anyX_takeNL 32 (v := ?_) rfl rfl (by as_aux_lemma => kernel_rfl) (by as_aux_lemma => kernel_rfl) (by as_aux_lemma => kernel_rfl) (by as_aux_lemma => kernel_rfl) (by as_aux_lemma => kernel_rfl) (fun _ _ _ h => h) rfl ?_ hS ?_
                rotate_left
                · intro W' hW'
                  obtain ⟨s0, s1, s2⟩ := hW'
                  all_goals (go_simp; first | done | rfl)
                intro l' hl
                dsimp only [List.set_cons_succ, List.set_cons_zero] at hl
                subst hl
                refine anyX_takeWL 33 (v := ?_) rfl rfl (by as_aux_lemma => kernel_rfl) (by as_aux_lemma => kernel_rfl) (by as_aux_lemma => kernel_rfl) (by as_aux_lemma => kernel_rfl) (by as_aux_lemma => kernel_rfl) (fun _ _ _ h => h) (by rfl) ?_ hS ?_
                rotate_left
                · intro W' hW'
                  obtain ⟨s0, s1, s2⟩ := hW'
                  all_goals (go_simp; first | done | rfl)
                intro l' hl
                dsimp only [List.set_cons_succ, List.set_cons_zero] at hl
                subst hl
                refine anyX_takeWL 34 (v := ?_) rfl rfl (by as_aux_lemma => kernel_rfl) (by as_aux_lemma => kernel_rfl) (by as_aux_lemma => kernel_rfl) (by as_aux_lemma => kernel_rfl) (by as_aux_lemma => kernel_rfl) (fun _ _ _ h => h) (by rfl) ?_ hS ?_
                rotate_left
                · intro W' hW'
                  obtain ⟨s0, s1, s2⟩ := hW'
                  all_goals (go_simp; first | done | rfl)
                intro l' hl
                dsimp only [List.set_cons_succ, List.set_cons_zero] at hl
                subst hl
                refine anyX_takeWL 35 (v := ?_) rfl rfl (by as_aux_lemma => kernel_rfl) (by as_aux_lemma => kernel_rfl) (by as_aux_lemma => kernel_rfl) (by as_aux_lemma => kernel_rfl) (by as_aux_lemma => kernel_rfl) (fun _ _ _ h => h) (by rfl) ?_ hS ?_
                rotate_left
                · intro W' hW'
                  obtain ⟨s0, s1, s2⟩ := hW'
                  all_goals (go_simp; first | done | rfl)
                intro l' hl
                dsimp only [List.set_cons_succ, List.set_cons_zero] at hl
                subst hl
                refine anyX_takeUL 36 rfl rfl (by as_aux_lemma => kernel_rfl) (by as_aux_lemma => kernel_rfl) (by as_aux_lemma => kernel_rfl) (by as_aux_lemma => kernel_rfl) (by as_aux_lemma => kernel_rfl) (fun _ _ _ h => h) (by rfl) hS ?_
                intro l' hl
                dsimp only [List.set_cons_succ, List.set_cons_zero] at hl
                subst hl
                refine anyX_takeUL 37 rfl rfl (by as_aux_lemma => kernel_rfl) (by as_aux_lemma => kernel_rfl) (by as_aux_lemma => kernel_rfl) (by as_aux_lemma => kernel_rfl) (by as_aux_lemma => kernel_rfl) (fun _ _ _ h => h) (by rfl) hS ?_
                intro l' hl
                dsimp only [List.set_cons_succ, List.set_cons_zero] at hl
                subst hl
                refine anyX_takeUL 38 rfl rfl (by as_aux_lemma => kernel_rfl) (by as_aux_lemma => kernel_rfl) (by as_aux_lemma => kernel_rfl) (by as_aux_lemma => kernel_rfl) (by as_aux_lemma => kernel_rfl) (fun _ _ _ h => h) (by rfl) hS ?_
                intro l' hl
                dsimp only [List.set_cons_succ, List.set_cons_zero] at hl
                subst hl
                refine anyX_takeUL 39 rfl rfl (by as_aux_lemma => kernel_rfl) (by as_aux_lemma => kernel_rfl) (by as_aux_lemma => kernel_rfl) (by as_aux_lemma => kernel_rfl) (by as_aux_lemma => kernel_rfl) (fun _ _ _ h => h) (by rfl) hS ?_
                intro l' hl
                dsimp only [List.set_cons_succ, List.set_cons_zero] at hl
                subst hl
                refine anyX_takeUL 40 rfl rfl (by as_aux_lemma => kernel_rfl) (by as_aux_lemma => kernel_rfl) (by as_aux_lemma => kernel_rfl) (by as_aux_lemma => kernel_rfl) (by as_aux_lemma => kernel_rfl) (fun _ _ _ h => h) (by rfl) hS ?_
                intro l' hl
                dsimp only [List.set_cons_succ, List.set_cons_zero] at hl
                subst hl
                refine anyX_takeUL 41 rfl rfl (by as_aux_lemma => kernel_rfl) (by as_aux_lemma => kernel_rfl) (by as_aux_lemma => kernel_rfl) (by as_aux_lemma => kernel_rfl) (by as_aux_lemma => kernel_rfl) (fun _ _ _ h => h) (by rfl) hS ?_
                intro l' hl
                dsimp only [List.set_cons_succ, List.set_cons_zero] at hl
                subst hl
                refine anyX_takeWL 42 (v := ?_) rfl rfl (by as_aux_lemma => kernel_rfl) (by as_aux_lemma => kernel_rfl) (by as_aux_lemma => kernel_rfl) (by as_aux_lemma => kernel_rfl) (by as_aux_lemma => kernel_rfl) (fun _ _ _ h => h) (by rfl) ?_ hS ?_
                rotate_left
                · intro W' hW'
                  obtain ⟨s0, s1, s2⟩ := hW'
                  all_goals (go_simp; first | done | rfl)
                intro l' hl
                dsimp only [List.set_cons_succ, List.set_cons_zero] at hl
                subst hl
                refine anyX_takeNL 43 (v := ?_) rfl rfl (by as_aux_lemma => kernel_rfl) (by as_aux_lemma => kernel_rfl) (by as_aux_lemma => kernel_rfl) (by as_aux_lemma => kernel_rfl) (by as_aux_lemma => kernel_rfl) (fun _ _ _ h => h) rfl ?_ hS ?_
                rotate_left
                · intro W' hW'
                  obtain ⟨s0, s1, s2⟩ := hW'
                  all_goals (go_simp; first | done | rfl)
                intro l' hl
                dsimp only [List.set_cons_succ, List.set_cons_zero] at hl
                subst hl
                refine anyX_done (by kernel_rfl) ?_ _
                refine NoPanic.normal ?_
                clear hS
                clear o1 o2 o3
                go_wp2_with fail
                go_roundg (ys.length - (k + 1))
                case measure => have := Hgk.out; omega
                case rel => exact ⟨k + 1, ow121, C, T', rfl, by omega, by go_num, hT, hl, t⟩
              · as_aux_lemma =>
                have l1 := lock_not hE
                rw [decide_eq_false hE]
                have L1 := Lib.hid l1
                obtain ⟨E, hEE⟩ : ∃ E, lockE us' T o.job o.res o.n o.need = E := ⟨_, rfl⟩
                rw [hEE] at hE
                have e9 : (E == 0) = false := beq_eq_false_iff_ne.2 hE
                have e8 : (E != 0) = true := by simp [bne, e9]
                have HE := Lib.hid hEE
                clear hEE hE l1
                have o1 := ho.get 1 rfl
                have o2 := ho.get 2 rfl
                have o3 := ho.get 3 rfl
                have o4 := ho.get 4 rfl
                simp only [Nat.zero_add] at o1 o2 o3 o4
                go_wp2_with fail
                refine (lock w30 ow30 [1, 1] g us' C T hT o.job o.res o.n o.need).mono ?_
                rw [HE.out, L1.out]
                rintro e w121 ⟨ow121, rfl, hn', tt⟩
                replace hl := hl.keep tt (by simp)
                replace ho := ho.keep tt (by simp)
                replace t := t.trans (tt.up (by simp))
                clear hT tt
                have hT := hn'
                clear hn'
                clear o1 o2 o3 o4
                go_upto_region 22 with fail
                refine plain_regionN (fun W' : World => W'.cell? ⟨gx, 2, none⟩ = some (.int .i64 o.res)) [] (by kernel_rfl) ?_
                have nn : New w121 ow121 w121.drew ow121 := (New.refl _ _).drew
                replace hT := hT.new_ nn
                replace hl := hl.new_ nn
                replace ho := ho.new_ nn
                replace t := t.trans (nn.turn [1])
                clear nn
                generalize w121.drew = w122 at *
                have o2 := ho.get 2 rfl
                simp only [Nat.zero_add] at o2
                have hS : (fun W' : World => W'.cell? ⟨gx, 2, none⟩ = some (.int .i64 o.res)) w122 := o2
                refine anyX_takeNL 0 (v := ?_) rfl rfl (by as_aux_lemma => kernel_rfl) (by as_aux_lemma => kernel_rfl) (by as_aux_lemma => kernel_rfl) (by as_aux_lemma => kernel_rfl) (by as_aux_lemma => kernel_rfl) (fun _ _ _ h => h) rfl ?_ hS ?_
                rotate_left
                · intro W' hW'
                  obtain s0 := hW'
                  all_goals (go_simp; first | done | rfl)
                intro l' hl
                dsimp only [List.set_cons_succ, List.set_cons_zero] at hl
                subst hl
                refine anyX_takeNL 1 (v := ?_) rfl rfl (by as_aux_lemma => kernel_rfl) (by as_aux_lemma => kernel_rfl) (by as_aux_lemma => kernel_rfl) (by as_aux_lemma => kernel_rfl) (by as_aux_lemma => kernel_rfl) (fun _ _ _ h => h) rfl ?_ hS ?_
                rotate_left
                · intro W' hW'
                  obtain s0 := hW'
                  all_goals (go_simp; first | done | rfl)
                intro l' hl
                dsimp only [List.set_cons_succ, List.set_cons_zero] at hl
                subst hl
                refine anyX_takeNL 2 (v := ?_) rfl rfl (by as_aux_lemma => kernel_rfl) (by as_aux_lemma => kernel_rfl) (by as_aux_lemma => kernel_rfl) (by as_aux_lemma => kernel_rfl) (by as_aux_lemma => kernel_rfl) (fun _ _ _ h => h) rfl ?_ hS ?_
                rotate_left
                · intro W' hW'
                  obtain s0 := hW'
                  all_goals (go_simp; first | done | rfl)
                intro l' hl
                dsimp only [List.set_cons_succ, List.set_cons_zero] at hl
                subst hl
                refine anyX_takeNL 3 (v := ?_) rfl rfl (by as_aux_lemma => kernel_rfl) (by as_aux_lemma => kernel_rfl) (by as_aux_lemma => kernel_rfl) (by as_aux_lemma => kernel_rfl) (by as_aux_lemma => kernel_rfl) (fun _ _ _ h => h) rfl ?_ hS ?_
                rotate_left
                · intro W' hW'
                  obtain s0 := hW'
                  all_goals (go_simp; first | done | rfl)
                intro l' hl
                dsimp only [List.set_cons_succ, List.set_cons_zero] at hl
                subst hl
                refine anyX_takeNL 4 (v := ?_) rfl rfl (by as_aux_lemma => kernel_rfl) (by as_aux_lemma => kernel_rfl) (by as_aux_lemma => kernel_rfl) (by as_aux_lemma => kernel_rfl) (by as_aux_lemma => kernel_rfl) (fun _ _ _ h => h) rfl ?_ hS ?_
                rotate_left
                · intro W' hW'
                  obtain s0 := hW'
                  all_goals (go_simp; first | done | rfl)
                intro l' hl
                dsimp only [List.set_cons_succ, List.set_cons_zero] at hl
                subst hl
                refine anyX_takeWL 5 (v := ?_) rfl rfl (by as_aux_lemma => kernel_rfl) (by as_aux_lemma => kernel_rfl) (by as_aux_lemma => kernel_rfl) (by as_aux_lemma => kernel_rfl) (by as_aux_lemma => kernel_rfl) (fun _ _ _ h => h) (by rfl) ?_ hS ?_
                rotate_left
                · intro W' hW'
                  obtain s0 := hW'
                  all_goals (go_simp; first | done | rfl)
                intro l' hl
                dsimp only [List.set_cons_succ, List.set_cons_zero] at hl
                subst hl
                refine anyX_takeWL 6 (v := ?_) rfl rfl (by as_aux_lemma => kernel_rfl) (by as_aux_lemma => kernel_rfl) (by as_aux_lemma => kernel_rfl) (by as_aux_lemma => kernel_rfl) (by as_aux_lemma => kernel_rfl) (fun _ _ _ h => h) (by rfl) ?_ hS ?_
                rotate_left
                · intro W' hW'
                  obtain s0 := hW'
                  all_goals (go_simp; first | done | rfl)
                intro l' hl
                dsimp only [List.set_cons_succ, List.set_cons_zero] at hl
                subst hl
                refine anyX_takeWL 7 (v := ?_) rfl rfl (by as_aux_lemma => kernel_rfl) (by as_aux_lemma => kernel_rfl) (by as_aux_lemma => kernel_rfl) (by as_aux_lemma => kernel_rfl) (by as_aux_lemma => kernel_rfl) (fun _ _ _ h => h) (by rfl) ?_ hS ?_
                rotate_left
                · intro W' hW'
                  obtain s0 := hW'
                  all_goals (go_simp; first | done | rfl)
                intro l' hl
                dsimp only [List.set_cons_succ, List.set_cons_zero] at hl
                subst hl
                refine anyX_takeUL 8 rfl rfl (by as_aux_lemma => kernel_rfl) (by as_aux_lemma => kernel_rfl) (by as_aux_lemma => kernel_rfl) (by as_aux_lemma => kernel_rfl) (by as_aux_lemma => kernel_rfl) (fun _ _ _ h => h) (by rfl) hS ?_
                intro l' hl
                dsimp only [List.set_cons_succ, List.set_cons_zero] at hl
                subst hl
                refine anyX_takeUL 9 rfl rfl (by as_aux_lemma => kernel_rfl) (by as_aux_lemma => kernel_rfl) (by as_aux_lemma => kernel_rfl) (by as_aux_lemma => kernel_rfl) (by as_aux_lemma => kernel_rfl) (fun _ _ _ h => h) (by rfl) hS ?_
                intro l' hl
                dsimp only [List.set_cons_succ, List.set_cons_zero] at hl
                subst hl
                refine anyX_takeUL 10 rfl rfl (by as_aux_lemma => kernel_rfl) (by as_aux_lemma => kernel_rfl) (by as_aux_lemma => kernel_rfl) (by as_aux_lemma => kernel_rfl) (by as_aux_lemma => kernel_rfl) (fun _ _ _ h => h) (by rfl) hS ?_
                intro l' hl
                dsimp only [List.set_cons_succ, List.set_cons_zero] at hl
                subst hl
                refine anyX_takeUL 11 rfl rfl (by as_aux_lemma => kernel_rfl) (by as_aux_lemma => kernel_rfl) (by as_aux_lemma => kernel_rfl) (by as_aux_lemma => kernel_rfl) (by as_aux_lemma => kernel_rfl) (fun _ _ _ h => h) (by rfl) hS ?_
                intro l' hl
                dsimp only [List.set_cons_succ, List.set_cons_zero] at hl
                subst hl
                refine anyX_takeUL 12 rfl rfl (by as_aux_lemma => kernel_rfl) (by as_aux_lemma => kernel_rfl) (by as_aux_lemma => kernel_rfl) (by as_aux_lemma => kernel_rfl) (by as_aux_lemma => kernel_rfl) (fun _ _ _ h => h) (by rfl) hS ?_
                intro l' hl
                dsimp only [List.set_cons_succ, List.set_cons_zero] at hl
                subst hl
                refine anyX_takeUL 13 rfl rfl (by as_aux_lemma => kernel_rfl) (by as_aux_lemma => kernel_rfl) (by as_aux_lemma => kernel_rfl) (by as_aux_lemma => kernel_rfl) (by as_aux_lemma => kernel_rfl) (fun _ _ _ h => h) (by rfl) hS ?_
                intro l' hl
                dsimp only [List.set_cons_succ, List.set_cons_zero] at hl
                subst hl
                refine anyX_takeUL 14 rfl rfl (by as_aux_lemma => kernel_rfl) (by as_aux_lemma => kernel_rfl) (by as_aux_lemma => kernel_rfl) (by as_aux_lemma => kernel_rfl) (by as_aux_lemma => kernel_rfl) (fun _ _ _ h => h) (by rfl) hS ?_
                intro l' hl
                dsimp only [List.set_cons_succ, List.set_cons_zero] at hl
                subst hl
                refine anyX_takeUL 15 rfl rfl (by as_aux_lemma => kernel_rfl) (by as_aux_lemma => kernel_rfl) (by as_aux_lemma => kernel_rfl) (by as_aux_lemma => kernel_rfl) (by as_aux_lemma => kernel_rfl) (fun _ _ _ h => h) (by rfl) hS ?_
                intro l' hl
                dsimp only [List.set_cons_succ, List.set_cons_zero] at hl
                subst hl
                refine anyX_takeUL 16 rfl rfl (by as_aux_lemma => kernel_rfl) (by as_aux_lemma => kernel_rfl) (by as_aux_lemma => kernel_rfl) (by as_aux_lemma => kernel_rfl) (by as_aux_lemma => kernel_rfl) (fun _ _ _ h => h) (by rfl) hS ?_
                intro l' hl
                dsimp only [List.set_cons_succ, List.set_cons_zero] at hl
                subst hl
                refine anyX_takeUL 17 rfl rfl (by as_aux_lemma => kernel_rfl) (by as_aux_lemma => kernel_rfl) (by as_aux_lemma => kernel_rfl) (by as_aux_lemma => kernel_rfl) (by as_aux_lemma => kernel_rfl) (fun _ _ _ h => h) (by rfl) hS ?_
                intro l' hl
                dsimp only [List.set_cons_succ, List.set_cons_zero] at hl
                subst hl
                refine anyX_takeUL 18 rfl rfl (by as_aux_lemma => kernel_rfl) (by as_aux_lemma => kernel_rfl) (by as_aux_lemma => kernel_rfl) (by as_aux_lemma => kernel_rfl) (by as_aux_lemma => kernel_rfl) (fun _ _ _ h => h) (by rfl) hS ?_
                intro l' hl
                dsimp only [List.set_cons_succ, List.set_cons_zero] at hl
                subst hl
                refine anyX_takeUL 19 rfl rfl (by as_aux_lemma => kernel_rfl) (by as_aux_lemma => kernel_rfl) (by as_aux_lemma => kernel_rfl) (by as_aux_lemma => kernel_rfl) (by as_aux_lemma => kernel_rfl) (fun _ _ _ h => h) (by rfl) hS ?_
                intro l' hl
                dsimp only [List.set_cons_succ, List.set_cons_zero] at hl
                subst hl
                refine anyX_takeUL 20 rfl rfl (by as_aux_lemma => kernel_rfl) (by as_aux_lemma => kernel_rfl) (by as_aux_lemma => kernel_rfl) (by as_aux_lemma => kernel_rfl) (by as_aux_lemma => kernel_rfl) (fun _ _ _ h => h) (by rfl) hS ?_
                intro l' hl
                dsimp only [List.set_cons_succ, List.set_cons_zero] at hl
                subst hl
                refine anyX_takeUL 21 rfl rfl (by as_aux_lemma => kernel_rfl) (by as_aux_lemma => kernel_rfl) (by as_aux_lemma => kernel_rfl) (by as_aux_lemma => kernel_rfl) (by as_aux_lemma => kernel_rfl) (fun _ _ _ h => h) (by rfl) hS ?_
                intro l' hl
                dsimp only [List.set_cons_succ, List.set_cons_zero] at hl
                subst hl
                refine anyX_takeUL 22 rfl rfl (by as_aux_lemma => kernel_rfl) (by as_aux_lemma => kernel_rfl) (by as_aux_lemma => kernel_rfl) (by as_aux_lemma => kernel_rfl) (by as_aux_lemma => kernel_rfl) (fun _ _ _ h => h) (by rfl) hS ?_
                intro l' hl
                dsimp only [List.set_cons_succ, List.set_cons_zero] at hl
                subst hl
                refine anyX_takeUL 23 rfl rfl (by as_aux_lemma => kernel_rfl) (by as_aux_lemma => kernel_rfl) (by as_aux_lemma => kernel_rfl) (by as_aux_lemma => kernel_rfl) (by as_aux_lemma => kernel_rfl) (fun _ _ _ h => h) (by rfl) hS ?_
                intro l' hl
                dsimp only [List.set_cons_succ, List.set_cons_zero] at hl
                subst hl
                refine anyX_takeUL 24 rfl rfl (by as_aux_lemma => kernel_rfl) (by as_aux_lemma => kernel_rfl) (by as_aux_lemma => kernel_rfl) (by as_aux_lemma => kernel_rfl) (by as_aux_lemma => kernel_rfl) (fun _ _ _ h => h) (by rfl) hS ?_
                intro l' hl
                dsimp only [List.set_cons_succ, List.set_cons_zero] at hl
                subst hl
                refine anyX_takeUL 25 rfl rfl (by as_aux_lemma => kernel_rfl) (by as_aux_lemma => kernel_rfl) (by as_aux_lemma => kernel_rfl) (by as_aux_lemma => kernel_rfl) (by as_aux_lemma => kernel_rfl) (fun _ _ _ h => h) (by rfl) hS ?_
                intro l' hl
                dsimp only [List.set_cons_succ, List.set_cons_zero] at hl
                subst hl
                refine anyX_takeUL 26 rfl rfl (by as_aux_lemma => kernel_rfl) (by as_aux_lemma => kernel_rfl) (by as_aux_lemma => kernel_rfl) (by as_aux_lemma => kernel_rfl) (by as_aux_lemma => kernel_rfl) (fun _ _ _ h => h) (by rfl) hS ?_
                intro l' hl
                dsimp only [List.set_cons_succ, List.set_cons_zero] at hl
                subst hl
                refine anyX_takeUL 27 rfl rfl (by as_aux_lemma => kernel_rfl) (by as_aux_lemma => kernel_rfl) (by as_aux_lemma => kernel_rfl) (by as_aux_lemma => kernel_rfl) (by as_aux_lemma => kernel_rfl) (fun _ _ _ h => h) (by rfl) hS ?_
                intro l' hl
                dsimp only [List.set_cons_succ, List.set_cons_zero] at hl
                subst hl
                refine anyX_takeUL 28 rfl rfl (by as_aux_lemma => kernel_rfl) (by as_aux_lemma => kernel_rfl) (by as_aux_lemma => kernel_rfl) (by as_aux_lemma => kernel_rfl) (by as_aux_lemma => kernel_rfl) (fun _ _ _ h => h) (by rfl) hS ?_
                intro l' hl
                dsimp only [List.set_cons_succ, List.set_cons_zero] at hl
                subst hl
                refine anyX_takeUL 29 rfl rfl (by as_aux_lemma => kernel_rfl) (by as_aux_lemma => kernel_rfl) (by as_aux_lemma => kernel_rfl) (by as_aux_lemma => kernel_rfl) (by as_aux_lemma => kernel_rfl) (fun _ _ _ h => h) (by rfl) hS ?_
                intro l' hl
                dsimp only [List.set_cons_succ, List.set_cons_zero] at hl
                subst hl
                refine anyX_takeWL 30 (v := ?_) rfl rfl (by as_aux_lemma => kernel_rfl) (by as_aux_lemma => kernel_rfl) (by as_aux_lemma => kernel_rfl) (by as_aux_lemma => kernel_rfl) (by as_aux_lemma => kernel_rfl) (fun _ _ _ h => h) (by rfl) ?_ hS ?_
                rotate_left
                · intro W' hW'
                  obtain s0 := hW'
                  all_goals (go_simp; first | done | rfl)
                intro l' hl
                dsimp only [List.set_cons_succ, List.set_cons_zero] at hl
                subst hl
                refine anyX_takeNL 31 (v := ?_) rfl rfl (by as_aux_lemma => kernel_rfl) (by as_aux_lemma => kernel_rfl) (by as_aux_lemma => kernel_rfl) (by as_aux_lemma => kernel_rfl) (by as_aux_lemma => kernel_rfl) (fun _ _ _ h => h) rfl ?_ hS ?_
                rotate_left
                · intro W' hW'
                  obtain s0 := hW'
                  all_goals (go_simp; first | done | rfl)
                intro l' hl
                dsimp only [List.set_cons_succ, List.set_cons_zero] at hl
                subst hl
                refine anyX_takeNL 32 (v := ?_) rfl rfl (by as_aux_lemma => kernel_rfl) (by as_aux_lemma => kernel_rfl) (by as_aux_lemma => kernel_rfl) (by as_aux_lemma => kernel_rfl) (by as_aux_lemma => kernel_rfl) (fun _ _ _ h => h) rfl ?_ hS ?_
                rotate_left
                · intro W' hW'
                  obtain s0 := hW'
                  all_goals (go_simp; first | done | rfl)
                intro l' hl
                dsimp only [List.set_cons_succ, List.set_cons_zero] at hl
                subst hl
                refine anyX_takeWL 33 (v := ?_) rfl rfl (by as_aux_lemma => kernel_rfl) (by as_aux_lemma => kernel_rfl) (by as_aux_lemma => kernel_rfl) (by as_aux_lemma => kernel_rfl) (by as_aux_lemma => kernel_rfl) (fun _ _ _ h => h) (by rfl) ?_ hS ?_
                rotate_left
                · intro W' hW'
                  obtain s0 := hW'
                  all_goals (go_simp; first | done | rfl)
                intro l' hl
                dsimp only [List.set_cons_succ, List.set_cons_zero] at hl
                subst hl
                refine anyX_takeWL 34 (v := ?_) rfl rfl (by as_aux_lemma => kernel_rfl) (by as_aux_lemma => kernel_rfl) (by as_aux_lemma => kernel_rfl) (by as_aux_lemma => kernel_rfl) (by as_aux_lemma => kernel_rfl) (fun _ _ _ h => h) (by rfl) ?_ hS ?_
                rotate_left
                · intro W' hW'
                  obtain s0 := hW'
                  all_goals (go_simp; first | done | rfl)
                intro l' hl
                dsimp only [List.set_cons_succ, List.set_cons_zero] at hl
                subst hl
                refine anyX_takeWL 35 (v := ?_) rfl rfl (by as_aux_lemma => kernel_rfl) (by as_aux_lemma => kernel_rfl) (by as_aux_lemma => kernel_rfl) (by as_aux_lemma => kernel_rfl) (by as_aux_lemma => kernel_rfl) (fun _ _ _ h => h) (by rfl) ?_ hS ?_
                rotate_left
                · intro W' hW'
                  obtain s0 := hW'
                  all_goals (go_simp; first | done | rfl)
                intro l' hl
                dsimp only [List.set_cons_succ, List.set_cons_zero] at hl
                subst hl
                refine anyX_takeWL 36 (v := ?_) rfl rfl (by as_aux_lemma => kernel_rfl) (by as_aux_lemma => kernel_rfl) (by as_aux_lemma => kernel_rfl) (by as_aux_lemma => kernel_rfl) (by as_aux_lemma => kernel_rfl) (fun _ _ _ h => h) (by rfl) ?_ hS ?_
                rotate_left
                · intro W' hW'
                  obtain s0 := hW'
                  all_goals (go_simp; first | done | rfl)
                intro l' hl
                dsimp only [List.set_cons_succ, List.set_cons_zero] at hl
                subst hl
                refine anyX_takeWL 37 (v := ?_) rfl rfl (by as_aux_lemma => kernel_rfl) (by as_aux_lemma => kernel_rfl) (by as_aux_lemma => kernel_rfl) (by as_aux_lemma => kernel_rfl) (by as_aux_lemma => kernel_rfl) (fun _ _ _ h => h) (by rfl) ?_ hS ?_
                rotate_left
                · intro W' hW'
                  obtain s0 := hW'
                  all_goals (go_simp; first | done | rfl)
                intro l' hl
                dsimp only [List.set_cons_succ, List.set_cons_zero] at hl
                subst hl
                refine anyX_takeWL 38 (v := ?_) rfl rfl (by as_aux_lemma => kernel_rfl) (by as_aux_lemma => kernel_rfl) (by as_aux_lemma => kernel_rfl) (by as_aux_lemma => kernel_rfl) (by as_aux_lemma => kernel_rfl) (fun _ _ _ h => h) (by rfl) ?_ hS ?_
                rotate_left
                · intro W' hW'
                  obtain s0 := hW'
                  all_goals (go_simp; first | done | rfl)
                intro l' hl
                dsimp only [List.set_cons_succ, List.set_cons_zero] at hl
                subst hl
                refine anyX_takeWL 40 (v := ?_) rfl rfl (by as_aux_lemma => kernel_rfl) (by as_aux_lemma => kernel_rfl) (by as_aux_lemma => kernel_rfl) (by as_aux_lemma => kernel_rfl) (by as_aux_lemma => kernel_rfl) (fun _ _ _ h => h) (by rfl) ?_ hS ?_
                rotate_left
                · intro W' hW'
                  obtain s0 := hW'
                  all_goals (go_simp; first | done | rfl)
                intro l' hl
                dsimp only [List.set_cons_succ, List.set_cons_zero] at hl
                subst hl
                refine anyX_oneW (i := 39) (by kernel_rfl) rfl (by rfl) fun K' hK' => ?_
                unfold Oper.wp
                go_simp
                clear hS
                clear o2
                refine (free w122 ow121 [1, 1] g us' C T hT o.res).mono ?_
                rw [Hfq.out]
                rintro e w123 ⟨rfl, bb⟩
                have nn := bb.nw ow121
                replace hT := hT.new_ nn
                replace hl := hl.new_ nn
                replace ho := ho.new_ nn
                replace t := t.trans (nn.turn [1])
                clear nn
                clear bb
                have o2 := ho.get 2 rfl
                simp only [Nat.zero_add] at o2
                have hS : (fun W' : World => W'.cell? ⟨gx, 2, none⟩ = some (.int .i64 o.res)) w123 := o2
                refine hK' _ _ (fun _ => hS) ?_
                clear hK' K'
                refine anyX_takeWL 41 (v := ?_) rfl rfl (by as_aux_lemma => kernel_rfl) (by as_aux_lemma => kernel_rfl) (by as_aux_lemma => kernel_rfl) (by as_aux_lemma => kernel_rfl) (by as_aux_lemma => kernel_rfl) (fun _ _ _ h => h) (by rfl) ?_ hS ?_
                rotate_left
                · intro W' hW'
                  obtain s0 := hW'
                  all_goals (go_simp; first | done | rfl)
                intro l' hl
                dsimp only [List.set_cons_succ, List.set_cons_zero] at hl
                subst hl
                refine anyX_takeWL 42 (v := ?_) rfl rfl (by as_aux_lemma => kernel_rfl) (by as_aux_lemma => kernel_rfl) (by as_aux_lemma => kernel_rfl) (by as_aux_lemma => kernel_rfl) (by as_aux_lemma => kernel_rfl) (fun _ _ _ h => h) (by rfl) ?_ hS ?_
                rotate_left
                · intro W' hW'
                  obtain s0 := hW'
                  all_goals (go_simp; first | done | rfl)
                intro l' hl
                dsimp only [List.set_cons_succ, List.set_cons_zero] at hl
                subst hl
                refine anyX_takeNL 43 (v := ?_) rfl rfl (by as_aux_lemma => kernel_rfl) (by as_aux_lemma => kernel_rfl) (by as_aux_lemma => kernel_rfl) (by as_aux_lemma => kernel_rfl) (by as_aux_lemma => kernel_rfl) (fun _ _ _ h => h) rfl ?_ hS ?_
                rotate_left
                · intro W' hW'
                  obtain s0 := hW'
                  all_goals (go_simp; first | done | rfl)
                intro l' hl
                dsimp only [List.set_cons_succ, List.set_cons_zero] at hl
                subst hl
                refine anyX_done (by kernel_rfl) ?_ _
                refine NoPanic.normal ?_
                clear hS
                clear o2
                go_wp2_with fail
                go_roundg (ys.length - (k + 1))
                case measure => have := Hgk.out; omega
                case rel => exact ⟨k + 1, ow121, C, T, rfl, by omega, by go_num, hT, hl, t⟩
          · have b0 : (o.kind == 0) = false := beq_eq_false_iff_ne.2 k0
            by_cases k1 : o.kind = 1
            · as_aux_lemma =>
              have b1 : (o.kind == 1) = true := beq_iff_eq.2 k1
              go_upto_region 25 with fail
              clear o0 k0 b0 k1 b1
              go_cut [8, 15] from 167 to 182 (fun y x wx => y = .bool (inB us' o) ∧ uwMid1 w g gx (.slice Al us'.length cL) (.slice A4 (locksOf T o.job).length c4) us' C T o x wx)
              case first => as_aux_lemma =>
                have hE := unlockE_iff (U := us') (T := T) o.job o.res
                cases hin : inB us' o with
                | false =>
                  have HE := Lib.hid (show Value.bool false = .bool (decide (unlockE us' T o.job o.res = 0)) from congrArg Value.bool (decide_eq_false (fun h => by
                    obtain ⟨h1, h2, -⟩ := hE.1 h
                    obtain ⟨r, h3, h4, -⟩ := known_yes h2
                    have := (inB_iff us' o).2 ⟨h1, by omega, by omega⟩
                    rw [hin] at this
                    cases this)).symm)
                  have Hin := Lib.hid hin
                  clear hE hin
                  as_aux_lemma =>
                    refine plain_regionN (fun W' : World => W'.cell? ⟨gx, 2, none⟩ = some (.int .i64 o.res)) [] (by kernel_rfl) ?_
                    have nn : New w23 ow23 w23.drew ow23 := (New.refl _ _).drew
                    replace hT := hT.new_ nn
                    replace hl := hl.new_ nn
                    replace ho := ho.new_ nn
                    replace hw := hw.new_ nn
                    replace t := t.trans (nn.turn [1])
                    clear nn
                    generalize w23.drew = w61 at *
                    have o2 := ho.get 2 rfl
                    simp only [Nat.zero_add] at o2
                    have hS : (fun W' : World => W'.cell? ⟨gx, 2, none⟩ = some (.int .i64 o.res)) w61 := o2
                    refine anyX_takeNL 0 (v := ?_) rfl rfl (by as_aux_lemma => kernel_rfl) (by as_aux_lemma => kernel_rfl) (by as_aux_lemma => kernel_rfl) (by as_aux_lemma => kernel_rfl) (by as_aux_lemma => kernel_rfl) (fun _ _ _ h => h) rfl ?_ hS ?_
                    rotate_left
                    · intro W' hW'
                      obtain s0 := hW'
                      all_goals (go_simp; first | done | rfl)
                    intro l' hl
                    dsimp only [List.set_cons_succ, List.set_cons_zero] at hl
                    subst hl
                    refine anyX_takeNL 1 (v := ?_) rfl rfl (by as_aux_lemma => kernel_rfl) (by as_aux_lemma => kernel_rfl) (by as_aux_lemma => kernel_rfl) (by as_aux_lemma => kernel_rfl) (by as_aux_lemma => kernel_rfl) (fun _ _ _ h => h) rfl ?_ hS ?_
                    rotate_left
                    · intro W' hW'
                      obtain s0 := hW'
                      all_goals (go_simp; first | done | rfl)
                    intro l' hl
                    dsimp only [List.set_cons_succ, List.set_cons_zero] at hl
                    subst hl
                    refine anyX_takeUL 2 rfl rfl (by as_aux_lemma => kernel_rfl) (by as_aux_lemma => kernel_rfl) (by as_aux_lemma => kernel_rfl) (by as_aux_lemma => kernel_rfl) (by as_aux_lemma => kernel_rfl) (fun _ _ _ h => h) (by rfl) hS ?_
                    intro l' hl
                    dsimp only [List.set_cons_succ, List.set_cons_zero] at hl
                    subst hl
                    refine anyX_takeUL 3 rfl rfl (by as_aux_lemma => kernel_rfl) (by as_aux_lemma => kernel_rfl) (by as_aux_lemma => kernel_rfl) (by as_aux_lemma => kernel_rfl) (by as_aux_lemma => kernel_rfl) (fun _ _ _ h => h) (by rfl) hS ?_
                    intro l' hl
                    dsimp only [List.set_cons_succ, List.set_cons_zero] at hl
                    subst hl
                    refine anyX_takeNL 4 (v := ?_) rfl rfl (by as_aux_lemma => kernel_rfl) (by as_aux_lemma => kernel_rfl) (by as_aux_lemma => kernel_rfl) (by as_aux_lemma => kernel_rfl) (by as_aux_lemma => kernel_rfl) (fun _ _ _ h => h) rfl ?_ hS ?_
                    rotate_left
                    · intro W' hW'
                      obtain s0 := hW'
                      all_goals (go_simp; first | done | rfl)
                    intro l' hl
                    dsimp only [List.set_cons_succ, List.set_cons_zero] at hl
                    subst hl
                    refine anyX_takeNL 5 (v := ?_) rfl rfl (by as_aux_lemma => kernel_rfl) (by as_aux_lemma => kernel_rfl) (by as_aux_lemma => kernel_rfl) (by as_aux_lemma => kernel_rfl) (by as_aux_lemma => kernel_rfl) (fun _ _ _ h => h) rfl ?_ hS ?_
                    rotate_left
                    · intro W' hW'
                      obtain s0 := hW'
                      all_goals (go_simp; first | done | rfl)
                    intro l' hl
                    dsimp only [List.set_cons_succ, List.set_cons_zero] at hl
                    subst hl
                    refine anyX_takeUL 6 rfl rfl (by as_aux_lemma => kernel_rfl) (by as_aux_lemma => kernel_rfl) (by as_aux_lemma => kernel_rfl) (by as_aux_lemma => kernel_rfl) (by as_aux_lemma => kernel_rfl) (fun _ _ _ h => h) (by rfl) hS ?_
                    intro l' hl
                    dsimp only [List.set_cons_succ, List.set_cons_zero] at hl
                    subst hl
                    refine anyX_takeUL 7 rfl rfl (by as_aux_lemma => kernel_rfl) (by as_aux_lemma => kernel_rfl) (by as_aux_lemma => kernel_rfl) (by as_aux_lemma => kernel_rfl) (by as_aux_lemma => kernel_rfl) (fun _ _ _ h => h) (by rfl) hS ?_
                    intro l' hl
                    dsimp only [List.set_cons_succ, List.set_cons_zero] at hl
                    subst hl
                    refine anyX_takeUL 8 rfl rfl (by as_aux_lemma => kernel_rfl) (by as_aux_lemma => kernel_rfl) (by as_aux_lemma => kernel_rfl) (by as_aux_lemma => kernel_rfl) (by as_aux_lemma => kernel_rfl) (fun _ _ _ h => h) (by rfl) hS ?_
                    intro l' hl
                    dsimp only [List.set_cons_succ, List.set_cons_zero] at hl
                    subst hl
                    refine anyX_takeUL 9 rfl rfl (by as_aux_lemma => kernel_rfl) (by as_aux_lemma => kernel_rfl) (by as_aux_lemma => kernel_rfl) (by as_aux_lemma => kernel_rfl) (by as_aux_lemma => kernel_rfl) (fun _ _ _ h => h) (by rfl) hS ?_
                    intro l' hl
                    dsimp only [List.set_cons_succ, List.set_cons_zero] at hl
                    subst hl
                    refine anyX_takeUL 10 rfl rfl (by as_aux_lemma => kernel_rfl) (by as_aux_lemma => kernel_rfl) (by as_aux_lemma => kernel_rfl) (by as_aux_lemma => kernel_rfl) (by as_aux_lemma => kernel_rfl) (fun _ _ _ h => h) (by rfl) hS ?_
                    intro l' hl
                    dsimp only [List.set_cons_succ, List.set_cons_zero] at hl
                    subst hl
                    refine anyX_takeUL 11 rfl rfl (by as_aux_lemma => kernel_rfl) (by as_aux_lemma => kernel_rfl) (by as_aux_lemma => kernel_rfl) (by as_aux_lemma => kernel_rfl) (by as_aux_lemma => kernel_rfl) (fun _ _ _ h => h) (by rfl) hS ?_
                    intro l' hl
                    dsimp only [List.set_cons_succ, List.set_cons_zero] at hl
                    subst hl
                    refine anyX_takeUL 12 rfl rfl (by as_aux_lemma => kernel_rfl) (by as_aux_lemma => kernel_rfl) (by as_aux_lemma => kernel_rfl) (by as_aux_lemma => kernel_rfl) (by as_aux_lemma => kernel_rfl) (fun _ _ _ h => h) (by rfl) hS ?_
                    intro l' hl
                    dsimp only [List.set_cons_succ, List.set_cons_zero] at hl
                    subst hl
                    refine anyX_takeUL 13 rfl rfl (by as_aux_lemma => kernel_rfl) (by as_aux_lemma => kernel_rfl) (by as_aux_lemma => kernel_rfl) (by as_aux_lemma => kernel_rfl) (by as_aux_lemma => kernel_rfl) (fun _ _ _ h => h) (by rfl) hS ?_
                    intro l' hl
                    dsimp only [List.set_cons_succ, List.set_cons_zero] at hl
                    subst hl
                    refine anyX_takeUL 14 rfl rfl (by as_aux_lemma => kernel_rfl) (by as_aux_lemma => kernel_rfl) (by as_aux_lemma => kernel_rfl) (by as_aux_lemma => kernel_rfl) (by as_aux_lemma => kernel_rfl) (fun _ _ _ h => h) (by rfl) hS ?_
                    intro l' hl
                    dsimp only [List.set_cons_succ, List.set_cons_zero] at hl
                    subst hl
                    refine anyX_takeNL 15 (v := ?_) rfl rfl (by as_aux_lemma => kernel_rfl) (by as_aux_lemma => kernel_rfl) (by as_aux_lemma => kernel_rfl) (by as_aux_lemma => kernel_rfl) (by as_aux_lemma => kernel_rfl) (fun _ _ _ h => h) rfl ?_ hS ?_
                    rotate_left
                    · intro W' hW'
                      obtain s0 := hW'
                      all_goals (go_simp; first | done | rfl)
                    intro l' hl
                    dsimp only [List.set_cons_succ, List.set_cons_zero] at hl
                    subst hl
                    refine anyX_takeNL 16 (v := ?_) rfl rfl (by as_aux_lemma => kernel_rfl) (by as_aux_lemma => kernel_rfl) (by as_aux_lemma => kernel_rfl) (by as_aux_lemma => kernel_rfl) (by as_aux_lemma => kernel_rfl) (fun _ _ _ h => h) rfl ?_ hS ?_
                    rotate_left
                    · intro W' hW'
                      obtain s0 := hW'
                      all_goals (go_simp; first | done | rfl)
                    intro l' hl
                    dsimp only [List.set_cons_succ, List.set_cons_zero] at hl
                    subst hl
                    refine anyX_done (by kernel_rfl) ?_ _
                    refine NoPanic.normal ?_
                    go_wp2_with fail
                    go_meet
                    exact ⟨congrArg Value.bool Hin.out.symm, ow23, HE.out, hT, hl, hw, ho, t⟩
                | true =>
                  obtain ⟨q0, ir0, ir1⟩ := (inB_iff us' o).1 hin
                  have hkn : known us' o.res = true := decide_eq_true ⟨ir0, ir1⟩
                  have Hin := Lib.hid hin
                  clear hin
                  cases hgl : (locksOf T o.job).getLast? with
                  | none =>
                    have hn : locksOf T o.job = [] := List.getLast?_eq_none_iff.1 hgl
                    have im0 : ¬ 0 < (locksOf T o.job).length := by rw [hn]; decide
                    have im : ¬ 0 < ((locksOf T o.job).length : Int) := by omega
                    have im9 : decide (0 < (locksOf T o.job).length) = false := decide_eq_false im0
                    have HE := Lib.hid (show Value.bool false = .bool (decide (unlockE us' T o.job o.res = 0)) from congrArg Value.bool (decide_eq_false (fun h => by
                      obtain ⟨-, -, ls, l, e, -⟩ := hE.1 h
                      rw [hn] at e
                      simp at e)).symm)
                    clear hE hn hgl
                    as_aux_lemma =>
                      refine plain_regionN (fun W' : World => W'.cell? ⟨gx, 2, none⟩ = some (.int .i64 o.res)) [] (by kernel_rfl) ?_
                      have nn : New w23 ow23 w23.drew ow23 := (New.refl _ _).drew
                      replace hT := hT.new_ nn
                      replace hl := hl.new_ nn
                      replace ho := ho.new_ nn
                      replace hw := hw.new_ nn
                      replace t := t.trans (nn.turn [1])
                      clear nn
                      generalize w23.drew = w71 at *
                      have o2 := ho.get 2 rfl
                      simp only [Nat.zero_add] at o2
                      have hS : (fun W' : World => W'.cell? ⟨gx, 2, none⟩ = some (.int .i64 o.res)) w71 := o2
                      refine anyX_takeNL 0 (v := ?_) rfl rfl (by as_aux_lemma => kernel_rfl) (by as_aux_lemma => kernel_rfl) (by as_aux_lemma => kernel_rfl) (by as_aux_lemma => kernel_rfl) (by as_aux_lemma => kernel_rfl) (fun _ _ _ h => h) rfl ?_ hS ?_
                      rotate_left
                      · intro W' hW'
                        obtain s0 := hW'
                        all_goals (go_simp; first | done | rfl)
                      intro l' hl
                      dsimp only [List.set_cons_succ, List.set_cons_zero] at hl
                      subst hl
                      refine anyX_takeNL 1 (v := ?_) rfl rfl (by as_aux_lemma => kernel_rfl) (by as_aux_lemma => kernel_rfl) (by as_aux_lemma => kernel_rfl) (by as_aux_lemma => kernel_rfl) (by as_aux_lemma => kernel_rfl) (fun _ _ _ h => h) rfl ?_ hS ?_
                      rotate_left
                      · intro W' hW'
                        obtain s0 := hW'
                        all_goals (go_simp; first | done | rfl)
                      intro l' hl
                      dsimp only [List.set_cons_succ, List.set_cons_zero] at hl
                      subst hl
                      refine anyX_takeWL 2 (v := ?_) rfl rfl (by as_aux_lemma => kernel_rfl) (by as_aux_lemma => kernel_rfl) (by as_aux_lemma => kernel_rfl) (by as_aux_lemma => kernel_rfl) (by as_aux_lemma => kernel_rfl) (fun _ _ _ h => h) (by rfl) ?_ hS ?_
                      rotate_left
                      · intro W' hW'
                        obtain s0 := hW'
                        all_goals (go_simp; first | done | rfl)
                      intro l' hl
                      dsimp only [List.set_cons_succ, List.set_cons_zero] at hl
                      subst hl
                      refine anyX_takeWL 3 (v := ?_) rfl rfl (by as_aux_lemma => kernel_rfl) (by as_aux_lemma => kernel_rfl) (by as_aux_lemma => kernel_rfl) (by as_aux_lemma => kernel_rfl) (by as_aux_lemma => kernel_rfl) (fun _ _ _ h => h) (by rfl) ?_ hS ?_
                      rotate_left
                      · intro W' hW'
                        obtain s0 := hW'
                        all_goals (go_simp; first | done | rfl)
                      intro l' hl
                      dsimp only [List.set_cons_succ, List.set_cons_zero] at hl
                      subst hl
                      refine anyX_takeNL 4 (v := ?_) rfl rfl (by as_aux_lemma => kernel_rfl) (by as_aux_lemma => kernel_rfl) (by as_aux_lemma => kernel_rfl) (by as_aux_lemma => kernel_rfl) (by as_aux_lemma => kernel_rfl) (fun _ _ _ h => h) rfl ?_ hS ?_
                      rotate_left
                      · intro W' hW'
                        obtain s0 := hW'
                        all_goals (go_simp; first | done | rfl)
                      intro l' hl
                      dsimp only [List.set_cons_succ, List.set_cons_zero] at hl
                      subst hl
                      refine anyX_takeNL 5 (v := ?_) rfl rfl (by as_aux_lemma => kernel_rfl) (by as_aux_lemma => kernel_rfl) (by as_aux_lemma => kernel_rfl) (by as_aux_lemma => kernel_rfl) (by as_aux_lemma => kernel_rfl) (fun _ _ _ h => h) rfl ?_ hS ?_
                      rotate_left
                      · intro W' hW'
                        obtain s0 := hW'
                        all_goals (go_simp; first | done | rfl)
                      intro l' hl
                      dsimp only [List.set_cons_succ, List.set_cons_zero] at hl
                      subst hl
                      refine anyX_takeUL 6 rfl rfl (by as_aux_lemma => kernel_rfl) (by as_aux_lemma => kernel_rfl) (by as_aux_lemma => kernel_rfl) (by as_aux_lemma => kernel_rfl) (by as_aux_lemma => kernel_rfl) (fun _ _ _ h => h) (by rfl) hS ?_
                      intro l' hl
                      dsimp only [List.set_cons_succ, List.set_cons_zero] at hl
                      subst hl
                      refine anyX_takeUL 7 rfl rfl (by as_aux_lemma => kernel_rfl) (by as_aux_lemma => kernel_rfl) (by as_aux_lemma => kernel_rfl) (by as_aux_lemma => kernel_rfl) (by as_aux_lemma => kernel_rfl) (fun _ _ _ h => h) (by rfl) hS ?_
                      intro l' hl
                      dsimp only [List.set_cons_succ, List.set_cons_zero] at hl
                      subst hl
                      refine anyX_takeUL 8 rfl rfl (by as_aux_lemma => kernel_rfl) (by as_aux_lemma => kernel_rfl) (by as_aux_lemma => kernel_rfl) (by as_aux_lemma => kernel_rfl) (by as_aux_lemma => kernel_rfl) (fun _ _ _ h => h) (by rfl) hS ?_
                      intro l' hl
                      dsimp only [List.set_cons_succ, List.set_cons_zero] at hl
                      subst hl
                      refine anyX_takeUL 9 rfl rfl (by as_aux_lemma => kernel_rfl) (by as_aux_lemma => kernel_rfl) (by as_aux_lemma => kernel_rfl) (by as_aux_lemma => kernel_rfl) (by as_aux_lemma => kernel_rfl) (fun _ _ _ h => h) (by rfl) hS ?_
                      intro l' hl
                      dsimp only [List.set_cons_succ, List.set_cons_zero] at hl
                      subst hl
                      refine anyX_takeUL 10 rfl rfl (by as_aux_lemma => kernel_rfl) (by as_aux_lemma => kernel_rfl) (by as_aux_lemma => kernel_rfl) (by as_aux_lemma => kernel_rfl) (by as_aux_lemma => kernel_rfl) (fun _ _ _ h => h) (by rfl) hS ?_
                      intro l' hl
                      dsimp only [List.set_cons_succ, List.set_cons_zero] at hl
                      subst hl
                      refine anyX_takeUL 11 rfl rfl (by as_aux_lemma => kernel_rfl) (by as_aux_lemma => kernel_rfl) (by as_aux_lemma => kernel_rfl) (by as_aux_lemma => kernel_rfl) (by as_aux_lemma => kernel_rfl) (fun _ _ _ h => h) (by rfl) hS ?_
                      intro l' hl
                      dsimp only [List.set_cons_succ, List.set_cons_zero] at hl
                      subst hl
                      refine anyX_takeUL 12 rfl rfl (by as_aux_lemma => kernel_rfl) (by as_aux_lemma => kernel_rfl) (by as_aux_lemma => kernel_rfl) (by as_aux_lemma => kernel_rfl) (by as_aux_lemma => kernel_rfl) (fun _ _ _ h => h) (by rfl) hS ?_
                      intro l' hl
                      dsimp only [List.set_cons_succ, List.set_cons_zero] at hl
                      subst hl
                      refine anyX_takeUL 13 rfl rfl (by as_aux_lemma => kernel_rfl) (by as_aux_lemma => kernel_rfl) (by as_aux_lemma => kernel_rfl) (by as_aux_lemma => kernel_rfl) (by as_aux_lemma => kernel_rfl) (fun _ _ _ h => h) (by rfl) hS ?_
                      intro l' hl
                      dsimp only [List.set_cons_succ, List.set_cons_zero] at hl
                      subst hl
                      refine anyX_takeUL 14 rfl rfl (by as_aux_lemma => kernel_rfl) (by as_aux_lemma => kernel_rfl) (by as_aux_lemma => kernel_rfl) (by as_aux_lemma => kernel_rfl) (by as_aux_lemma => kernel_rfl) (fun _ _ _ h => h) (by rfl) hS ?_
                      intro l' hl
                      dsimp only [List.set_cons_succ, List.set_cons_zero] at hl
                      subst hl
                      refine anyX_takeNL 15 (v := ?_) rfl rfl (by as_aux_lemma => kernel_rfl) (by as_aux_lemma => kernel_rfl) (by as_aux_lemma => kernel_rfl) (by as_aux_lemma => kernel_rfl) (by as_aux_lemma => kernel_rfl) (fun _ _ _ h => h) rfl ?_ hS ?_
                      rotate_left
                      · intro W' hW'
                        obtain s0 := hW'
                        all_goals (go_simp; first | done | rfl)
                      intro l' hl
                      dsimp only [List.set_cons_succ, List.set_cons_zero] at hl
                      subst hl
                      refine anyX_takeNL 16 (v := ?_) rfl rfl (by as_aux_lemma => kernel_rfl) (by as_aux_lemma => kernel_rfl) (by as_aux_lemma => kernel_rfl) (by as_aux_lemma => kernel_rfl) (by as_aux_lemma => kernel_rfl) (fun _ _ _ h => h) rfl ?_ hS ?_
                      rotate_left
                      · intro W' hW'
                        obtain s0 := hW'
                        all_goals (go_simp; first | done | rfl)
                      intro l' hl
                      dsimp only [List.set_cons_succ, List.set_cons_zero] at hl
                      subst hl
                      refine anyX_done (by kernel_rfl) ?_ _
                      refine NoPanic.normal ?_
                      go_wp2_with fail
                      go_meet
                      exact ⟨congrArg Value.bool Hin.out.symm, ow23, HE.out, hT, hl, hw, ho, t⟩
                  | some l =>
                    obtain ⟨ls, hn⟩ := List.getLast?_eq_some_iff.1 hgl
                    have HE := Lib.hid (show Value.bool (l.res == o.res) = .bool (decide (unlockE us' T o.job o.res = 0)) from congrArg Value.bool (by
                      by_cases e : l.res = o.res
                      · rw [beq_iff_eq.2 e, decide_eq_true (hE.2 ⟨q0, hkn, ls, l, hn, e⟩)]
                      · rw [beq_eq_false_iff_ne.2 e, decide_eq_false (fun h => by
                          obtain ⟨-, -, ls', l', e', e2⟩ := hE.1 h
                          have h1 := congrArg List.getLast? (hn.symm.trans e')
                          simp only [List.getLast?_append, List.getLast?_singleton, Option.some_or, Option.some.injEq] at h1
                          rw [h1] at e
                          exact e e2)]))
                    obtain ⟨m', hm'⟩ : ∃ m', m' = ls.length := ⟨_, rfl⟩
                    have hll : (locksOf T o.job).length = m' + 1 := by rw [hn, List.length_append, hm']; rfl
                    have hx : (locksOf T o.job)[m']? = some l := by rw [hn, hm', List.getElem?_append_right (Nat.le_refl _), Nat.sub_self]; rfl
                    have im : 0 < ((locksOf T o.job).length : Int) := by omega
                    have im0 : 0 < (locksOf T o.job).length := by omega
                    have im9 : decide (0 < (locksOf T o.job).length) = true := decide_eq_true im0
                    have im' : ((locksOf T o.job).length : Int) - 1 = (m' : Int) := by omega
                    have im2 : (m' : Int) < ((locksOf T o.job).length : Int) := by omega
                    have im3 : IntKind.i64.wrap (m' : Int) = (m' : Int) := by rw [IntKind.wrap_i64]; omega
                    have im4 : m' < (locksOf T o.job).length := by omega
                    obtain ⟨bq, offq, capq, hvq, -⟩ := hw.at (by omega)
                    simp only [Value.slice.injEq, true_and] at hvq
                    obtain ⟨rfl, rfl⟩ := hvq
                    have Hx := Lib.hid hx
                    clear hx hll hm'
                    clear hE hn hgl
                    as_aux_lemma =>
                      refine plain_regionN (fun W' : World => W'.cell? ⟨gx, 2, none⟩ = some (.int .i64 o.res) ∧ W'.cell? ⟨bq, offq + m' * 2, none⟩ = some (.int .i64 l.res)) [] (by kernel_rfl) ?_
                      have nn : New w23 ow23 w23.drew ow23 := (New.refl _ _).drew
                      replace hT := hT.new_ nn
                      replace hl := hl.new_ nn
                      replace ho := ho.new_ nn
                      replace hw := hw.new_ nn
                      replace t := t.trans (nn.turn [1])
                      clear nn
                      generalize w23.drew = w81 at *
                      have o2 := ho.get 2 rfl
                      simp only [Nat.zero_add] at o2
                      obtain ⟨z0, -⟩ := lock_c hw m' l Hx.out
                      have hS : (fun W' : World => W'.cell? ⟨gx, 2, none⟩ = some (.int .i64 o.res) ∧ W'.cell? ⟨bq, offq + m' * 2, none⟩ = some (.int .i64 l.res)) w81 := ⟨o2, z0⟩
                      refine anyX_takeNL 0 (v := ?_) rfl rfl (by as_aux_lemma => kernel_rfl) (by as_aux_lemma => kernel_rfl) (by as_aux_lemma => kernel_rfl) (by as_aux_lemma => kernel_rfl) (by as_aux_lemma => kernel_rfl) (fun _ _ _ h => h) rfl ?_ hS ?_
                      rotate_left
                      · intro W' hW'
                        obtain ⟨s0, s1⟩ := hW'
                        all_goals (go_simp; first | done | rfl)
                      intro l' hl
                      dsimp only [List.set_cons_succ, List.set_cons_zero] at hl
                      subst hl
                      refine anyX_takeNL 1 (v := ?_) rfl rfl (by as_aux_lemma => kernel_rfl) (by as_aux_lemma => kernel_rfl) (by as_aux_lemma => kernel_rfl) (by as_aux_lemma => kernel_rfl) (by as_aux_lemma => kernel_rfl) (fun _ _ _ h => h) rfl ?_ hS ?_
                      rotate_left
                      · intro W' hW'
                        obtain ⟨s0, s1⟩ := hW'
                        all_goals (go_simp; first | done | rfl)
                      intro l' hl
                      dsimp only [List.set_cons_succ, List.set_cons_zero] at hl
                      subst hl
                      refine anyX_takeWL 2 (v := ?_) rfl rfl (by as_aux_lemma => kernel_rfl) (by as_aux_lemma => kernel_rfl) (by as_aux_lemma => kernel_rfl) (by as_aux_lemma => kernel_rfl) (by as_aux_lemma => kernel_rfl) (fun _ _ _ h => h) (by rfl) ?_ hS ?_
                      rotate_left
                      · intro W' hW'
                        obtain ⟨s0, s1⟩ := hW'
                        all_goals (go_simp; first | done | rfl)
                      intro l' hl
                      dsimp only [List.set_cons_succ, List.set_cons_zero] at hl
                      subst hl
                      refine anyX_takeWL 3 (v := ?_) rfl rfl (by as_aux_lemma => kernel_rfl) (by as_aux_lemma => kernel_rfl) (by as_aux_lemma => kernel_rfl) (by as_aux_lemma => kernel_rfl) (by as_aux_lemma => kernel_rfl) (fun _ _ _ h => h) (by rfl) ?_ hS ?_
                      rotate_left
                      · intro W' hW'
                        obtain ⟨s0, s1⟩ := hW'
                        all_goals (go_simp; first | done | rfl)
                      intro l' hl
                      dsimp only [List.set_cons_succ, List.set_cons_zero] at hl
                      subst hl
                      refine anyX_takeNL 4 (v := ?_) rfl rfl (by as_aux_lemma => kernel_rfl) (by as_aux_lemma => kernel_rfl) (by as_aux_lemma => kernel_rfl) (by as_aux_lemma => kernel_rfl) (by as_aux_lemma => kernel_rfl) (fun _ _ _ h => h) rfl ?_ hS ?_
                      rotate_left
                      · intro W' hW'
                        obtain ⟨s0, s1⟩ := hW'
                        all_goals (go_simp; first | done | rfl)
                      intro l' hl
                      dsimp only [List.set_cons_succ, List.set_cons_zero] at hl
                      subst hl
                      refine anyX_takeNL 5 (v := ?_) rfl rfl (by as_aux_lemma => kernel_rfl) (by as_aux_lemma => kernel_rfl) (by as_aux_lemma => kernel_rfl) (by as_aux_lemma => kernel_rfl) (by as_aux_lemma => kernel_rfl) (fun _ _ _ h => h) rfl ?_ hS ?_
                      rotate_left
                      · intro W' hW'
                        obtain ⟨s0, s1⟩ := hW'
                        all_goals (go_simp; first | done | rfl)
                      intro l' hl
                      dsimp only [List.set_cons_succ, List.set_cons_zero] at hl
                      subst hl
                      refine anyX_takeWL 6 (v := ?_) rfl rfl (by as_aux_lemma => kernel_rfl) (by as_aux_lemma => kernel_rfl) (by as_aux_lemma => kernel_rfl) (by as_aux_lemma => kernel_rfl) (by as_aux_lemma => kernel_rfl) (fun _ _ _ h => h) (by rfl) ?_ hS ?_
                      rotate_left
                      · intro W' hW'
                        obtain ⟨s0, s1⟩ := hW'
                        all_goals (go_simp; first | done | rfl)
                      intro l' hl
                      dsimp only [List.set_cons_succ, List.set_cons_zero] at hl
                      subst hl
                      refine anyX_takeWL 7 (v := ?_) rfl rfl (by as_aux_lemma => kernel_rfl) (by as_aux_lemma => kernel_rfl) (by as_aux_lemma => kernel_rfl) (by as_aux_lemma => kernel_rfl) (by as_aux_lemma => kernel_rfl) (fun _ _ _ h => h) (by rfl) ?_ hS ?_
                      rotate_left
                      · intro W' hW'
                        obtain ⟨s0, s1⟩ := hW'
                        all_goals (go_simp; first | done | rfl)
                      intro l' hl
                      dsimp only [List.set_cons_succ, List.set_cons_zero] at hl
                      subst hl
                      refine anyX_takeWL 8 (v := ?_) rfl rfl (by as_aux_lemma => kernel_rfl) (by as_aux_lemma => kernel_rfl) (by as_aux_lemma => kernel_rfl) (by as_aux_lemma => kernel_rfl) (by as_aux_lemma => kernel_rfl) (fun _ _ _ h => h) (by rfl) ?_ hS ?_
                      rotate_left
                      · intro W' hW'
                        obtain ⟨s0, s1⟩ := hW'
                        all_goals (go_simp; first | done | rfl)
                      intro l' hl
                      dsimp only [List.set_cons_succ, List.set_cons_zero] at hl
                      subst hl
                      refine anyX_takeWL 9 (v := ?_) rfl rfl (by as_aux_lemma => kernel_rfl) (by as_aux_lemma => kernel_rfl) (by as_aux_lemma => kernel_rfl) (by as_aux_lemma => kernel_rfl) (by as_aux_lemma => kernel_rfl) (fun _ _ _ h => h) (by rfl) ?_ hS ?_
                      rotate_left
                      · intro W' hW'
                        obtain ⟨s0, s1⟩ := hW'
                        all_goals (go_simp; first | done | rfl)
                      intro l' hl
                      dsimp only [List.set_cons_succ, List.set_cons_zero] at hl
                      subst hl
                      refine anyX_takeWL 10 (v := ?_) rfl rfl (by as_aux_lemma => kernel_rfl) (by as_aux_lemma => kernel_rfl) (by as_aux_lemma => kernel_rfl) (by as_aux_lemma => kernel_rfl) (by as_aux_lemma => kernel_rfl) (fun _ _ _ h => h) (by rfl) ?_ hS ?_
                      rotate_left
                      · intro W' hW'
                        obtain ⟨s0, s1⟩ := hW'
                        all_goals (go_simp; first | done | rfl)
                      intro l' hl
                      dsimp only [List.set_cons_succ, List.set_cons_zero] at hl
                      subst hl
                      refine anyX_takeWL 11 (v := ?_) rfl rfl (by as_aux_lemma => kernel_rfl) (by as_aux_lemma => kernel_rfl) (by as_aux_lemma => kernel_rfl) (by as_aux_lemma => kernel_rfl) (by as_aux_lemma => kernel_rfl) (fun _ _ _ h => h) (by rfl) ?_ hS ?_
                      rotate_left
                      · intro W' hW'
                        obtain ⟨s0, s1⟩ := hW'
                        all_goals (go_simp; first | done | rfl)
                      intro l' hl
                      dsimp only [List.set_cons_succ, List.set_cons_zero] at hl
                      subst hl
                      refine anyX_takeWL 12 (v := ?_) rfl rfl (by as_aux_lemma => kernel_rfl) (by as_aux_lemma => kernel_rfl) (by as_aux_lemma => kernel_rfl) (by as_aux_lemma => kernel_rfl) (by as_aux_lemma => kernel_rfl) (fun _ _ _ h => h) (by rfl) ?_ hS ?_
                      rotate_left
                      · intro W' hW'
                        obtain ⟨s0, s1⟩ := hW'
                        all_goals (go_simp; first | done | rfl)
                      intro l' hl
                      dsimp only [List.set_cons_succ, List.set_cons_zero] at hl
                      subst hl
                      refine anyX_takeWL 13 (v := ?_) rfl rfl (by as_aux_lemma => kernel_rfl) (by as_aux_lemma => kernel_rfl) (by as_aux_lemma => kernel_rfl) (by as_aux_lemma => kernel_rfl) (by as_aux_lemma => kernel_rfl) (fun _ _ _ h => h) (by rfl) ?_ hS ?_
                      rotate_left
                      · intro W' hW'
                        obtain ⟨s0, s1⟩ := hW'
                        all_goals (go_simp; first | done | rfl)
                      intro l' hl
                      dsimp only [List.set_cons_succ, List.set_cons_zero] at hl
                      subst hl
                      refine anyX_takeWL 14 (v := ?_) rfl rfl (by as_aux_lemma => kernel_rfl) (by as_aux_lemma => kernel_rfl) (by as_aux_lemma => kernel_rfl) (by as_aux_lemma => kernel_rfl) (by as_aux_lemma => kernel_rfl) (fun _ _ _ h => h) (by rfl) ?_ hS ?_
                      rotate_left
                      · intro W' hW'
                        obtain ⟨s0, s1⟩ := hW'
                        all_goals (go_simp; first | done | rfl)
                      intro l' hl
                      dsimp only [List.set_cons_succ, List.set_cons_zero] at hl
                      subst hl
                      refine anyX_takeNL 15 (v := ?_) rfl rfl (by as_aux_lemma => kernel_rfl) (by as_aux_lemma => kernel_rfl) (by as_aux_lemma => kernel_rfl) (by as_aux_lemma => kernel_rfl) (by as_aux_lemma => kernel_rfl) (fun _ _ _ h => h) rfl ?_ hS ?_
                      rotate_left
                      · intro W' hW'
                        obtain ⟨s0, s1⟩ := hW'
                        all_goals (go_simp; first | done | rfl)
                      intro l' hl
                      dsimp only [List.set_cons_succ, List.set_cons_zero] at hl
                      subst hl
                      refine anyX_takeNL 16 (v := ?_) rfl rfl (by as_aux_lemma => kernel_rfl) (by as_aux_lemma => kernel_rfl) (by as_aux_lemma => kernel_rfl) (by as_aux_lemma => kernel_rfl) (by as_aux_lemma => kernel_rfl) (fun _ _ _ h => h) rfl ?_ hS ?_
                      rotate_left
                      · intro W' hW'
                        obtain ⟨s0, s1⟩ := hW'
                        all_goals (go_simp; first | done | rfl)
                      intro l' hl
                      dsimp only [List.set_cons_succ, List.set_cons_zero] at hl
                      subst hl
                      refine anyX_done (by kernel_rfl) ?_ _
                      refine NoPanic.normal ?_
                      go_wp2_with fail
                      go_meet
                      exact ⟨congrArg Value.bool Hin.out.symm, ow23, HE.out, hT, hl, hw, ho, t⟩
              case rest => as_aux_lemma =>
                obtain ⟨rfl, ow30, rfl, hT, hl, hw, ho, t⟩ := hcut
                obtain ⟨w30, rfl⟩ : ∃ w30 : World, w30 = wc := ⟨_, rfl⟩
                by_cases hE : unlockE us' T o.job o.res = 0
                · as_aux_lemma =>
                  obtain ⟨q0, hk, ls, l, hn, -⟩ := (unlockE_iff (U := us') (T := T) o.job o.res).1 hE
                  obtain ⟨l0, l1, l2⟩ := unlock_yes hE hn
                  rw [Hhq.out] at l1
                  rw [Hfq.out] at l2
                  have hlb : 0 ≤ l.n ∧ l.n ≤ 255 := by obtain ⟨rr, hi, -⟩ := hT; exact hi.lock_le (by rw [hn]; simp)
                  have wr1 : IntKind.i64.wrap (hq - l.n) = hq - l.n := by rw [IntKind.wrap_i64]; omega
                  have wr2 : IntKind.i64.wrap (fq + l.n) = fq + l.n := by rw [IntKind.wrap_i64]; omega
                  rw [decide_eq_true hE]
                  have HE := Lib.hid hE
                  have L0 := Lib.hid l0
                  have L1 := Lib.hid l1
                  have L2 := Lib.hid l2
                  clear hE l0 l1 l2 hk
                  obtain ⟨m', hm'⟩ : ∃ m', m' = ls.length := ⟨_, rfl⟩
                  have hll : (locksOf T o.job).length = m' + 1 := by rw [hn, List.length_append, hm']; rfl
                  have hx : (locksOf T o.job)[m']? = some l := by rw [hn, hm', List.getElem?_append_right (Nat.le_refl _), Nat.sub_self]; rfl
                  have im : 0 < ((locksOf T o.job).length : Int) := by omega
                  have im0 : 0 < (locksOf T o.job).length := by omega
                  have im9 : decide (0 < (locksOf T o.job).length) = true := decide_eq_true im0
                  have im' : ((locksOf T o.job).length : Int) - 1 = (m' : Int) := by omega
                  have im2 : (m' : Int) < ((locksOf T o.job).length : Int) := by omega
                  have im3 : IntKind.i64.wrap (m' : Int) = (m' : Int) := by rw [IntKind.wrap_i64]; omega
                  have im4 : m' < (locksOf T o.job).length := by omega
                  obtain ⟨bq, offq, capq, hvq, -⟩ := hw.at (by omega)
                  simp only [Value.slice.injEq, true_and] at hvq
                  obtain ⟨rfl, rfl⟩ := hvq
                  have Hx := Lib.hid hx
                  clear hx hll hm'
                  clear hn
                  have o1 := ho.get 1 rfl
                  have o2 := ho.get 2 rfl
                  simp only [Nat.zero_add] at o1 o2
                  go_wp2_with fail
                  refine (unlock w30 ow30 [1, 1] g us' C T hT o.job o.res).mono ?_
                  rw [HE.out, L0.out]
                  rintro e w151 ⟨ow151, rfl, hn', tt⟩
                  replace hl := hl.keep tt (by simp)
                  replace ho := ho.keep tt (by simp)
                  replace hw := hw.keep tt (by simp)
                  replace t := t.trans (tt.up (by simp))
                  clear hT tt
                  have hT := hn'
                  clear hn'
                  clear o1 o2
                  generalize unlockT us' T o.job o.res = T' at *
                  have o1 := ho.get 1 rfl
                  have o2 := ho.get 2 rfl
                  simp only [Nat.zero_add] at o1 o2
                  obtain ⟨-, z1⟩ := lock_c hw m' l Hx.out
                  go_wp2_with fail
                  refine (held w151 ow151 [1, 1] g us' C T' hT o.job o.res).mono ?_
                  rw [L1.out]
                  rintro e w152 ⟨rfl, bb⟩
                  have nn := bb.nw ow151
                  replace hT := hT.new_ nn
                  replace hl := hl.new_ nn
                  replace ho := ho.new_ nn
                  replace hw := hw.new_ nn
                  replace t := t.trans (nn.turn [1])
                  clear nn
                  clear bb
                  clear o1 o2
                  clear z1
                  have o2 := ho.get 2 rfl
                  simp only [Nat.zero_add] at o2
                  go_wp2_with fail
                  refine (free w152 ow151 [1, 1] g us' C T' hT o.res).mono ?_
                  rw [L2.out]
                  rintro e w153 ⟨rfl, bb⟩
                  have nn := bb.nw ow151
                  replace hT := hT.new_ nn
                  replace hl := hl.new_ nn
                  replace ho := ho.new_ nn
                  replace hw := hw.new_ nn
                  replace t := t.trans (nn.turn [1])
                  clear nn
                  clear bb
                  clear o2
                  go_wp2_with fail
                  go_roundg (ys.length - (k + 1))
                  case measure => have := Hgk.out; omega
                  case rel => exact ⟨k + 1, ow151, C, T', rfl, by omega, by go_num, hT, hl, t⟩
                · as_aux_lemma =>
                  have l1 := unlock_not hE
                  rw [decide_eq_false hE]
                  have L0 := Lib.hid l1.1
                  have L1 := Lib.hid l1.2
                  obtain ⟨E, hEE⟩ : ∃ E, unlockE us' T o.job o.res = E := ⟨_, rfl⟩
                  rw [hEE] at hE
                  have e9 : (E == 0) = false := beq_eq_false_iff_ne.2 hE
                  have e8 : (E != 0) = true := by simp [bne, e9]
                  have HE := Lib.hid hEE
                  clear hEE hE l1 hw
                  have o1 := ho.get 1 rfl
                  have o2 := ho.get 2 rfl
                  simp only [Nat.zero_add] at o1 o2
                  go_wp2_with fail
                  refine (unlock w30 ow30 [1, 1] g us' C T hT o.job o.res).mono ?_
                  rw [HE.out, L0.out, L1.out]
                  rintro e w151 ⟨ow151, rfl, hn', tt⟩
                  replace hl := hl.keep tt (by simp)
                  replace ho := ho.keep tt (by simp)
                  replace t := t.trans (tt.up (by simp))
                  clear hT tt
                  have hT := hn'
                  clear hn'
                  clear o1 o2
                  have o2 := ho.get 2 rfl
                  simp only [Nat.zero_add] at o2
                  go_wp2_with fail
                  refine (free w151 ow151 [1, 1] g us' C T hT o.res).mono ?_
                  rw [Hfq.out]
                  rintro e w152 ⟨rfl, bb⟩
                  have nn := bb.nw ow151
                  replace hT := hT.new_ nn
                  replace hl := hl.new_ nn
                  replace ho := ho.new_ nn
                  replace t := t.trans (nn.turn [1])
                  clear nn
                  clear bb
                  clear o2
                  go_wp2_with fail
                  go_roundg (ys.length - (k + 1))
                  case measure => have := Hgk.out; omega
                  case rel => exact ⟨k + 1, ow151, C, T, rfl, by omega, by go_num, hT, hl, t⟩
            · have b1 : (o.kind == 1) = false := beq_eq_false_iff_ne.2 k1
              by_cases k2 : o.kind = 2
              · as_aux_lemma =>
                have wr1 : IntKind.i64.wrap (fq + hq) = fq + hq := by rw [IntKind.wrap_i64]; omega
                have b2 : (o.kind == 2) = true := beq_iff_eq.2 k2
                clear hw k0 k1 k2
                clear o0
                have o0 := ho.get 0 rfl
                have o1 := ho.get 1 rfl
                simp only [Nat.zero_add] at o0 o1
                go_wp2_with fail
                refine (drop w23 ow23 [1, 1] g us' C T hT o.job).mono ?_
                rintro e w181 ⟨ow181, rfl, hn', tt⟩
                replace hl := hl.keep tt (by simp)
                replace ho := ho.keep tt (by simp)
                replace t := t.trans (tt.up (by simp))
                clear hT tt
                have hT := hn'
                clear hn'
                clear o0 o1
                have o1 := ho.get 1 rfl
                simp only [Nat.zero_add] at o1
                go_wp2_with fail
                refine (locks w181 ow181 [1, 1] g us' C (dropT o.job T) [1, 5] hT o.job).mono ?_
                rw [drop_locks, List.length_nil]
                rintro e w182 ⟨v8, ow182, rfl, hy, nn, -⟩
                replace hT := hT.new_ nn
                replace hl := hl.new_ nn
                replace ho := ho.new_ nn
                replace t := t.trans (nn.turn [1])
                clear nn
                clear o1
                obtain ⟨A8, c8, rfl, -⟩ := hy.slice
                have o2 := ho.get 2 rfl
                simp only [Nat.zero_add] at o2
                go_wp2_with fail
                refine (free w182 ow182 [1, 1] g us' C (dropT o.job T) hT o.res).mono ?_
                rw [drop_free, Hfq.out, Hhq.out]
                rintro e w183 ⟨rfl, bb⟩
                have nn := bb.nw ow182
                replace hT := hT.new_ nn
                replace hl := hl.new_ nn
                replace ho := ho.new_ nn
                replace hy := hy.new_ nn
                replace t := t.trans (nn.turn [1])
                clear nn
                clear bb
                clear o2
                go_wp2_with fail
                go_roundg (ys.length - (k + 1))
                case measure => have := Hgk.out; omega
                case rel => exact ⟨k + 1, ow182, C, _, rfl, by omega, by go_num, hT, hl, t⟩
              · as_aux_lemma =>
                have b2 : (o.kind == 2) = false := beq_eq_false_iff_ne.2 k2
                clear hw k0 k1 k2
                clear o0
                have o0 := ho.get 0 rfl
                have o1 := ho.get 1 rfl
                have o2 := ho.get 2 rfl
                have o3 := ho.get 3 rfl
                have o4 := ho.get 4 rfl
                have o5 := ho.get 5 rfl
                simp only [Nat.zero_add] at o0 o1 o2 o3 o4 o5
                go_wp2_with fail
                refine (act w23 ow23 [1, 1] g us' C T hT o).mono ?_
                rintro e w181 ⟨ow181, rfl, hn', tt⟩
                replace hl := hl.keep tt (by simp)
                replace ho := ho.keep tt (by simp)
                replace t := t.trans (tt.up (by simp))
                clear hT tt
                have hT := hn'
                clear hn'
                clear o0 o1 o2 o3 o4 o5
                go_wp2_with fail
                go_roundg (ys.length - (k + 1))
                case measure => have := Hgk.out; omega
                case rel => exact ⟨k + 1, ow181, _, _, rfl, by omega, by go_num, hT, hl, t⟩
      · obtain rfl : k = ys.length := by omega
        clear hlt Hgk
        have fin := (t.new_ ow0 [1]).below
        clear hT hl t
        go_wp2_with fail
        refine (runs wr).mono ?_
        rintro e w92 ⟨rfl, b5⟩
        have fin := fin.trans (b5.mono fin.size)
        go_wp2
        go_ret
        exact ⟨rfl, fin⟩

end UN
end Go.Proofs.Ytefagdbdimpcdaa
