/-
  LAW 5: UnitsNested: the walk.
-/
import Derived.Test.YtefagdbdimpcdaaUNp
import Derived.Test.YtefagdbdimpcdaaUAl
import Derived.Test.YtefagdbdimpcdaaUOp
import Derived.Test.YtefagdbdimpcdaaUB
import Derived.Deep.CutRange
import Derived.Deep.CutBlock
import Derived.Deep.DeepCutAuto
set_option linter.unusedVariables false
set_option linter.unusedSimpArgs false
namespace Go.Proofs.Ytefagdbdimpcdaa
open Go Go.RowKit
namespace UN

/-- What stands through all that is nested. -/
def nvS (w : World) (g g2 gx : Nat) (Vq : Value) (us C : List Int) (T Tt Tu : List Tk) (o : Op5) (wr : World) (OW : Ow) : Prop :=
  UT wr OW [1, 1] g us C Tt ∧ UT wr OW [1, 2] g2 us C Tu ∧ Row wr OW [1, 4] 51 2 Vq (locksOf T o.job).length (ELk.css (locksOf T o.job)) ∧ Cells wr OW [1, 3] gx 0 [.int .i64 o.kind, .int .i64 o.job, .int .i64 o.res, .int .i64 o.n, .int .i64 o.need, .int .i64 o.v] ∧ Turn [1] w ow0 wr OW
def nvE (w : World) (g g2 gx : Nat) (Vq : Value) (us C : List Int) (T : List Tk) (o : Op5) (tk : Value) (wr : World) : Prop :=
  ∃ (E : List Tk) (OW : Ow), tk = .int .i64 (E.length : Int) ∧ (∀ e ∈ E, e.job = o.job) ∧ nvS w g g2 gx Vq us C T (T ++ E) T o wr OW
def nvR (w : World) (g g2 gx : Nat) (Vq : Value) (us C : List Int) (T : List Tk) (o : Op5) (N gn : Nat) (tk i : Value) (wr : World) : Prop :=
  ∃ (k : Nat), gn = N - k ∧ k ≤ N ∧ i = .int .i64 (k : Int) ∧ nvE w g g2 gx Vq us C T o tk wr
def nvR2 (w : World) (g g2 gx : Nat) (Vq : Value) (us C : List Int) (T : List Tk) (o : Op5) (gn : Nat) (tk : Value) (wr : World) : Prop :=
  ∃ (E : List Tk) (OW : Ow), gn = E.length ∧ tk = .int .i64 (E.length : Int) ∧ (∀ e ∈ E, e.job = o.job) ∧ nvS w g g2 gx Vq us C T (T ++ E) T o wr OW
def nvR3 (w : World) (g g2 gx : Nat) (Vq : Value) (us C : List Int) (T : List Tk) (o : Op5) (gn : Nat) (i : Value) (wr : World) : Prop :=
  ∃ (j : Int) (Tu : List Tk) (OW : Ow), (gn : Int) = j + 1 ∧ j + 1 ≤ (locksOf T o.job).length ∧ i = .int .i64 j ∧ dropT o.job Tu = dropT o.job T ∧ locksOf Tu o.job = (locksOf T o.job).take (j + 1).toNat ∧ nvS w g g2 gx Vq us C T (dropT o.job T) Tu o wr OW

set_option maxRecDepth 100000 in
set_option maxHeartbeats 16000000 in
theorem nestedL (w : World) (v : Value) (xs : List Int) (h : EInt.In w v xs) (vs : Value) (ops : List Op5) (hs : EOp.In w vs ops) (o : Op5) (vm : Value) (mo : List Op5) (hm : EOp.In w vm mo) : Calls Try.prog 5 #[v, vs, .agg #[.int .i64 o.kind, .int .i64 o.job, .int .i64 o.res, .int .i64 o.n, .int .i64 o.need, .int .i64 o.v], vm] w fun e w' => e = .returned (.bool true) ∧ Below w.heap.size w w' := by
  obtain ⟨A, cap, rfl, hcap, hmax, hcov⟩ := h
  have Hcov := Lib.hid hcov
  have Hs := Lib.hid hs
  have Hm := Lib.hid hm
  clear hcov hs hm
  obtain ⟨gx, hgx⟩ : ∃ gx, gx = w.heap.size := ⟨_, rfl⟩
  rw [← hgx]
  go_enter Try.func5, Try.ntmps5
  go_upto_if 27 with fail
  obtain ⟨ow1, ho, nn, -⟩ := SH.add_cells w ow0 [1, 3] [.int .i64 o.kind, .int .i64 o.job, .int .i64 o.res, .int .i64 o.n, .int .i64 o.need, .int .i64 o.v] 43
  generalize w.alloc (.cells #[.int .i64 o.kind, .int .i64 o.job, .int .i64 o.res, .int .i64 o.n, .int .i64 o.need, .int .i64 o.v] 43) = w1 at *
  rw [← hgx] at ho ⊢
  have Hgx := Lib.hid hgx
  clear hgx
  have t := nn.turn [1]
  have bw : Below w.heap.size w w1 := nn.below
  clear nn
  go_cut [0] from 25 to 29 (fun s0 wx => wx = w1 ∧ s0 = .slice A (xs.take 16).length cap)
  case first => as_aux_lemma =>
    by_cases h300 : (16 : Int) < (xs.length : Int)
    · have c100 : (16 : Int) ≤ (cap : Int) := by omega
      go_wp2_with fail
      go_meet
      exact ⟨rfl, by rw [List.length_take, Nat.min_eq_left (by omega)]⟩
    · go_wp2_with fail
      go_meet
      exact ⟨rfl, by rw [List.take_of_length_le (by omega)]⟩
  case rest => as_aux_lemma =>
    obtain ⟨rfl, rfl⟩ := hcut
    have hlen : (xs.take 16).length ≤ 16 := by rw [List.length_take]; omega
    have hcov : EInt.Cov wc A (EInt.css (xs.take 16)) := by rw [EInt.css_take]; exact (Hcov.out.take _).new_ bw
    generalize xs.take 16 = us at *
    have Hc := Lib.hid hcov
    clear Hcov hcap hmax hcov bw
    obtain ⟨w1, rfl⟩ : ∃ w1 : World, w1 = wc := ⟨_, rfl⟩
    go_wp2_with (at_builtin; refine wpList_append_row rfl (.tmp 30) (.tmp 31) 38 38 rfl 3 _ 1 8 Try.underlying38 EInt.info rfl rfl (Row.new0 w1 ow1 [1, 9] 3 1) rfl ((Hc.out.new_ ((Below.refl _ _).alloc (Nat.le_refl _) _)).src Try.underlying38 cap) (by unfold maxLen; omega) (by omega) ?_)
    intro v1 w2 ow2 hl ht
    have tt := ((Turn.refl [1, 9] w1 ow1).alloc (.cells #[] 3) [1, 9]).trans ht
    try simp only [Nat.zero_add, List.nil_append] at hl
    replace ho := ho.keep tt (by simp)
    replace t := t.trans (tt.up (by simp))
    clear ht tt
    go_wp2_with fail
    refine (EOp.fewB w w2 vs ops 150 Hs.out (by omega)).mono ?_
    rintro e w3 ⟨v3, rfl, hin, rfl⟩
    obtain ⟨B, capB, rfl, -, -, hcB⟩ := hin
    have hyl : (ops.take 150).length ≤ 150 := by rw [List.length_take]; omega
    obtain ⟨ys, hys⟩ : ∃ ys, ops.take 150 = ys := ⟨_, rfl⟩
    rw [hys] at hcB hyl ⊢
    have Hys := Lib.hid hys
    have HcB := Lib.hid hcB
    clear hcB hys
    go_wp2_with fail
    refine (made w w3 ow2 [9] [1] t v1 us hl hlen (by simp) B capB ys HcB.out (by omega)).mono ?_
    rintro e w4 ⟨g, wm, om, wn, on_, ow4, rfl, hT, hl2, t1, n1, t2⟩
    replace ho := ((ho.keep t1 (by simp)).new_ n1).keep t2 (by simp)
    replace t := ((t.trans (t1.up (by simp))).trans (n1.turn [1])).trans (t2.up (by simp))
    rw [show us.length = (us.map cl).length from (List.length_map _).symm] at hl2 hT
    have hlen2 : (us.map cl).length ≤ 16 := by rw [List.length_map]; exact hlen
    have hcl := map_cl2 us
    clear hl t1 n1 t2 hlen Hc HcB
    generalize us.map cl = us' at *
    have hl := hl2
    clear hl2
    go_wp2_with fail
    refine (EOp.fewB w w4 vs ops 150 Hs.out (by omega)).mono ?_
    rintro e w5 ⟨v5, rfl, hin, rfl⟩
    obtain ⟨B, capB, rfl, -, -, hcB⟩ := hin
    rw [Hys.out] at hcB ⊢
    have HcB := Lib.hid hcB
    clear hcB
    go_wp2_with fail
    refine (made w w5 ow4 [9] [2] t v1 us' hl hlen2 (by simp) B capB ys HcB.out (by omega)).mono ?_
    rintro e w6 ⟨g2, wm, om, wn, on_, ow6, rfl, hu, hl2, t1, n1, t2⟩
    replace ho := ((ho.keep t1 (by simp)).new_ n1).keep t2 (by simp)
    replace hT := ((hT.keep t1 (fun s => by simp)).new_ n1).keep t2 (fun s => by simp)
    replace t := ((t.trans (t1.up (by simp))).trans (n1.turn [1])).trans (t2.up (by simp))
    rw [hcl] at hu
    generalize (runS us' ys (List.replicate us'.length 0, [])).1 = C at *
    generalize (runS us' ys (List.replicate us'.length 0, [])).2 = T at *
    obtain ⟨Al, cL, rfl, -⟩ := hl2.slice
    clear hl hl2 t1 n1 t2 hlen2 Hs HcB hyl hcl Hys
    have hlT : (locksOf T o.job).length ≤ 4080 := by obtain ⟨rr, hi, -⟩ := hT; exact Nat.le_trans (locks_len _ _) hi.len
    have o1 := ho.get 1 rfl
    simp only [Nat.zero_add] at o1
    go_wp2_with fail
    refine (locks w6 ow6 [1, 1] g us' C T [1, 4] hT o.job).mono ?_
    rintro e w11 ⟨v4, ow11, rfl, hw, nn, -⟩
    replace hT := hT.new_ nn
    replace hu := hu.new_ nn
    replace ho := ho.new_ nn
    replace t := t.trans (nn.turn [1])
    clear nn
    clear o1
    obtain ⟨A4, c4, rfl, -⟩ := hw.slice
    go_wp2_with fail
    refine (EOp.fewB w w11 vm mo 60 Hm.out (by omega)).mono ?_
    rintro e wz ⟨vz, rfl, hin, rfl⟩
    obtain ⟨B, capB, rfl, -, -, hcB⟩ := hin
    have HB := Lib.hid hcB
    clear hcB Hm
    have hyl : (mo.take 60).length ≤ 60 := by rw [List.length_take]; omega
    generalize mo.take 60 = ys at *
    have o1 := ho.get 1 rfl
    have o2 := ho.get 2 rfl
    have o3 := ho.get 3 rfl
    have o4 := ho.get 4 rfl
    simp only [Nat.zero_add] at o1 o2 o3 o4
    go_wp2_with fail
    refine (lock wz ow11 [1, 1] g us' C T hT o.job o.res o.n o.need).mono ?_
    rintro e w12 ⟨ow12, rfl, hn', tt⟩
    replace hu := hu.keep tt (fun s => by simp)
    replace ho := ho.keep tt (by simp)
    replace hw := hw.keep tt (by simp)
    replace t := t.trans (tt.up (by simp))
    clear hT tt
    have hT := hn'
    clear hn'
    clear o1 o2 o3 o4
    go_upto_if 64 with fail
    go_cut [12, 13] from 62 to 64 (fun tk ee wx => nvE w g g2 gx (.slice A4 (locksOf T o.job).length c4) us' C T o tk wx)
    case first => as_aux_lemma =>
      by_cases hE : lockE us' T o.job o.res o.n o.need = 0
      · have h1 : lockT us' T o.job o.res o.n o.need = T ++ [⟨o.job, o.res, o.n⟩] := by unfold lockT; rw [if_pos hE]
        rw [h1] at hT
        rw [hE]
        clear hE h1
        go_wp2_with fail
        go_meet
        exact ⟨[⟨o.job, o.res, o.n⟩], ow12, rfl, by simp, hT, hu, hw, ho, t⟩
      · rw [lock_not hE] at hT
        obtain ⟨E, hEE⟩ : ∃ E, lockE us' T o.job o.res o.n o.need = E := ⟨_, rfl⟩
        rw [hEE] at hE ⊢
        have e9 : (E == 0) = false := beq_eq_false_iff_ne.2 hE
        clear hEE hE
        go_wp2_with fail
        go_meet
        exact ⟨[], ow12, rfl, by simp, by rw [List.append_nil]; exact hT, hu, hw, ho, t⟩
    case rest => as_aux_lemma =>
      obtain ⟨E0, ow30, rfl, hE0, hT, hu, hw, ho, t⟩ := hcut
      obtain ⟨w30, rfl⟩ : ∃ w30 : World, w30 = wc := ⟨_, rfl⟩
      have HE0 := Lib.hid hE0
      clear hE0
      go_upto_block 0 with fail
      go_cut [12] from 65 to 114 (fun tk wx => nvE w g g2 gx (.slice A4 (locksOf T o.job).length c4) us' C T o tk wx)
      case first => as_aux_lemma =>
        go_wp2_with fail
        go_loopg [12, 14] ys.length (fun gn tk i wr => nvR w g g2 gx (.slice A4 (locksOf T o.job).length c4) us' C T o ys.length gn tk i wr)
        case atStart => exact ⟨0, rfl, Nat.zero_le _, rfl, E0, ow30, rfl, HE0.out, hT, hu, hw, ho, t⟩
        case round =>
          clear hT hu hw ho t HE0
          obtain ⟨k, hgk, hk, rfl, E, OW, rfl, hEj, hT, hu, hw, ho, t⟩ := hrel
          have Hgk := Lib.hid hgk
          have HEj := Lib.hid hEj
          clear hgk hEj
          have hEl : E.length ≤ 4080 := by obtain ⟨rr, hi, -⟩ := hT; have := hi.len; rw [List.length_append] at this; omega
          by_cases hlt : k < ys.length
          · have i0 : (k : Int) < (ys.length : Int) := by omega
            by_cases hE0 : 0 < E.length
            · have e0 : 0 < (E.length : Int) := by omega
              have e1 : decide (0 < E.length) = true := decide_eq_true hE0
              obtain ⟨x, hx⟩ : ∃ x, ys[k]? = some x := ⟨_, List.getElem?_eq_getElem hlt⟩
              obtain ⟨b, off, rfl, c0, c1, c2, c3, c4, c5⟩ := (HB.out.new_ (t.new_ ow0 [1]).below).at k x hx
              clear hx
              go_upto_region 18 with fail
              obtain ⟨ow41, hx, nn, -⟩ := SH.add_cells wr OW [1, 7] [.int .i64 x.kind, .int .i64 x.job, .int .i64 x.res, .int .i64 x.n, .int .i64 x.need, .int .i64 x.v] 43
              generalize wr.alloc (.cells #[.int .i64 x.kind, .int .i64 x.job, .int .i64 x.res, .int .i64 x.n, .int .i64 x.need, .int .i64 x.v] 43) = w41 at *
              generalize wr.heap.size = gy at *
              replace hT := hT.new_ nn
              replace hu := hu.new_ nn
              replace hw := hw.new_ nn
              replace ho := ho.new_ nn
              replace t := t.trans (nn.turn [1])
              clear nn
              clear c0 c1 c2 c3 c4 c5
              have x0 := hx.get 0 rfl
              simp only [Nat.zero_add] at x0
              by_cases k0 : x.kind = 0
              · have b0 : (x.kind == 0) = true := beq_iff_eq.2 k0
                have b1 : (x.kind == 1) = false := beq_eq_false_iff_ne.2 (by omega)
                clear k0
                have o1 := ho.get 1 rfl
                simp only [Nat.zero_add] at o1
                have x2 := hx.get 2 rfl
                have x3 := hx.get 3 rfl
                have x4 := hx.get 4 rfl
                simp only [Nat.zero_add] at x2 x3 x4
                by_cases hE : lockE us' (T ++ E) o.job x.res x.n x.need = 0
                · as_aux_lemma =>
                  have hEE := lock_ext hE
                  have HE := Lib.hid hE
                  have HEE := Lib.hid hEE
                  clear hE hEE
                  go_wp2_with fail
                  refine (lock w41 ow41 [1, 1] g us' C (T ++ E) hT o.job x.res x.n x.need).mono ?_
                  rw [HE.out, HEE.out]
                  rintro e w42 ⟨ow42, rfl, hn', tt⟩
                  replace hu := hu.keep tt (fun s => by simp)
                  replace hw := hw.keep tt (by simp)
                  replace ho := ho.keep tt (by simp)
                  replace hx := hx.keep tt (by simp)
                  replace t := t.trans (tt.up (by simp))
                  clear hT tt
                  have hT := hn'
                  clear hn'
                  clear o1
                  clear x2 x3 x4
                  clear x0
                  have x0 := hx.get 0 rfl
                  simp only [Nat.zero_add] at x0
                  go_wp2_with fail
                  go_roundg (ys.length - (k + 1))
                  case measure => have := Hgk.out; omega
                  case rel => exact ⟨k + 1, rfl, by omega, by go_num, E ++ [⟨o.job, x.res, x.n⟩], ow42, by first | rfl | (simp; done) | go_num, fun e he => by cases List.mem_append.1 he with | inl h => exact HEj.out e h | inr h => exact (List.mem_singleton.1 h) ▸ rfl, hT, hu, hw, ho, t⟩
                · as_aux_lemma =>
                  have hEE := lock_not hE
                  obtain ⟨F, hF⟩ : ∃ F, lockE us' (T ++ E) o.job x.res x.n x.need = F := ⟨_, rfl⟩
                  rw [hF] at hE
                  have e9 : (F == 0) = false := beq_eq_false_iff_ne.2 hE
                  have HE := Lib.hid hF
                  have HEE := Lib.hid hEE
                  clear hE hEE hF
                  go_wp2_with fail
                  refine (lock w41 ow41 [1, 1] g us' C (T ++ E) hT o.job x.res x.n x.need).mono ?_
                  rw [HE.out, HEE.out]
                  rintro e w61 ⟨ow61, rfl, hn', tt⟩
                  replace hu := hu.keep tt (fun s => by simp)
                  replace hw := hw.keep tt (by simp)
                  replace ho := ho.keep tt (by simp)
                  replace hx := hx.keep tt (by simp)
                  replace t := t.trans (tt.up (by simp))
                  clear hT tt
                  have hT := hn'
                  clear hn'
                  clear o1
                  clear x2 x3 x4
                  clear x0
                  have x0 := hx.get 0 rfl
                  simp only [Nat.zero_add] at x0
                  go_wp2_with fail
                  go_roundg (ys.length - (k + 1))
                  case measure => have := Hgk.out; omega
                  case rel => exact ⟨k + 1, rfl, by omega, by go_num, E, ow61, rfl, HEj.out, hT, hu, hw, ho, t⟩
              · have b0 : (x.kind == 0) = false := beq_eq_false_iff_ne.2 k0
                by_cases k1 : x.kind = 1
                · have b1 : (x.kind == 1) = true := beq_iff_eq.2 k1
                  clear k0 k1
                  by_cases h1 : 1 < E.length
                  · have f0 : 1 < (E.length : Int) := by omega
                    have f1 : decide (1 < E.length) = true := decide_eq_true h1
                    have o1 := ho.get 1 rfl
                    simp only [Nat.zero_add] at o1
                    have x2 := hx.get 2 rfl
                    simp only [Nat.zero_add] at x2
                    by_cases hE : unlockE us' (T ++ E) o.job x.res = 0
                    · as_aux_lemma =>
                      obtain ⟨E', e, rfl⟩ : ∃ E' e, E = E' ++ [e] := by
                        cases hgl : E.getLast? with
                        | none => rw [List.getLast?_eq_none_iff.1 hgl] at h1; cases h1
                        | some e => obtain ⟨E', h⟩ := List.getLast?_eq_some_iff.1 hgl; exact ⟨E', e, h⟩
                      have hEE := unlock_ext (HEj.out e (by simp)) hE
                      have HE := Lib.hid hE
                      have HEE := Lib.hid hEE
                      have hlen : (E' ++ [e]).length = E'.length + 1 := by simp
                      have w1 : IntKind.i64.wrap (((E' ++ [e]).length : Int) - 1) = (E'.length : Int) := by rw [IntKind.wrap_i64]; omega
                      have w2 : ((E' ++ [e]).length : Int) - 1 = (E'.length : Int) := by omega
                      clear hE hEE hlen
                      go_wp2_with fail
                      refine (unlock w41 ow41 [1, 1] g us' C _ hT o.job x.res).mono ?_
                      rw [HE.out, HEE.out]
                      rintro e w81 ⟨ow81, rfl, hn', tt⟩
                      replace hu := hu.keep tt (fun s => by simp)
                      replace hw := hw.keep tt (by simp)
                      replace ho := ho.keep tt (by simp)
                      replace hx := hx.keep tt (by simp)
                      replace t := t.trans (tt.up (by simp))
                      clear hT tt
                      have hT := hn'
                      clear hn'
                      clear o1
                      clear x2
                      clear x0
                      have x0 := hx.get 0 rfl
                      simp only [Nat.zero_add] at x0
                      go_wp2_with fail
                      go_roundg (ys.length - (k + 1))
                      case measure => have := Hgk.out; omega
                      case rel => exact ⟨k + 1, rfl, by omega, by go_num, E', ow81, by first | rfl | (simp; done) | go_num, fun e' he => HEj.out e' (by simp [he]), hT, hu, hw, ho, t⟩
                    · as_aux_lemma =>
                      have hEE := unlock_none hE
                      have hNN := (unlock_not hE).1
                      obtain ⟨F, hF⟩ : ∃ F, unlockE us' (T ++ E) o.job x.res = F := ⟨_, rfl⟩
                      rw [hF] at hE
                      have e9 : (F == 0) = false := beq_eq_false_iff_ne.2 hE
                      have HE := Lib.hid hF
                      have HEE := Lib.hid hEE
                      have HNN := Lib.hid hNN
                      clear hE hEE hF hNN
                      go_wp2_with fail
                      refine (unlock w41 ow41 [1, 1] g us' C _ hT o.job x.res).mono ?_
                      rw [HE.out, HEE.out, HNN.out]
                      rintro e w101 ⟨ow101, rfl, hn', tt⟩
                      replace hu := hu.keep tt (fun s => by simp)
                      replace hw := hw.keep tt (by simp)
                      replace ho := ho.keep tt (by simp)
                      replace hx := hx.keep tt (by simp)
                      replace t := t.trans (tt.up (by simp))
                      clear hT tt
                      have hT := hn'
                      clear hn'
                      clear o1
                      clear x2
                      clear x0
                      have x0 := hx.get 0 rfl
                      simp only [Nat.zero_add] at x0
                      go_wp2_with fail
                      go_roundg (ys.length - (k + 1))
                      case measure => have := Hgk.out; omega
                      case rel => exact ⟨k + 1, rfl, by omega, by go_num, E, ow101, rfl, HEj.out, hT, hu, hw, ho, t⟩
                  · have f0 : ¬ 1 < (E.length : Int) := by omega
                    have f1 : decide (1 < E.length) = false := decide_eq_false h1
                    as_aux_lemma =>
                      go_wp2_with fail
                      go_roundg (ys.length - (k + 1))
                      case measure => have := Hgk.out; omega
                      case rel => exact ⟨k + 1, rfl, by omega, by go_num, E, ow41, rfl, HEj.out, hT, hu, hw, ho, t⟩
                · have b1 : (x.kind == 1) = false := beq_eq_false_iff_ne.2 k1
                  clear k0 k1
                  as_aux_lemma =>
                    go_wp2_with fail
                    go_roundg (ys.length - (k + 1))
                    case measure => have := Hgk.out; omega
                    case rel => exact ⟨k + 1, rfl, by omega, by go_num, E, ow41, rfl, HEj.out, hT, hu, hw, ho, t⟩
            · have e0 : ¬ 0 < (E.length : Int) := by omega
              have e1 : decide (0 < E.length) = false := decide_eq_false hE0
              go_wp2_with fail
              go_meet
              exact ⟨E, OW, rfl, HEj.out, hT, hu, hw, ho, t⟩
          · have i0 : ¬ (k : Int) < (ys.length : Int) := by omega
            go_wp2_with fail
            go_meet
            exact ⟨E, OW, rfl, HEj.out, hT, hu, hw, ho, t⟩
      case rest => as_aux_lemma =>
        clear hT hu hw ho t HE0 HB hyl
        obtain ⟨E0, ow40, rfl, hE0, hT, hu, hw, ho, t⟩ := hcut
        obtain ⟨w40, rfl⟩ : ∃ w40 : World, w40 = wc := ⟨_, rfl⟩
        have HE0 := Lib.hid hE0
        clear hE0
        go_upto_block 2 with fail
        go_cut [12] from 115 to 152 (fun tk wx => ∃ OW, nvS w g g2 gx (.slice A4 (locksOf T o.job).length c4) us' C T T T o wx OW)
        case first => as_aux_lemma =>
          go_wp2_with fail
          go_loopg [12] E0.length (fun gn tk wr => nvR2 w g g2 gx (.slice A4 (locksOf T o.job).length c4) us' C T o gn tk wr)
          case atStart => exact ⟨E0, ow40, rfl, rfl, HE0.out, hT, hu, hw, ho, t⟩
          case round =>
            clear hT hu hw ho t HE0
            obtain ⟨E, OW, hgk, rfl, hEj, hT, hu, hw, ho, t⟩ := hrel
            have Hgk := Lib.hid hgk
            have HEj := Lib.hid hEj
            clear hgk hEj
            by_cases hE0 : 0 < E.length
            · as_aux_lemma =>
              obtain ⟨E', e, rfl⟩ : ∃ E' e, E = E' ++ [e] := by
                cases hgl : E.getLast? with
                | none => rw [List.getLast?_eq_none_iff.1 hgl] at hE0; cases hE0
                | some e => obtain ⟨E', h⟩ := List.getLast?_eq_some_iff.1 hgl; exact ⟨E', e, h⟩
              have hel : (E' ++ [e]).length = E'.length + 1 := by simp
              have hEb : E'.length ≤ 4080 ∧ (locksOf (T ++ E') o.job).length ≤ 4080 := by
                obtain ⟨rr, hi, -⟩ := hT
                have := hi.len
                have h2 := locks_len (T ++ E') o.job
                simp only [List.length_append, List.length_singleton] at this h2
                omega
              obtain ⟨hEb1, hEb2⟩ := hEb
              have e0 : 0 < (((E' ++ [e]).length : Nat) : Int) := by omega
              have e1 : decide (0 < (E' ++ [e]).length) = true := decide_eq_true hE0
              have wr1 : IntKind.i64.wrap (((E' ++ [e]).length : Int) - 1) = (E'.length : Int) := by rw [IntKind.wrap_i64]; omega
              have wr2 : ((E' ++ [e]).length : Int) - 1 = (E'.length : Int) := by omega
              have hej : e.job = o.job := HEj.out e (by simp)
              have hls := snoc_locks hej (T ++ E')
              rw [← List.append_assoc] at hT
              have hun : unlockE us' (T ++ E' ++ [e]) o.job e.res = 0 ∧ unlockN us' (T ++ E' ++ [e]) o.job e.res = e.n ∧ unlockT us' (T ++ E' ++ [e]) o.job e.res = T ++ E' := by obtain ⟨rr, hi, -⟩ := hT; exact unlock_snoc hej hi
              have Hun := Lib.hid hun
              have Hls := Lib.hid hls
              clear hun hls hej
              have o1 := ho.get 1 rfl
              simp only [Nat.zero_add] at o1
              go_wp2_with fail
              refine (locks wr OW [1, 1] g us' C (T ++ E' ++ [e]) [1, 8] hT o.job).mono ?_
              rw [Hls.out]
              rintro e w121 ⟨v8, ow121, rfl, hq, nn, -⟩
              replace hT := hT.new_ nn
              replace hu := hu.new_ nn
              replace hw := hw.new_ nn
              replace ho := ho.new_ nn
              replace t := t.trans (nn.turn [1])
              clear nn
              clear o1
              obtain ⟨m', hm'⟩ : ∃ m', (locksOf (T ++ E') o.job).length = m' := ⟨_, rfl⟩
              generalize hq8 : locksOf (T ++ E') o.job ++ [(⟨e.res, e.n⟩ : Lk)] = Q8 at *
              have hl8 : Q8.length = m' + 1 := by rw [← hq8, List.length_append, hm']; rfl
              have hx8 : Q8[m']? = some ⟨e.res, e.n⟩ := by rw [← hq8, ← hm', List.getElem?_append_right (Nat.le_refl _), Nat.sub_self]; rfl
              rw [hm'] at hEb2
              have Hx8 := Lib.hid hx8
              clear hx8 hq8 hm'
              obtain ⟨A8, c8, rfl, -⟩ := hq.slice
              obtain ⟨b8, off8, cap8, hv8, -⟩ := hq.at (by omega)
              simp only [Value.slice.injEq, true_and] at hv8
              obtain ⟨rfl, rfl⟩ := hv8
              have q0 : (Q8.length == 0) = false := beq_eq_false_iff_ne.2 (by omega)
              have q1 : ((Q8.length : Int) == 0) = false := beq_eq_false_iff_ne.2 (by omega)
              have q1' : ¬ Q8.length = 0 := by omega
              have q2 : (Q8.length : Int) - 1 = (m' : Int) := by omega
              have q3 : IntKind.i64.wrap (m' : Int) = (m' : Int) := by rw [IntKind.wrap_i64]; omega
              have q4 : (m' : Int) < (Q8.length : Int) := by omega
              have q5 : m' < Q8.length := by omega
              clear hl8
              go_upto_region 30 with fail
              refine plain_regionN (fun W' : World => W'.cell? ⟨b8, off8 + m' * 2, none⟩ = some (.int .i64 e.res) ∧ W'.cell? ⟨gx, 1, none⟩ = some (.int .i64 o.job)) [] (by kernel_rfl) ?_
              have nn : New w121 ow121 w121.drew ow121 := (New.refl _ _).drew
              replace hT := hT.new_ nn
              replace hu := hu.new_ nn
              replace hw := hw.new_ nn
              replace ho := ho.new_ nn
              replace hq := hq.new_ nn
              replace t := t.trans (nn.turn [1])
              clear nn
              generalize w121.drew = w122 at *
              obtain ⟨z0, -⟩ := lock_c hq m' _ Hx8.out
              have o1 := ho.get 1 rfl
              simp only [Nat.zero_add] at o1
              have hS : (fun W' : World => W'.cell? ⟨b8, off8 + m' * 2, none⟩ = some (.int .i64 e.res) ∧ W'.cell? ⟨gx, 1, none⟩ = some (.int .i64 o.job)) w122 := ⟨z0, o1⟩
              refine anyX_takeNL 0 (v := ?_) rfl rfl (by as_aux_lemma => kernel_rfl) (by as_aux_lemma => kernel_rfl) (by as_aux_lemma => kernel_rfl) (by as_aux_lemma => kernel_rfl) (by as_aux_lemma => kernel_rfl) (fun _ _ _ h => h) rfl ?_ hS ?_
              rotate_left
              · intro W' hW'
                obtain ⟨s0, s1⟩ := hW'
                all_goals (go_simp; first | done | rfl)
              intro l' hl
              dsimp only [List.set_cons_succ, List.set_cons_zero] at hl
              subst hl
              refine anyX_takeNL 1 (v := ?_) rfl rfl (by as_aux_lemma => kernel_rfl) (by as_aux_lemma => kernel_rfl) (by as_aux_lemma => kernel_rfl) (by as_aux_lemma => kernel_rfl) (by as_aux_lemma => kernel_rfl) (fun _ _ _ h => h) rfl ?_ hS ?_
              rotate_left
              · intro W' hW'
                obtain ⟨s0, s1⟩ := hW'
                all_goals (go_simp; first | done | rfl)
              intro l' hl
              dsimp only [List.set_cons_succ, List.set_cons_zero] at hl
              subst hl
              refine anyX_takeNL 2 (v := ?_) rfl rfl (by as_aux_lemma => kernel_rfl) (by as_aux_lemma => kernel_rfl) (by as_aux_lemma => kernel_rfl) (by as_aux_lemma => kernel_rfl) (by as_aux_lemma => kernel_rfl) (fun _ _ _ h => h) rfl ?_ hS ?_
              rotate_left
              · intro W' hW'
                obtain ⟨s0, s1⟩ := hW'
                all_goals (go_simp; first | done | rfl)
              intro l' hl
              dsimp only [List.set_cons_succ, List.set_cons_zero] at hl
              subst hl
              refine anyX_takeNL 3 (v := ?_) rfl rfl (by as_aux_lemma => kernel_rfl) (by as_aux_lemma => kernel_rfl) (by as_aux_lemma => kernel_rfl) (by as_aux_lemma => kernel_rfl) (by as_aux_lemma => kernel_rfl) (fun _ _ _ h => h) rfl ?_ hS ?_
              rotate_left
              · intro W' hW'
                obtain ⟨s0, s1⟩ := hW'
                all_goals (go_simp; first | done | rfl)
              intro l' hl
              dsimp only [List.set_cons_succ, List.set_cons_zero] at hl
              subst hl
              refine anyX_takeNL 4 (v := ?_) rfl rfl (by as_aux_lemma => kernel_rfl) (by as_aux_lemma => kernel_rfl) (by as_aux_lemma => kernel_rfl) (by as_aux_lemma => kernel_rfl) (by as_aux_lemma => kernel_rfl) (fun _ _ _ h => h) rfl ?_ hS ?_
              rotate_left
              · intro W' hW'
                obtain ⟨s0, s1⟩ := hW'
                all_goals (go_simp; first | done | rfl)
              intro l' hl
              dsimp only [List.set_cons_succ, List.set_cons_zero] at hl
              subst hl
              refine anyX_one (i := 5) (by kernel_rfl) rfl rfl fun K' hK' => ?_
              unfold Oper.wp
              go_simp
              refine hK' _ _ (fun _ => hS) ?_
              clear hK' K'
              refine anyX_takeNL 6 (v := ?_) rfl rfl (by as_aux_lemma => kernel_rfl) (by as_aux_lemma => kernel_rfl) (by as_aux_lemma => kernel_rfl) (by as_aux_lemma => kernel_rfl) (by as_aux_lemma => kernel_rfl) (fun _ _ _ h => h) rfl ?_ hS ?_
              rotate_left
              · intro W' hW'
                obtain ⟨s0, s1⟩ := hW'
                all_goals (go_simp; first | done | rfl)
              intro l' hl
              dsimp only [List.set_cons_succ, List.set_cons_zero] at hl
              subst hl
              refine anyX_takeNL 7 (v := ?_) rfl rfl (by as_aux_lemma => kernel_rfl) (by as_aux_lemma => kernel_rfl) (by as_aux_lemma => kernel_rfl) (by as_aux_lemma => kernel_rfl) (by as_aux_lemma => kernel_rfl) (fun _ _ _ h => h) rfl ?_ hS ?_
              rotate_left
              · intro W' hW'
                obtain ⟨s0, s1⟩ := hW'
                all_goals (go_simp; first | done | rfl)
              intro l' hl
              dsimp only [List.set_cons_succ, List.set_cons_zero] at hl
              subst hl
              refine anyX_takeNL 8 (v := ?_) rfl rfl (by as_aux_lemma => kernel_rfl) (by as_aux_lemma => kernel_rfl) (by as_aux_lemma => kernel_rfl) (by as_aux_lemma => kernel_rfl) (by as_aux_lemma => kernel_rfl) (fun _ _ _ h => h) rfl ?_ hS ?_
              rotate_left
              · intro W' hW'
                obtain ⟨s0, s1⟩ := hW'
                all_goals (go_simp; first | done | rfl)
              intro l' hl
              dsimp only [List.set_cons_succ, List.set_cons_zero] at hl
              subst hl
              refine anyX_takeNL 9 (v := ?_) rfl rfl (by as_aux_lemma => kernel_rfl) (by as_aux_lemma => kernel_rfl) (by as_aux_lemma => kernel_rfl) (by as_aux_lemma => kernel_rfl) (by as_aux_lemma => kernel_rfl) (fun _ _ _ h => h) rfl ?_ hS ?_
              rotate_left
              · intro W' hW'
                obtain ⟨s0, s1⟩ := hW'
                all_goals (go_simp; first | done | rfl)
              intro l' hl
              dsimp only [List.set_cons_succ, List.set_cons_zero] at hl
              subst hl
              refine anyX_one (i := 10) (by kernel_rfl) rfl rfl fun K' hK' => ?_
              unfold Oper.wp
              go_simp
              clear hS z0
              clear o1
              refine (unlock w122 ow121 [1, 1] g us' C (T ++ E' ++ [e]) hT o.job e.res).mono ?_
              rw [Hun.out.1, Hun.out.2.1, Hun.out.2.2]
              rintro e w123 ⟨ow123, rfl, hn', tt⟩
              replace hu := hu.keep tt (fun s => by simp)
              replace hw := hw.keep tt (by simp)
              replace ho := ho.keep tt (by simp)
              replace hq := hq.keep tt (by simp)
              replace t := t.trans (tt.up (by simp))
              clear hT tt
              have hT := hn'
              clear hn'
              obtain ⟨z0, -⟩ := lock_c hq m' _ Hx8.out
              have o1 := ho.get 1 rfl
              simp only [Nat.zero_add] at o1
              have hS : (fun W' : World => W'.cell? ⟨b8, off8 + m' * 2, none⟩ = some (.int .i64 e.res) ∧ W'.cell? ⟨gx, 1, none⟩ = some (.int .i64 o.job)) w123 := ⟨z0, o1⟩
              refine hK' _ _ (fun _ => hS) ?_
              clear hK' K'
              refine anyX_takeNL 11 (v := ?_) rfl rfl (by as_aux_lemma => kernel_rfl) (by as_aux_lemma => kernel_rfl) (by as_aux_lemma => kernel_rfl) (by as_aux_lemma => kernel_rfl) (by as_aux_lemma => kernel_rfl) (fun _ _ _ h => h) rfl ?_ hS ?_
              rotate_left
              · intro W' hW'
                obtain ⟨s0, s1⟩ := hW'
                all_goals (go_simp; first | done | rfl)
              intro l' hl
              dsimp only [List.set_cons_succ, List.set_cons_zero] at hl
              subst hl
              refine anyX_takeNL 12 (v := ?_) rfl rfl (by as_aux_lemma => kernel_rfl) (by as_aux_lemma => kernel_rfl) (by as_aux_lemma => kernel_rfl) (by as_aux_lemma => kernel_rfl) (by as_aux_lemma => kernel_rfl) (fun _ _ _ h => h) rfl ?_ hS ?_
              rotate_left
              · intro W' hW'
                obtain ⟨s0, s1⟩ := hW'
                all_goals (go_simp; first | done | rfl)
              intro l' hl
              dsimp only [List.set_cons_succ, List.set_cons_zero] at hl
              subst hl
              refine anyX_takeNL 13 (v := ?_) rfl rfl (by as_aux_lemma => kernel_rfl) (by as_aux_lemma => kernel_rfl) (by as_aux_lemma => kernel_rfl) (by as_aux_lemma => kernel_rfl) (by as_aux_lemma => kernel_rfl) (fun _ _ _ h => h) rfl ?_ hS ?_
              rotate_left
              · intro W' hW'
                obtain ⟨s0, s1⟩ := hW'
                all_goals (go_simp; first | done | rfl)
              intro l' hl
              dsimp only [List.set_cons_succ, List.set_cons_zero] at hl
              subst hl
              refine anyX_takeNL 14 (v := ?_) rfl rfl (by as_aux_lemma => kernel_rfl) (by as_aux_lemma => kernel_rfl) (by as_aux_lemma => kernel_rfl) (by as_aux_lemma => kernel_rfl) (by as_aux_lemma => kernel_rfl) (fun _ _ _ h => h) rfl ?_ hS ?_
              rotate_left
              · intro W' hW'
                obtain ⟨s0, s1⟩ := hW'
                all_goals (go_simp; first | done | rfl)
              intro l' hl
              dsimp only [List.set_cons_succ, List.set_cons_zero] at hl
              subst hl
              refine anyX_takeNL 15 (v := ?_) rfl rfl (by as_aux_lemma => kernel_rfl) (by as_aux_lemma => kernel_rfl) (by as_aux_lemma => kernel_rfl) (by as_aux_lemma => kernel_rfl) (by as_aux_lemma => kernel_rfl) (fun _ _ _ h => h) rfl ?_ hS ?_
              rotate_left
              · intro W' hW'
                obtain ⟨s0, s1⟩ := hW'
                all_goals (go_simp; first | done | rfl)
              intro l' hl
              dsimp only [List.set_cons_succ, List.set_cons_zero] at hl
              subst hl
              refine anyX_done (by kernel_rfl) ?_ _
              refine NoPanic.normal ?_
              clear hS z0
              clear o1
              obtain ⟨-, z1⟩ := lock_c hq m' _ Hx8.out
              have z1 : _ = some (Value.int .i64 e.n) := z1
              go_wp2_with fail
              go_roundg E'.length
              case measure => have := Hgk.out; omega
              case rel => exact ⟨E', ow123, rfl, by go_num, fun e' he => HEj.out e' (by simp [he]), hT, hu, hw, ho, t⟩
            · as_aux_lemma =>
              have hEn : E = [] := List.length_eq_zero_iff.1 (by omega)
              subst hEn
              rw [List.append_nil] at hT
              go_wp2_with fail
              go_meet
              exact ⟨OW, hT, hu, hw, ho, t⟩
        case rest => as_aux_lemma =>
          clear hT hu hw ho t HE0
          obtain ⟨ow50, hT, hu, hw, ho, t⟩ := hcut
          obtain ⟨w50, rfl⟩ : ∃ w50 : World, w50 = wc := ⟨_, rfl⟩
          have o1 := ho.get 1 rfl
          simp only [Nat.zero_add] at o1
          go_wp2_with fail
          refine (locks w50 ow50 [1, 1] g us' C T [1, 8] hT o.job).mono ?_
          rintro e w151 ⟨v8, ow151, rfl, hq, nn, -⟩
          replace hT := hT.new_ nn
          replace hu := hu.new_ nn
          replace hw := hw.new_ nn
          replace ho := ho.new_ nn
          replace t := t.trans (nn.turn [1])
          clear nn
          clear o1
          go_wp2_with fail
          refine (ELk.same_yes w151 v8 _ (locksOf T o.job) (by omega) hq.reads hw.reads).mono ?_
          rintro e w152 ⟨rfl, kk, hw'⟩
          have nn : New w151 ow151 w152 ow151 := by rw [hw']; exact (New.refl _ _).drewN kk
          clear hw'
          replace hT := hT.new_ nn
          replace hu := hu.new_ nn
          replace hw := hw.new_ nn
          replace ho := ho.new_ nn
          replace hq := hq.new_ nn
          replace t := t.trans (nn.turn [1])
          clear nn
          clear hq
          go_wp2_with fail
          refine (alike w152 ow151 [1, 1] [1, 2] g g2 us' C C T hT hu).mono ?_
          rintro e w153 ⟨rfl, bb⟩
          have nn := bb.nw ow151
          replace hT := hT.new_ nn
          replace hu := hu.new_ nn
          replace hw := hw.new_ nn
          replace ho := ho.new_ nn
          replace t := t.trans (nn.turn [1])
          clear nn
          clear bb
          have o1 := ho.get 1 rfl
          simp only [Nat.zero_add] at o1
          go_wp2_with fail
          refine (drop w153 ow151 [1, 1] g us' C T hT o.job).mono ?_
          rintro e w154 ⟨ow154, rfl, hn', tt⟩
          replace hu := hu.keep tt (fun s => by simp)
          replace hw := hw.keep tt (by simp)
          replace ho := ho.keep tt (by simp)
          replace t := t.trans (tt.up (by simp))
          clear hT tt
          have hT := hn'
          clear hn'
          clear o1
          have nl0 : IntKind.i64.wrap (((locksOf T o.job).length : Int) - 1) = ((locksOf T o.job).length : Int) - 1 := by rw [IntKind.wrap_i64]; omega
          go_upto_block 4 with fail
          go_cut [22] from 179 to 205 (fun i wx => ∃ OW, nvS w g g2 gx (.slice A4 (locksOf T o.job).length c4) us' C T (dropT o.job T) (dropT o.job T) o wx OW)
          case first => as_aux_lemma =>
            go_wp2_with fail
            go_loopg [22] (locksOf T o.job).length (fun gn i wr => nvR3 w g g2 gx (.slice A4 (locksOf T o.job).length c4) us' C T o gn i wr)
            case atStart => exact ⟨((locksOf T o.job).length : Int) - 1, T, ow154, by omega, by omega, by go_num, rfl, by rw [List.take_of_length_le (by omega)], hT, hu, hw, ho, t⟩
            case round =>
              clear hT hu hw ho t nl0
              obtain ⟨j, Tu, OW, hgj, hj, rfl, hdr, hlk, hT, hu, hw, ho, t⟩ := hrel
              have Hgj := Lib.hid hgj
              have Hdr := Lib.hid hdr
              have Hlk := Lib.hid hlk
              clear hgj hdr hlk
              by_cases hj0 : 0 ≤ j
              · as_aux_lemma =>
                obtain ⟨m, rfl⟩ : ∃ m : Nat, j = (m : Int) := ⟨j.toNat, by omega⟩
                have hmt : m < (locksOf T o.job).length := by omega
                obtain ⟨l, hl⟩ : ∃ l, (locksOf T o.job)[m]? = some l := ⟨_, List.getElem?_eq_getElem hmt⟩
                obtain ⟨b8, off8, cap8, hv8, -⟩ := hw.at (by omega)
                simp only [Value.slice.injEq, true_and] at hv8
                obtain ⟨rfl, rfl⟩ := hv8
                have hlu : locksOf Tu o.job = (locksOf T o.job).take m ++ [l] := by rw [Hlk.out, show ((m : Int) + 1).toNat = m + 1 by omega, List.take_add_one, hl]; rfl
                have hun : unlockE us' Tu o.job l.res = 0 ∧ unlockN us' Tu o.job l.res = l.n ∧ dropT o.job (unlockT us' Tu o.job l.res) = dropT o.job Tu ∧ locksOf (unlockT us' Tu o.job l.res) o.job = (locksOf T o.job).take m := by obtain ⟨rr, hi, -⟩ := hu; exact unlock_take hi hlu
                have Hun := Lib.hid hun
                have Hl := Lib.hid hl
                have j0 : (m : Int) < ((locksOf T o.job).length : Int) := by omega
                have q3 : IntKind.i64.wrap (m : Int) = (m : Int) := by rw [IntKind.wrap_i64]; omega
                have q6 : IntKind.i64.wrap ((m : Int) - 1) = (m : Int) - 1 := by rw [IntKind.wrap_i64]; omega
                clear hun hl hlu
                go_upto_region 41 with fail
                refine plain_regionN (fun W' : World => W'.cell? ⟨b8, off8 + m * 2, none⟩ = some (.int .i64 l.res) ∧ W'.cell? ⟨gx, 1, none⟩ = some (.int .i64 o.job)) [] (by kernel_rfl) ?_
                have nn : New wr OW wr.drew OW := (New.refl _ _).drew
                replace hT := hT.new_ nn
                replace hu := hu.new_ nn
                replace hw := hw.new_ nn
                replace ho := ho.new_ nn
                replace t := t.trans (nn.turn [1])
                clear nn
                generalize wr.drew = w201 at *
                obtain ⟨z0, -⟩ := lock_c hw m l Hl.out
                have o1 := ho.get 1 rfl
                simp only [Nat.zero_add] at o1
                have hS : (fun W' : World => W'.cell? ⟨b8, off8 + m * 2, none⟩ = some (.int .i64 l.res) ∧ W'.cell? ⟨gx, 1, none⟩ = some (.int .i64 o.job)) w201 := ⟨z0, o1⟩
                refine anyX_takeNL 0 (v := ?_) rfl rfl (by as_aux_lemma => kernel_rfl) (by as_aux_lemma => kernel_rfl) (by as_aux_lemma => kernel_rfl) (by as_aux_lemma => kernel_rfl) (by as_aux_lemma => kernel_rfl) (fun _ _ _ h => h) rfl ?_ hS ?_
                rotate_left
                · intro W' hW'
                  obtain ⟨s0, s1⟩ := hW'
                  all_goals (go_simp; first | done | rfl)
                intro l' hl
                dsimp only [List.set_cons_succ, List.set_cons_zero] at hl
                subst hl
                refine anyX_takeNL 1 (v := ?_) rfl rfl (by as_aux_lemma => kernel_rfl) (by as_aux_lemma => kernel_rfl) (by as_aux_lemma => kernel_rfl) (by as_aux_lemma => kernel_rfl) (by as_aux_lemma => kernel_rfl) (fun _ _ _ h => h) rfl ?_ hS ?_
                rotate_left
                · intro W' hW'
                  obtain ⟨s0, s1⟩ := hW'
                  all_goals (go_simp; first | done | rfl)
                intro l' hl
                dsimp only [List.set_cons_succ, List.set_cons_zero] at hl
                subst hl
                refine anyX_takeNL 2 (v := ?_) rfl rfl (by as_aux_lemma => kernel_rfl) (by as_aux_lemma => kernel_rfl) (by as_aux_lemma => kernel_rfl) (by as_aux_lemma => kernel_rfl) (by as_aux_lemma => kernel_rfl) (fun _ _ _ h => h) rfl ?_ hS ?_
                rotate_left
                · intro W' hW'
                  obtain ⟨s0, s1⟩ := hW'
                  all_goals (go_simp; first | done | rfl)
                intro l' hl
                dsimp only [List.set_cons_succ, List.set_cons_zero] at hl
                subst hl
                refine anyX_takeNL 3 (v := ?_) rfl rfl (by as_aux_lemma => kernel_rfl) (by as_aux_lemma => kernel_rfl) (by as_aux_lemma => kernel_rfl) (by as_aux_lemma => kernel_rfl) (by as_aux_lemma => kernel_rfl) (fun _ _ _ h => h) rfl ?_ hS ?_
                rotate_left
                · intro W' hW'
                  obtain ⟨s0, s1⟩ := hW'
                  all_goals (go_simp; first | done | rfl)
                intro l' hl
                dsimp only [List.set_cons_succ, List.set_cons_zero] at hl
                subst hl
                refine anyX_takeNL 4 (v := ?_) rfl rfl (by as_aux_lemma => kernel_rfl) (by as_aux_lemma => kernel_rfl) (by as_aux_lemma => kernel_rfl) (by as_aux_lemma => kernel_rfl) (by as_aux_lemma => kernel_rfl) (fun _ _ _ h => h) rfl ?_ hS ?_
                rotate_left
                · intro W' hW'
                  obtain ⟨s0, s1⟩ := hW'
                  all_goals (go_simp; first | done | rfl)
                intro l' hl
                dsimp only [List.set_cons_succ, List.set_cons_zero] at hl
                subst hl
                refine anyX_takeNL 5 (v := ?_) rfl rfl (by as_aux_lemma => kernel_rfl) (by as_aux_lemma => kernel_rfl) (by as_aux_lemma => kernel_rfl) (by as_aux_lemma => kernel_rfl) (by as_aux_lemma => kernel_rfl) (fun _ _ _ h => h) rfl ?_ hS ?_
                rotate_left
                · intro W' hW'
                  obtain ⟨s0, s1⟩ := hW'
                  all_goals (go_simp; first | done | rfl)
                intro l' hl
                dsimp only [List.set_cons_succ, List.set_cons_zero] at hl
                subst hl
                refine anyX_takeNL 6 (v := ?_) rfl rfl (by as_aux_lemma => kernel_rfl) (by as_aux_lemma => kernel_rfl) (by as_aux_lemma => kernel_rfl) (by as_aux_lemma => kernel_rfl) (by as_aux_lemma => kernel_rfl) (fun _ _ _ h => h) rfl ?_ hS ?_
                rotate_left
                · intro W' hW'
                  obtain ⟨s0, s1⟩ := hW'
                  all_goals (go_simp; first | done | rfl)
                intro l' hl
                dsimp only [List.set_cons_succ, List.set_cons_zero] at hl
                subst hl
                refine anyX_takeNL 7 (v := ?_) rfl rfl (by as_aux_lemma => kernel_rfl) (by as_aux_lemma => kernel_rfl) (by as_aux_lemma => kernel_rfl) (by as_aux_lemma => kernel_rfl) (by as_aux_lemma => kernel_rfl) (fun _ _ _ h => h) rfl ?_ hS ?_
                rotate_left
                · intro W' hW'
                  obtain ⟨s0, s1⟩ := hW'
                  all_goals (go_simp; first | done | rfl)
                intro l' hl
                dsimp only [List.set_cons_succ, List.set_cons_zero] at hl
                subst hl
                refine anyX_one (i := 8) (by kernel_rfl) rfl rfl fun K' hK' => ?_
                unfold Oper.wp
                go_simp
                clear hS z0
                clear o1
                refine (unlock w201 OW [1, 2] g2 us' C Tu hu o.job l.res).mono ?_
                rw [Hun.out.1, Hun.out.2.1]
                rintro e w202 ⟨ow202, rfl, hn', tt⟩
                replace hT := hT.keep tt (fun s => by simp)
                replace hw := hw.keep tt (by simp)
                replace ho := ho.keep tt (by simp)
                replace t := t.trans (tt.up (by simp))
                clear hu tt
                have hu := hn'
                clear hn'
                obtain ⟨z0, -⟩ := lock_c hw m l Hl.out
                have o1 := ho.get 1 rfl
                simp only [Nat.zero_add] at o1
                have hS : (fun W' : World => W'.cell? ⟨b8, off8 + m * 2, none⟩ = some (.int .i64 l.res) ∧ W'.cell? ⟨gx, 1, none⟩ = some (.int .i64 o.job)) w202 := ⟨z0, o1⟩
                refine hK' _ _ (fun _ => hS) ?_
                clear hK' K'
                refine anyX_takeNL 9 (v := ?_) rfl rfl (by as_aux_lemma => kernel_rfl) (by as_aux_lemma => kernel_rfl) (by as_aux_lemma => kernel_rfl) (by as_aux_lemma => kernel_rfl) (by as_aux_lemma => kernel_rfl) (fun _ _ _ h => h) rfl ?_ hS ?_
                rotate_left
                · intro W' hW'
                  obtain ⟨s0, s1⟩ := hW'
                  all_goals (go_simp; first | done | rfl)
                intro l' hl
                dsimp only [List.set_cons_succ, List.set_cons_zero] at hl
                subst hl
                refine anyX_takeNL 10 (v := ?_) rfl rfl (by as_aux_lemma => kernel_rfl) (by as_aux_lemma => kernel_rfl) (by as_aux_lemma => kernel_rfl) (by as_aux_lemma => kernel_rfl) (by as_aux_lemma => kernel_rfl) (fun _ _ _ h => h) rfl ?_ hS ?_
                rotate_left
                · intro W' hW'
                  obtain ⟨s0, s1⟩ := hW'
                  all_goals (go_simp; first | done | rfl)
                intro l' hl
                dsimp only [List.set_cons_succ, List.set_cons_zero] at hl
                subst hl
                refine anyX_takeNL 11 (v := ?_) rfl rfl (by as_aux_lemma => kernel_rfl) (by as_aux_lemma => kernel_rfl) (by as_aux_lemma => kernel_rfl) (by as_aux_lemma => kernel_rfl) (by as_aux_lemma => kernel_rfl) (fun _ _ _ h => h) rfl ?_ hS ?_
                rotate_left
                · intro W' hW'
                  obtain ⟨s0, s1⟩ := hW'
                  all_goals (go_simp; first | done | rfl)
                intro l' hl
                dsimp only [List.set_cons_succ, List.set_cons_zero] at hl
                subst hl
                refine anyX_takeNL 12 (v := ?_) rfl rfl (by as_aux_lemma => kernel_rfl) (by as_aux_lemma => kernel_rfl) (by as_aux_lemma => kernel_rfl) (by as_aux_lemma => kernel_rfl) (by as_aux_lemma => kernel_rfl) (fun _ _ _ h => h) rfl ?_ hS ?_
                rotate_left
                · intro W' hW'
                  obtain ⟨s0, s1⟩ := hW'
                  all_goals (go_simp; first | done | rfl)
                intro l' hl
                dsimp only [List.set_cons_succ, List.set_cons_zero] at hl
                subst hl
                refine anyX_takeNL 13 (v := ?_) rfl rfl (by as_aux_lemma => kernel_rfl) (by as_aux_lemma => kernel_rfl) (by as_aux_lemma => kernel_rfl) (by as_aux_lemma => kernel_rfl) (by as_aux_lemma => kernel_rfl) (fun _ _ _ h => h) rfl ?_ hS ?_
                rotate_left
                · intro W' hW'
                  obtain ⟨s0, s1⟩ := hW'
                  all_goals (go_simp; first | done | rfl)
                intro l' hl
                dsimp only [List.set_cons_succ, List.set_cons_zero] at hl
                subst hl
                refine anyX_done (by kernel_rfl) ?_ _
                refine NoPanic.normal ?_
                clear hS z0
                clear o1
                obtain ⟨-, z1⟩ := lock_c hw m l Hl.out
                go_wp2_with fail
                go_roundg m
                case measure => have := Hgj.out; omega
                case rel => exact ⟨(m : Int) - 1, _, ow202, by omega, by omega, by go_num, Hun.out.2.2.1.trans Hdr.out, by rw [Hun.out.2.2.2, show ((m : Int) - 1 + 1).toNat = m by omega], hT, hu, hw, ho, t⟩
              · as_aux_lemma =>
                have hln : locksOf Tu o.job = [] := by rw [Hlk.out, show (j + 1).toNat = 0 by have := Hgj.out; omega]; rfl
                have hTu : Tu = dropT o.job T := by rw [← Hdr.out, drop_id hln]
                subst hTu
                clear hln
                go_wp2_with fail
                go_meet
                exact ⟨OW, hT, hu, hw, ho, t⟩
          case rest => as_aux_lemma =>
            clear hT hu hw ho t nl0
            obtain ⟨ow70, hT, hu, hw, ho, t⟩ := hcut
            obtain ⟨w70, rfl⟩ : ∃ w70 : World, w70 = wc := ⟨_, rfl⟩
            clear hw
            go_wp2_with fail
            refine (alike w70 ow70 [1, 1] [1, 2] g g2 us' C C _ hT hu).mono ?_
            rintro e w221 ⟨rfl, bb⟩
            have nn := bb.nw ow70
            replace hT := hT.new_ nn
            replace hu := hu.new_ nn
            replace ho := ho.new_ nn
            replace t := t.trans (nn.turn [1])
            clear nn
            clear bb
            have o1 := ho.get 1 rfl
            simp only [Nat.zero_add] at o1
            go_wp2_with fail
            refine (locks w221 ow70 [1, 1] g us' C _ [1, 8] hT o.job).mono ?_
            rw [drop_locks, List.length_nil]
            rintro e w222 ⟨v8, ow222, rfl, hq, nn, -⟩
            replace hT := hT.new_ nn
            replace hu := hu.new_ nn
            replace ho := ho.new_ nn
            replace t := t.trans (nn.turn [1])
            clear nn
            clear o1
            obtain ⟨A8, c8, rfl, -⟩ := hq.slice
            have fin := (t.new_ ow0 [1]).below
            clear hT hu ho hq t
            go_wp2_with fail
            refine (runs w222).mono ?_
            rintro e w92 ⟨rfl, b5⟩
            have fin := fin.trans (b5.mono fin.size)
            go_wp2
            go_ret
            exact ⟨rfl, Hgx.out ▸ fin⟩

end UN
end Go.Proofs.Ytefagdbdimpcdaa
