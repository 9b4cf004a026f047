/-
  LAW 5: UnitsSums: the walk.
-/
import Derived.Test.YtefagdbdimpcdaaUSp
import Derived.Test.YtefagdbdimpcdaaUR
import Derived.Test.YtefagdbdimpcdaaUB
import Derived.Deep.CutRange
import Derived.Deep.CutBlock
import Derived.Deep.DeepCutAuto
set_option linter.unusedVariables false
set_option linter.unusedSimpArgs false
namespace Go.Proofs.Ytefagdbdimpcdaa
open Go Go.RowKit
namespace UN

/-- What the loops keep. -/
def usRel (w : World) (g : Nat) (V : Value) (us C : List Int) (T : List Tk) (gn : Nat) (i : Value) (wr : World) : Prop :=
  ∃ (r : Nat) (OW : Ow), gn = us.length - r ∧ r ≤ us.length ∧ i = .int .i64 (r : Int) ∧ UT wr OW [1, 1] g us C T ∧ Row wr OW [1, 9] 3 1 V us.length (EInt.css us) ∧ Turn [1] w ow0 wr OW
def uiRel (w : World) (g : Nat) (V Vh : Value) (us C : List Int) (T : List Tk) (fr : Int) (hs : List Hd) (gn : Nat) (s i : Value) (wr : World) : Prop :=
  ∃ (m : Nat) (OW : Ow) (S : Int), gn = hs.length - m ∧ m ≤ hs.length ∧ i = .int .i64 (m : Int) ∧ s = .int .i64 S ∧ S = fr + sumN (hs.take m) ∧ UT wr OW [1, 1] g us C T ∧ Row wr OW [1, 9] 3 1 V us.length (EInt.css us) ∧ Row wr OW [1, 5] 31 2 Vh hs.length (EHd.css hs) ∧ Turn [1] w ow0 wr OW
def ukkRel (w : World) (g : Nat) (V Vh Vq : Value) (us C : List Int) (T : List Tk) (r : Int) (hs : List Hd) (ls : List Lk) (gn : Nat) (n k : Value) (wr : World) : Prop :=
  ∃ (m : Nat) (OW : Ow) (N : Int), gn = ls.length - m ∧ m ≤ ls.length ∧ k = .int .i64 (m : Int) ∧ n = .int .i64 N ∧ N = heldL (ls.take m) r ∧ UT wr OW [1, 1] g us C T ∧ Row wr OW [1, 9] 3 1 V us.length (EInt.css us) ∧ Row wr OW [1, 5] 31 2 Vh hs.length (EHd.css hs) ∧ Row wr OW [1, 6] 51 2 Vq ls.length (ELk.css ls) ∧ Turn [1] w ow0 wr OW

set_option maxRecDepth 100000 in
set_option maxHeartbeats 16000000 in
theorem sumsL (w : World) (v : Value) (xs : List Int) (h : EInt.In w v xs) (vs : Value) (ops : List Op5) (hs : EOp.In w vs ops) (job : Int) : Calls Try.prog 9 #[v, vs, .int .i64 job] w fun e w' => e = .returned (.bool true) ∧ Below w.heap.size w w' := by
  obtain ⟨A, cap, rfl, hcap, hmax, hcov⟩ := h
  have Hcov := Lib.hid hcov
  have Hs := Lib.hid hs
  clear hcov hs
  go_enter Try.func9, Try.ntmps9
  go_upto_if 17 with fail
  go_cut [0] (fun s0 wx => wx = w ∧ s0 = .slice A (xs.take 16).length cap)
  case first =>
    by_cases h300 : (16 : Int) < (xs.length : Int)
    · have c100 : (16 : Int) ≤ (cap : Int) := by omega
      go_wp2_with fail
      go_meet
      exact ⟨rfl, by rw [List.length_take, Nat.min_eq_left (by omega)]⟩
    · go_wp2_with fail
      go_meet
      exact ⟨rfl, by rw [List.take_of_length_le (by omega)]⟩
  case rest =>
    obtain ⟨rfl, rfl⟩ := hcut
    have hlen : (xs.take 16).length ≤ 16 := by rw [List.length_take]; omega
    have hcov : EInt.Cov wc A (EInt.css (xs.take 16)) := by rw [EInt.css_take]; exact Hcov.out.take _
    generalize xs.take 16 = us at *
    have Hc := Lib.hid hcov
    clear Hcov hcap hmax hcov
    obtain ⟨w, rfl⟩ : ∃ w : World, w = wc := ⟨_, rfl⟩
    go_wp2_with (at_builtin; refine wpList_append_row rfl (.tmp 20) (.tmp 21) 38 38 rfl 3 _ 1 8 Try.underlying38 EInt.info rfl rfl (Row.new0 w ow0 [1, 9] 3 1) rfl ((Hc.out.new_ ((Below.refl _ _).alloc (Nat.le_refl _) _)).src Try.underlying38 cap) (by unfold maxLen; omega) (by omega) ?_)
    intro v1 w1 ow1 hl ht
    have t := (((Turn.refl [1, 9] w ow0).alloc (.cells #[] 3) [1, 9]).trans ht).up (p := [1]) (by simp)
    try simp only [Nat.zero_add, List.nil_append] at hl
    clear ht
    go_wp2_with fail
    refine (EOp.fewB w w1 vs ops 200 Hs.out (by omega)).mono ?_
    rintro e w3 ⟨v3, rfl, hin, rfl⟩
    obtain ⟨B, capB, rfl, -, -, hcB⟩ := hin
    have hyl : (ops.take 200).length ≤ 200 := by rw [List.length_take]; omega
    generalize ops.take 200 = ys at *
    go_wp2_with fail
    refine (made w w3 ow1 [9] [1] t v1 us hl hlen (by simp) B capB ys hcB (by omega)).mono ?_
    rintro e w4 ⟨g, wm, om, wn, on_, ow4, rfl, hT, hl2, t1, n1, t2⟩
    replace t := ((t.trans (t1.up (by simp))).trans (n1.turn [1])).trans (t2.up (by simp))
    clear hl t1 n1 t2 hlen Hc Hs hcB hyl
    generalize (runS (us.map cl) ys (List.replicate us.length 0, [])).1 = C at *
    generalize (runS (us.map cl) ys (List.replicate us.length 0, [])).2 = T at *
    rw [show us.length = (us.map cl).length from (List.length_map _).symm] at hl2
    generalize us.map cl = us' at *
    have hl := hl2
    clear hl2
    obtain ⟨Al, cL, rfl, -⟩ := hl.slice
    go_wp2_with fail
    go_loopg [8] us'.length (fun gn i wr => usRel w g (.slice Al us'.length cL) us' C T gn i wr)
    case atStart => exact ⟨0, ow4, rfl, Nat.zero_le _, rfl, hT, hl, t⟩
    case round =>
      clear hT hl t
      obtain ⟨r, OW, hgr, hr, rfl, hT, hl, t⟩ := hrel
      have Hgr := Lib.hid hgr
      clear hgr
      have hus : us'.length ≤ 16 := by obtain ⟨rr, hi, -⟩ := hT; exact hi.ul
      by_cases hrt : r < us'.length
      · obtain ⟨u, hu⟩ : ∃ u, us'[r]? = some u := ⟨_, List.getElem?_eq_getElem hrt⟩
        obtain ⟨bl, offl, capl, hvl, -⟩ := row_at hl rfl r u hu
        simp only [Value.slice.injEq] at hvl
        obtain ⟨rfl, -, rfl⟩ := hvl
        have hub : 1 ≤ u ∧ u ≤ 255 := by obtain ⟨rr, hi, -⟩ := hT; exact hi.ub u (List.mem_of_getElem? hu)
        have hfq := freeQ_nat (T := T) hu
        have hfb : 0 ≤ u - usedT T r ∧ u - usedT T r ≤ 255 := by obtain ⟨rr, hi, -⟩ := hT; have := hi.free r; unfold freeT at this; rw [unitsOf_at hu] at this; exact this
        obtain ⟨fr, hfr⟩ : ∃ fr, u - usedT T r = fr := ⟨_, rfl⟩
        rw [hfr] at hfq hfb
        have Hu := Lib.hid hu
        have Hfq := Lib.hid hfq
        have Hfr := Lib.hid hfr
        clear hu hfq hfr
        go_wp2_with fail
        refine (free wr OW [1, 1] g us' C T hT r).mono ?_
        rw [Hfq.out]
        rintro e w11 ⟨rfl, bb⟩
        have nn := bb.nw OW
        replace hT := hT.new_ nn
        replace hl := hl.new_ nn
        replace t := t.trans (nn.turn [1])
        clear nn
        clear bb
        go_wp2_with fail
        refine (holders w11 OW [1, 1] [1, 5] g us' C T hT r).mono ?_
        rintro e w12 ⟨v5, ow12, hs, rfl, his, hsl, hz, nn, -⟩
        replace hT := hT.new_ nn
        replace hl := hl.new_ nn
        replace t := t.trans (nn.turn [1])
        clear nn
        have hsum : sumN hs = usedT T r := by obtain ⟨rr, hi, -⟩ := hT; exact holders_sum hi.pos his
        have hle : ∀ x ∈ hs, x.n = heldT T x.job r ∧ 1 ≤ x.n ∧ x.n ≤ 255 := by obtain ⟨rr, hi, -⟩ := hT; exact fun x hx => hi.hold_le his hx
        have Hsum := Lib.hid hsum
        have Hle := Lib.hid hle
        have Hrise := Lib.hid his.1
        clear hsum hle his
        obtain ⟨Ah, ch, rfl, -⟩ := hz.slice
        go_wp2_with fail
        go_loopg [9, 11] hs.length (fun gn s i wr => uiRel w g (.slice (some ⟨bl, offl, none⟩) us'.length cL) (.slice Ah hs.length ch) us' C T fr hs gn s i wr)
        case atStart => exact ⟨0, ow12, fr, rfl, Nat.zero_le _, rfl, rfl, by simp [sumN], hT, hl, hz, t⟩
        case round =>
          clear hT hl hz t
          obtain ⟨m, OX, S, hgm, hm, rfl, rfl, hS, hT, hl, hz, t⟩ := hrel
          have Hgm := Lib.hid hgm
          clear hgm
          have hSb : 0 ≤ sumN (hs.take m) ∧ sumN (hs.take m) ≤ 255 * 4080 := by
            have h1 := sumN_le (hs.take m) fun x hx => by have := Hle.out x (List.mem_of_mem_take hx); omega
            have h2 := List.length_take_le m hs
            omega
          have hSb2 : 0 ≤ S ∧ S ≤ 2000000 := by omega
          clear hSb
          have HS := Lib.hid hS
          clear hS
          by_cases hmt : m < hs.length
          · obtain ⟨x, hx⟩ : ∃ x, hs[m]? = some x := ⟨_, List.getElem?_eq_getElem hmt⟩
            obtain ⟨hxn, hx1, hx2⟩ := Hle.out x (List.mem_of_getElem? hx)
            obtain ⟨bh, offh, caph, hvh, -⟩ := hz.at (by omega)
            simp only [Value.slice.injEq, true_and] at hvh
            obtain ⟨rfl, rfl⟩ := hvh
            have i0 : (m : Int) < (hs.length : Int) := by omega
            have n1 : ¬ x.n < 1 := by omega
            have heq : heldQ us' T x.job r = x.n := by rw [heldQ_nat x.job (by omega)]; exact hxn.symm
            have hsn := sumN_snoc hs m x hx
            have Hx := Lib.hid hx
            have Heq := Lib.hid heq
            have Hxn := Lib.hid hxn
            have Hsn := Lib.hid hsn
            clear hx heq hxn hsn
            rcases Nat.eq_zero_or_pos m with hm0 | hm0
            · have im : ¬ 0 < (m : Int) := by omega
              have im0 : ¬ 0 < m := by omega
              have im9 : decide (0 < m) = false := decide_eq_false im0
              clear hm0
              go_upto_region 15 with fail
              refine plain_regionN (fun W' : World => W'.cell? ⟨bh, offh + m * 2, none⟩ = some (.int .i64 x.job) ∧ W'.cell? ⟨bh, offh + m * 2 + 1, none⟩ = some (.int .i64 x.n)) [] (by kernel_rfl) ?_
              have nn : New wr OX wr.drew OX := (New.refl _ _).drew
              replace hT := hT.new_ nn
              replace hl := hl.new_ nn
              replace hz := hz.new_ nn
              replace t := t.trans (nn.turn [1])
              clear nn
              generalize wr.drew = w31 at *
              obtain ⟨x0, x1⟩ := hold_c hz m x Hx.out
              have hS : (fun W' : World => W'.cell? ⟨bh, offh + m * 2, none⟩ = some (.int .i64 x.job) ∧ W'.cell? ⟨bh, offh + m * 2 + 1, none⟩ = some (.int .i64 x.n)) w31 := ⟨x0, x1⟩
              refine anyX_takeNL 0 (v := ?_) rfl rfl (by as_aux_lemma => kernel_rfl) (by as_aux_lemma => kernel_rfl) (by as_aux_lemma => kernel_rfl) (by as_aux_lemma => kernel_rfl) (by as_aux_lemma => kernel_rfl) (fun _ _ _ h => h) rfl ?_ hS ?_
              rotate_left
              · intro W' hW'
                obtain ⟨s0, s1⟩ := hW'
                all_goals (go_simp; first | done | rfl)
              intro l' hl
              dsimp only [List.set_cons_succ, List.set_cons_zero] at hl
              subst hl
              refine anyX_takeNL 1 (v := ?_) rfl rfl (by as_aux_lemma => kernel_rfl) (by as_aux_lemma => kernel_rfl) (by as_aux_lemma => kernel_rfl) (by as_aux_lemma => kernel_rfl) (by as_aux_lemma => kernel_rfl) (fun _ _ _ h => h) rfl ?_ hS ?_
              rotate_left
              · intro W' hW'
                obtain ⟨s0, s1⟩ := hW'
                all_goals (go_simp; first | done | rfl)
              intro l' hl
              dsimp only [List.set_cons_succ, List.set_cons_zero] at hl
              subst hl
              refine anyX_takeNL 2 (v := ?_) rfl rfl (by as_aux_lemma => kernel_rfl) (by as_aux_lemma => kernel_rfl) (by as_aux_lemma => kernel_rfl) (by as_aux_lemma => kernel_rfl) (by as_aux_lemma => kernel_rfl) (fun _ _ _ h => h) rfl ?_ hS ?_
              rotate_left
              · intro W' hW'
                obtain ⟨s0, s1⟩ := hW'
                all_goals (go_simp; first | done | rfl)
              intro l' hl
              dsimp only [List.set_cons_succ, List.set_cons_zero] at hl
              subst hl
              refine anyX_takeNL 3 (v := ?_) rfl rfl (by as_aux_lemma => kernel_rfl) (by as_aux_lemma => kernel_rfl) (by as_aux_lemma => kernel_rfl) (by as_aux_lemma => kernel_rfl) (by as_aux_lemma => kernel_rfl) (fun _ _ _ h => h) rfl ?_ hS ?_
              rotate_left
              · intro W' hW'
                obtain ⟨s0, s1⟩ := hW'
                all_goals (go_simp; first | done | rfl)
              intro l' hl
              dsimp only [List.set_cons_succ, List.set_cons_zero] at hl
              subst hl
              refine anyX_takeNL 4 (v := ?_) rfl rfl (by as_aux_lemma => kernel_rfl) (by as_aux_lemma => kernel_rfl) (by as_aux_lemma => kernel_rfl) (by as_aux_lemma => kernel_rfl) (by as_aux_lemma => kernel_rfl) (fun _ _ _ h => h) rfl ?_ hS ?_
              rotate_left
              · intro W' hW'
                obtain ⟨s0, s1⟩ := hW'
                all_goals (go_simp; first | done | rfl)
              intro l' hl
              dsimp only [List.set_cons_succ, List.set_cons_zero] at hl
              subst hl
              refine anyX_takeNL 5 (v := ?_) rfl rfl (by as_aux_lemma => kernel_rfl) (by as_aux_lemma => kernel_rfl) (by as_aux_lemma => kernel_rfl) (by as_aux_lemma => kernel_rfl) (by as_aux_lemma => kernel_rfl) (fun _ _ _ h => h) rfl ?_ hS ?_
              rotate_left
              · intro W' hW'
                obtain ⟨s0, s1⟩ := hW'
                all_goals (go_simp; first | done | rfl)
              intro l' hl
              dsimp only [List.set_cons_succ, List.set_cons_zero] at hl
              subst hl
              refine anyX_takeNL 6 (v := ?_) rfl rfl (by as_aux_lemma => kernel_rfl) (by as_aux_lemma => kernel_rfl) (by as_aux_lemma => kernel_rfl) (by as_aux_lemma => kernel_rfl) (by as_aux_lemma => kernel_rfl) (fun _ _ _ h => h) rfl ?_ hS ?_
              rotate_left
              · intro W' hW'
                obtain ⟨s0, s1⟩ := hW'
                all_goals (go_simp; first | done | rfl)
              intro l' hl
              dsimp only [List.set_cons_succ, List.set_cons_zero] at hl
              subst hl
              refine anyX_takeWL 7 (v := ?_) rfl rfl (by as_aux_lemma => kernel_rfl) (by as_aux_lemma => kernel_rfl) (by as_aux_lemma => kernel_rfl) (by as_aux_lemma => kernel_rfl) (by as_aux_lemma => kernel_rfl) (fun _ _ _ h => h) (by rfl) ?_ hS ?_
              rotate_left
              · intro W' hW'
                obtain ⟨s0, s1⟩ := hW'
                all_goals (go_simp; first | done | rfl)
              intro l' hl
              dsimp only [List.set_cons_succ, List.set_cons_zero] at hl
              subst hl
              refine anyX_takeWL 8 (v := ?_) rfl rfl (by as_aux_lemma => kernel_rfl) (by as_aux_lemma => kernel_rfl) (by as_aux_lemma => kernel_rfl) (by as_aux_lemma => kernel_rfl) (by as_aux_lemma => kernel_rfl) (fun _ _ _ h => h) (by rfl) ?_ hS ?_
              rotate_left
              · intro W' hW'
                obtain ⟨s0, s1⟩ := hW'
                all_goals (go_simp; first | done | rfl)
              intro l' hl
              dsimp only [List.set_cons_succ, List.set_cons_zero] at hl
              subst hl
              refine anyX_takeWL 9 (v := ?_) rfl rfl (by as_aux_lemma => kernel_rfl) (by as_aux_lemma => kernel_rfl) (by as_aux_lemma => kernel_rfl) (by as_aux_lemma => kernel_rfl) (by as_aux_lemma => kernel_rfl) (fun _ _ _ h => h) (by rfl) ?_ hS ?_
              rotate_left
              · intro W' hW'
                obtain ⟨s0, s1⟩ := hW'
                all_goals (go_simp; first | done | rfl)
              intro l' hl
              dsimp only [List.set_cons_succ, List.set_cons_zero] at hl
              subst hl
              refine anyX_takeWL 10 (v := ?_) rfl rfl (by as_aux_lemma => kernel_rfl) (by as_aux_lemma => kernel_rfl) (by as_aux_lemma => kernel_rfl) (by as_aux_lemma => kernel_rfl) (by as_aux_lemma => kernel_rfl) (fun _ _ _ h => h) (by rfl) ?_ hS ?_
              rotate_left
              · intro W' hW'
                obtain ⟨s0, s1⟩ := hW'
                all_goals (go_simp; first | done | rfl)
              intro l' hl
              dsimp only [List.set_cons_succ, List.set_cons_zero] at hl
              subst hl
              refine anyX_takeWL 11 (v := ?_) rfl rfl (by as_aux_lemma => kernel_rfl) (by as_aux_lemma => kernel_rfl) (by as_aux_lemma => kernel_rfl) (by as_aux_lemma => kernel_rfl) (by as_aux_lemma => kernel_rfl) (fun _ _ _ h => h) (by rfl) ?_ hS ?_
              rotate_left
              · intro W' hW'
                obtain ⟨s0, s1⟩ := hW'
                all_goals (go_simp; first | done | rfl)
              intro l' hl
              dsimp only [List.set_cons_succ, List.set_cons_zero] at hl
              subst hl
              refine anyX_takeWL 12 (v := ?_) rfl rfl (by as_aux_lemma => kernel_rfl) (by as_aux_lemma => kernel_rfl) (by as_aux_lemma => kernel_rfl) (by as_aux_lemma => kernel_rfl) (by as_aux_lemma => kernel_rfl) (fun _ _ _ h => h) (by rfl) ?_ hS ?_
              rotate_left
              · intro W' hW'
                obtain ⟨s0, s1⟩ := hW'
                all_goals (go_simp; first | done | rfl)
              intro l' hl
              dsimp only [List.set_cons_succ, List.set_cons_zero] at hl
              subst hl
              refine anyX_takeWL 13 (v := ?_) rfl rfl (by as_aux_lemma => kernel_rfl) (by as_aux_lemma => kernel_rfl) (by as_aux_lemma => kernel_rfl) (by as_aux_lemma => kernel_rfl) (by as_aux_lemma => kernel_rfl) (fun _ _ _ h => h) (by rfl) ?_ hS ?_
              rotate_left
              · intro W' hW'
                obtain ⟨s0, s1⟩ := hW'
                all_goals (go_simp; first | done | rfl)
              intro l' hl
              dsimp only [List.set_cons_succ, List.set_cons_zero] at hl
              subst hl
              refine anyX_takeWL 14 (v := ?_) rfl rfl (by as_aux_lemma => kernel_rfl) (by as_aux_lemma => kernel_rfl) (by as_aux_lemma => kernel_rfl) (by as_aux_lemma => kernel_rfl) (by as_aux_lemma => kernel_rfl) (fun _ _ _ h => h) (by rfl) ?_ hS ?_
              rotate_left
              · intro W' hW'
                obtain ⟨s0, s1⟩ := hW'
                all_goals (go_simp; first | done | rfl)
              intro l' hl
              dsimp only [List.set_cons_succ, List.set_cons_zero] at hl
              subst hl
              refine anyX_takeWL 15 (v := ?_) rfl rfl (by as_aux_lemma => kernel_rfl) (by as_aux_lemma => kernel_rfl) (by as_aux_lemma => kernel_rfl) (by as_aux_lemma => kernel_rfl) (by as_aux_lemma => kernel_rfl) (fun _ _ _ h => h) (by rfl) ?_ hS ?_
              rotate_left
              · intro W' hW'
                obtain ⟨s0, s1⟩ := hW'
                all_goals (go_simp; first | done | rfl)
              intro l' hl
              dsimp only [List.set_cons_succ, List.set_cons_zero] at hl
              subst hl
              refine anyX_takeWL 16 (v := ?_) rfl rfl (by as_aux_lemma => kernel_rfl) (by as_aux_lemma => kernel_rfl) (by as_aux_lemma => kernel_rfl) (by as_aux_lemma => kernel_rfl) (by as_aux_lemma => kernel_rfl) (fun _ _ _ h => h) (by rfl) ?_ hS ?_
              rotate_left
              · intro W' hW'
                obtain ⟨s0, s1⟩ := hW'
                all_goals (go_simp; first | done | rfl)
              intro l' hl
              dsimp only [List.set_cons_succ, List.set_cons_zero] at hl
              subst hl
              refine anyX_takeWL 17 (v := ?_) rfl rfl (by as_aux_lemma => kernel_rfl) (by as_aux_lemma => kernel_rfl) (by as_aux_lemma => kernel_rfl) (by as_aux_lemma => kernel_rfl) (by as_aux_lemma => kernel_rfl) (fun _ _ _ h => h) (by rfl) ?_ hS ?_
              rotate_left
              · intro W' hW'
                obtain ⟨s0, s1⟩ := hW'
                all_goals (go_simp; first | done | rfl)
              intro l' hl
              dsimp only [List.set_cons_succ, List.set_cons_zero] at hl
              subst hl
              refine anyX_takeWL 18 (v := ?_) rfl rfl (by as_aux_lemma => kernel_rfl) (by as_aux_lemma => kernel_rfl) (by as_aux_lemma => kernel_rfl) (by as_aux_lemma => kernel_rfl) (by as_aux_lemma => kernel_rfl) (fun _ _ _ h => h) (by rfl) ?_ hS ?_
              rotate_left
              · intro W' hW'
                obtain ⟨s0, s1⟩ := hW'
                all_goals (go_simp; first | done | rfl)
              intro l' hl
              dsimp only [List.set_cons_succ, List.set_cons_zero] at hl
              subst hl
              refine anyX_oneW (i := 19) (by kernel_rfl) rfl (by rfl) fun K' hK' => ?_
              unfold Oper.wp
              go_simp
              clear hS x0 x1
              refine (held w31 OX [1, 1] g us' C T hT x.job r).mono ?_
              rw [Heq.out]
              rintro e w32 ⟨rfl, bb⟩
              have nn := bb.nw OX
              replace hT := hT.new_ nn
              replace hl := hl.new_ nn
              replace hz := hz.new_ nn
              replace t := t.trans (nn.turn [1])
              clear nn
              clear bb
              obtain ⟨x0, x1⟩ := hold_c hz m x Hx.out
              have hS : (fun W' : World => W'.cell? ⟨bh, offh + m * 2, none⟩ = some (.int .i64 x.job) ∧ W'.cell? ⟨bh, offh + m * 2 + 1, none⟩ = some (.int .i64 x.n)) w32 := ⟨x0, x1⟩
              refine hK' _ _ (fun _ => hS) ?_
              clear hK' K'
              refine anyX_takeWL 20 (v := ?_) rfl rfl (by as_aux_lemma => kernel_rfl) (by as_aux_lemma => kernel_rfl) (by as_aux_lemma => kernel_rfl) (by as_aux_lemma => kernel_rfl) (by as_aux_lemma => kernel_rfl) (fun _ _ _ h => h) (by rfl) ?_ hS ?_
              rotate_left
              · intro W' hW'
                obtain ⟨s0, s1⟩ := hW'
                all_goals (go_simp; first | done | rfl)
              intro l' hl
              dsimp only [List.set_cons_succ, List.set_cons_zero] at hl
              subst hl
              refine anyX_takeNL 21 (v := ?_) rfl rfl (by as_aux_lemma => kernel_rfl) (by as_aux_lemma => kernel_rfl) (by as_aux_lemma => kernel_rfl) (by as_aux_lemma => kernel_rfl) (by as_aux_lemma => kernel_rfl) (fun _ _ _ h => h) rfl ?_ hS ?_
              rotate_left
              · intro W' hW'
                obtain ⟨s0, s1⟩ := hW'
                all_goals (go_simp; first | done | rfl)
              intro l' hl
              dsimp only [List.set_cons_succ, List.set_cons_zero] at hl
              subst hl
              refine anyX_takeNL 22 (v := ?_) rfl rfl (by as_aux_lemma => kernel_rfl) (by as_aux_lemma => kernel_rfl) (by as_aux_lemma => kernel_rfl) (by as_aux_lemma => kernel_rfl) (by as_aux_lemma => kernel_rfl) (fun _ _ _ h => h) rfl ?_ hS ?_
              rotate_left
              · intro W' hW'
                obtain ⟨s0, s1⟩ := hW'
                all_goals (go_simp; first | done | rfl)
              intro l' hl
              dsimp only [List.set_cons_succ, List.set_cons_zero] at hl
              subst hl
              refine anyX_takeWL 23 (v := ?_) rfl rfl (by as_aux_lemma => kernel_rfl) (by as_aux_lemma => kernel_rfl) (by as_aux_lemma => kernel_rfl) (by as_aux_lemma => kernel_rfl) (by as_aux_lemma => kernel_rfl) (fun _ _ _ h => h) (by rfl) ?_ hS ?_
              rotate_left
              · intro W' hW'
                obtain ⟨s0, s1⟩ := hW'
                all_goals (go_simp; first | done | rfl)
              intro l' hl
              dsimp only [List.set_cons_succ, List.set_cons_zero] at hl
              subst hl
              refine anyX_takeWL 24 (v := ?_) rfl rfl (by as_aux_lemma => kernel_rfl) (by as_aux_lemma => kernel_rfl) (by as_aux_lemma => kernel_rfl) (by as_aux_lemma => kernel_rfl) (by as_aux_lemma => kernel_rfl) (fun _ _ _ h => h) (by rfl) ?_ hS ?_
              rotate_left
              · intro W' hW'
                obtain ⟨s0, s1⟩ := hW'
                all_goals (go_simp; first | done | rfl)
              intro l' hl
              dsimp only [List.set_cons_succ, List.set_cons_zero] at hl
              subst hl
              refine anyX_takeWL 25 (v := ?_) rfl rfl (by as_aux_lemma => kernel_rfl) (by as_aux_lemma => kernel_rfl) (by as_aux_lemma => kernel_rfl) (by as_aux_lemma => kernel_rfl) (by as_aux_lemma => kernel_rfl) (fun _ _ _ h => h) (by rfl) ?_ hS ?_
              rotate_left
              · intro W' hW'
                obtain ⟨s0, s1⟩ := hW'
                all_goals (go_simp; first | done | rfl)
              intro l' hl
              dsimp only [List.set_cons_succ, List.set_cons_zero] at hl
              subst hl
              refine anyX_takeUL 26 rfl rfl (by as_aux_lemma => kernel_rfl) (by as_aux_lemma => kernel_rfl) (by as_aux_lemma => kernel_rfl) (by as_aux_lemma => kernel_rfl) (by as_aux_lemma => kernel_rfl) (fun _ _ _ h => h) (by rfl) hS ?_
              intro l' hl
              dsimp only [List.set_cons_succ, List.set_cons_zero] at hl
              subst hl
              refine anyX_takeUL 27 rfl rfl (by as_aux_lemma => kernel_rfl) (by as_aux_lemma => kernel_rfl) (by as_aux_lemma => kernel_rfl) (by as_aux_lemma => kernel_rfl) (by as_aux_lemma => kernel_rfl) (fun _ _ _ h => h) (by rfl) hS ?_
              intro l' hl
              dsimp only [List.set_cons_succ, List.set_cons_zero] at hl
              subst hl
              refine anyX_takeUL 28 rfl rfl (by as_aux_lemma => kernel_rfl) (by as_aux_lemma => kernel_rfl) (by as_aux_lemma => kernel_rfl) (by as_aux_lemma => kernel_rfl) (by as_aux_lemma => kernel_rfl) (fun _ _ _ h => h) (by rfl) hS ?_
              intro l' hl
              dsimp only [List.set_cons_succ, List.set_cons_zero] at hl
              subst hl
              refine anyX_takeUL 29 rfl rfl (by as_aux_lemma => kernel_rfl) (by as_aux_lemma => kernel_rfl) (by as_aux_lemma => kernel_rfl) (by as_aux_lemma => kernel_rfl) (by as_aux_lemma => kernel_rfl) (fun _ _ _ h => h) (by rfl) hS ?_
              intro l' hl
              dsimp only [List.set_cons_succ, List.set_cons_zero] at hl
              subst hl
              refine anyX_takeUL 30 rfl rfl (by as_aux_lemma => kernel_rfl) (by as_aux_lemma => kernel_rfl) (by as_aux_lemma => kernel_rfl) (by as_aux_lemma => kernel_rfl) (by as_aux_lemma => kernel_rfl) (fun _ _ _ h => h) (by rfl) hS ?_
              intro l' hl
              dsimp only [List.set_cons_succ, List.set_cons_zero] at hl
              subst hl
              refine anyX_takeUL 31 rfl rfl (by as_aux_lemma => kernel_rfl) (by as_aux_lemma => kernel_rfl) (by as_aux_lemma => kernel_rfl) (by as_aux_lemma => kernel_rfl) (by as_aux_lemma => kernel_rfl) (fun _ _ _ h => h) (by rfl) hS ?_
              intro l' hl
              dsimp only [List.set_cons_succ, List.set_cons_zero] at hl
              subst hl
              refine anyX_takeUL 32 rfl rfl (by as_aux_lemma => kernel_rfl) (by as_aux_lemma => kernel_rfl) (by as_aux_lemma => kernel_rfl) (by as_aux_lemma => kernel_rfl) (by as_aux_lemma => kernel_rfl) (fun _ _ _ h => h) (by rfl) hS ?_
              intro l' hl
              dsimp only [List.set_cons_succ, List.set_cons_zero] at hl
              subst hl
              refine anyX_takeUL 33 rfl rfl (by as_aux_lemma => kernel_rfl) (by as_aux_lemma => kernel_rfl) (by as_aux_lemma => kernel_rfl) (by as_aux_lemma => kernel_rfl) (by as_aux_lemma => kernel_rfl) (fun _ _ _ h => h) (by rfl) hS ?_
              intro l' hl
              dsimp only [List.set_cons_succ, List.set_cons_zero] at hl
              subst hl
              refine anyX_takeUL 34 rfl rfl (by as_aux_lemma => kernel_rfl) (by as_aux_lemma => kernel_rfl) (by as_aux_lemma => kernel_rfl) (by as_aux_lemma => kernel_rfl) (by as_aux_lemma => kernel_rfl) (fun _ _ _ h => h) (by rfl) hS ?_
              intro l' hl
              dsimp only [List.set_cons_succ, List.set_cons_zero] at hl
              subst hl
              refine anyX_takeUL 35 rfl rfl (by as_aux_lemma => kernel_rfl) (by as_aux_lemma => kernel_rfl) (by as_aux_lemma => kernel_rfl) (by as_aux_lemma => kernel_rfl) (by as_aux_lemma => kernel_rfl) (fun _ _ _ h => h) (by rfl) hS ?_
              intro l' hl
              dsimp only [List.set_cons_succ, List.set_cons_zero] at hl
              subst hl
              refine anyX_takeUL 36 rfl rfl (by as_aux_lemma => kernel_rfl) (by as_aux_lemma => kernel_rfl) (by as_aux_lemma => kernel_rfl) (by as_aux_lemma => kernel_rfl) (by as_aux_lemma => kernel_rfl) (fun _ _ _ h => h) (by rfl) hS ?_
              intro l' hl
              dsimp only [List.set_cons_succ, List.set_cons_zero] at hl
              subst hl
              refine anyX_takeUL 37 rfl rfl (by as_aux_lemma => kernel_rfl) (by as_aux_lemma => kernel_rfl) (by as_aux_lemma => kernel_rfl) (by as_aux_lemma => kernel_rfl) (by as_aux_lemma => kernel_rfl) (fun _ _ _ h => h) (by rfl) hS ?_
              intro l' hl
              dsimp only [List.set_cons_succ, List.set_cons_zero] at hl
              subst hl
              refine anyX_takeWL 38 (v := ?_) rfl rfl (by as_aux_lemma => kernel_rfl) (by as_aux_lemma => kernel_rfl) (by as_aux_lemma => kernel_rfl) (by as_aux_lemma => kernel_rfl) (by as_aux_lemma => kernel_rfl) (fun _ _ _ h => h) (by rfl) ?_ hS ?_
              rotate_left
              · intro W' hW'
                obtain ⟨s0, s1⟩ := hW'
                all_goals (go_simp; first | done | rfl)
              intro l' hl
              dsimp only [List.set_cons_succ, List.set_cons_zero] at hl
              subst hl
              refine anyX_takeNL 39 (v := ?_) rfl rfl (by as_aux_lemma => kernel_rfl) (by as_aux_lemma => kernel_rfl) (by as_aux_lemma => kernel_rfl) (by as_aux_lemma => kernel_rfl) (by as_aux_lemma => kernel_rfl) (fun _ _ _ h => h) rfl ?_ hS ?_
              rotate_left
              · intro W' hW'
                obtain ⟨s0, s1⟩ := hW'
                all_goals (go_simp; first | done | rfl)
              intro l' hl
              dsimp only [List.set_cons_succ, List.set_cons_zero] at hl
              subst hl
              refine anyX_done (by kernel_rfl) ?_ _
              refine NoPanic.normal ?_
              clear hS x0 x1
              have hll := locks_len T x.job
              have hlT : T.length ≤ 4080 := by obtain ⟨rr, hi, -⟩ := hT; exact hi.len
              have hlk : ∀ l ∈ locksOf T x.job, 0 ≤ l.n ∧ l.n ≤ 255 := by obtain ⟨rr, hi, -⟩ := hT; exact fun l hl => hi.lock_le hl
              have Hlk := Lib.hid hlk
              clear hlk
              obtain ⟨x0, x1⟩ := hold_c hz m x Hx.out
              go_wp2_with fail
              refine (locks w32 OX [1, 1] g us' C T [1, 6] hT x.job).mono ?_
              rintro e w33 ⟨v6, ow33, rfl, hq, nn, -⟩
              replace hT := hT.new_ nn
              replace hl := hl.new_ nn
              replace hz := hz.new_ nn
              replace t := t.trans (nn.turn [1])
              clear nn
              clear x0 x1
              have Hxh := Hxn
              unfold heldT at Hxh
              generalize locksOf T x.job = ls at *
              obtain ⟨Aq, cq, rfl, -⟩ := hq.slice
              go_wp2_with fail
              go_loopg [12, 14] ls.length (fun gn n k wr => ukkRel w g (.slice (some ⟨bl, offl, none⟩) us'.length cL) (.slice (some ⟨bh, offh, none⟩) hs.length ch) (.slice Aq ls.length cq) us' C T r hs ls gn n k wr)
              case atStart => exact ⟨0, ow33, 0, rfl, Nat.zero_le _, rfl, rfl, by simp [heldL], hT, hl, hz, hq, t⟩
              case round =>
                clear hT hl hz hq t
                obtain ⟨k, OZ, N, hgk, hk, rfl, rfl, hN, hT, hl, hz, hq, t⟩ := hrel
                have Hgk := Lib.hid hgk
                clear hgk
                have hNb : 0 ≤ heldL (ls.take k) r ∧ heldL (ls.take k) r ≤ 255 * 4080 := by
                  have h1 := heldL_le r (ls.take k) fun l hl => Hlk.out l (List.mem_of_mem_take hl)
                  have h2 := List.length_take_le k ls
                  omega
                have hNb2 : 0 ≤ N ∧ N ≤ 2000000 := by omega
                clear hNb
                have HN := Lib.hid hN
                clear hN
                by_cases hkt : k < ls.length
                · obtain ⟨l, hl0⟩ : ∃ l, ls[k]? = some l := ⟨_, List.getElem?_eq_getElem hkt⟩
                  obtain ⟨bq, offq, capq, hvq, -⟩ := hq.at (by omega)
                  simp only [Value.slice.injEq, true_and] at hvq
                  obtain ⟨rfl, rfl⟩ := hvq
                  have j0 : (k : Int) < (ls.length : Int) := by omega
                  obtain ⟨q0, q1⟩ := lock_c hq k l hl0
                  have hlb := Hlk.out l (List.mem_of_getElem? hl0)
                  have hsk := heldL_take (r : Int) ls k l hl0
                  have Hl0 := Lib.hid hl0
                  clear hl0
                  by_cases hlr : l.res = (r : Int)
                  · rw [if_pos hlr] at hsk
                    have blr : (l.res == (r : Int)) = true := beq_iff_eq.2 hlr
                    rw [hlr] at q0
                    have Hsk := Lib.hid hsk
                    clear hsk hlr
                    go_wp2_with fail
                    go_roundg (ls.length - (k + 1))
                    case measure => have := Hgk.out; omega
                    case rel => exact ⟨k + 1, OZ, N + l.n, rfl, by omega, by go_num, by go_num, by rw [Hsk.out, HN.out], hT, hl, hz, hq, t⟩
                  · rw [if_neg hlr] at hsk
                    have blr : (l.res == (r : Int)) = false := beq_eq_false_iff_ne.2 hlr
                    have Hsk := Lib.hid hsk
                    clear hsk hlr
                    go_wp2_with fail
                    go_roundg (ls.length - (k + 1))
                    case measure => have := Hgk.out; omega
                    case rel => exact ⟨k + 1, OZ, N, rfl, by omega, by go_num, rfl, by rw [Hsk.out, HN.out]; omega, hT, hl, hz, hq, t⟩
                · obtain rfl : k = ls.length := by omega
                  have hNx : N = x.n := by have h1 := HN.out; have h2 := Hxh.out; rw [List.take_length] at h1; omega
                  subst hNx
                  obtain ⟨x0, x1⟩ := hold_c hz m x Hx.out
                  clear hkt Hgk
                  go_wp2_with fail
                  go_roundg (hs.length - (m + 1))
                  case measure => have := Hgm.out; omega
                  case rel => exact ⟨m + 1, OZ, S + x.n, rfl, by omega, by go_num, by go_num, by rw [Hsn.out, HS.out]; omega, hT, hl, hz, t⟩
            · obtain ⟨m', hm'⟩ : ∃ m', m = m' + 1 := ⟨m - 1, by omega⟩
              obtain ⟨y, hy⟩ : ∃ y, hs[m']? = some y := ⟨_, List.getElem?_eq_getElem (by omega)⟩
              have im : 0 < (m : Int) := by omega
              have im0 : 0 < m := by omega
              have im9 : decide (0 < m) = true := decide_eq_true im0
              have im' : (m : Int) - 1 = (m' : Int) := by omega
              have im2 : (m' : Int) < (hs.length : Int) := by omega
              have im3 : IntKind.i64.wrap (m' : Int) = (m' : Int) := by rw [IntKind.wrap_i64]; omega
              have im4 : m' < hs.length := by omega
              have hyx : ¬ x.job ≤ y.job := by
                obtain ⟨h1, e1⟩ := List.getElem?_eq_some_iff.1 hy
                obtain ⟨h2, e2⟩ := List.getElem?_eq_some_iff.1 Hx.out
                have := List.pairwise_iff_getElem.1 Hrise.out m' m h1 h2 (by omega)
                rw [e1, e2] at this
                omega
              have Hy := Lib.hid hy
              clear hy hm' hm0
              go_upto_region 15 with fail
              refine plain_regionN (fun W' : World => W'.cell? ⟨bh, offh + m * 2, none⟩ = some (.int .i64 x.job) ∧ W'.cell? ⟨bh, offh + m * 2 + 1, none⟩ = some (.int .i64 x.n) ∧ W'.cell? ⟨bh, offh + m' * 2, none⟩ = some (.int .i64 y.job)) [] (by kernel_rfl) ?_
              have nn : New wr OX wr.drew OX := (New.refl _ _).drew
              replace hT := hT.new_ nn
              replace hl := hl.new_ nn
              replace hz := hz.new_ nn
              replace t := t.trans (nn.turn [1])
              clear nn
              generalize wr.drew = w61 at *
              obtain ⟨x0, x1⟩ := hold_c hz m x Hx.out
              obtain ⟨y0, -⟩ := hold_c hz m' y Hy.out
              have hS : (fun W' : World => W'.cell? ⟨bh, offh + m * 2, none⟩ = some (.int .i64 x.job) ∧ W'.cell? ⟨bh, offh + m * 2 + 1, none⟩ = some (.int .i64 x.n) ∧ W'.cell? ⟨bh, offh + m' * 2, none⟩ = some (.int .i64 y.job)) w61 := ⟨x0, x1, y0⟩
              refine anyX_takeNL 0 (v := ?_) rfl rfl (by as_aux_lemma => kernel_rfl) (by as_aux_lemma => kernel_rfl) (by as_aux_lemma => kernel_rfl) (by as_aux_lemma => kernel_rfl) (by as_aux_lemma => kernel_rfl) (fun _ _ _ h => h) rfl ?_ hS ?_
              rotate_left
              · intro W' hW'
                obtain ⟨s0, s1, s2⟩ := hW'
                all_goals (go_simp; first | done | rfl)
              intro l' hl
              dsimp only [List.set_cons_succ, List.set_cons_zero] at hl
              subst hl
              refine anyX_takeNL 1 (v := ?_) rfl rfl (by as_aux_lemma => kernel_rfl) (by as_aux_lemma => kernel_rfl) (by as_aux_lemma => kernel_rfl) (by as_aux_lemma => kernel_rfl) (by as_aux_lemma => kernel_rfl) (fun _ _ _ h => h) rfl ?_ hS ?_
              rotate_left
              · intro W' hW'
                obtain ⟨s0, s1, s2⟩ := hW'
                all_goals (go_simp; first | done | rfl)
              intro l' hl
              dsimp only [List.set_cons_succ, List.set_cons_zero] at hl
              subst hl
              refine anyX_takeNL 2 (v := ?_) rfl rfl (by as_aux_lemma => kernel_rfl) (by as_aux_lemma => kernel_rfl) (by as_aux_lemma => kernel_rfl) (by as_aux_lemma => kernel_rfl) (by as_aux_lemma => kernel_rfl) (fun _ _ _ h => h) rfl ?_ hS ?_
              rotate_left
              · intro W' hW'
                obtain ⟨s0, s1, s2⟩ := hW'
                all_goals (go_simp; first | done | rfl)
              intro l' hl
              dsimp only [List.set_cons_succ, List.set_cons_zero] at hl
              subst hl
              refine anyX_takeNL 3 (v := ?_) rfl rfl (by as_aux_lemma => kernel_rfl) (by as_aux_lemma => kernel_rfl) (by as_aux_lemma => kernel_rfl) (by as_aux_lemma => kernel_rfl) (by as_aux_lemma => kernel_rfl) (fun _ _ _ h => h) rfl ?_ hS ?_
              rotate_left
              · intro W' hW'
                obtain ⟨s0, s1, s2⟩ := hW'
                all_goals (go_simp; first | done | rfl)
              intro l' hl
              dsimp only [List.set_cons_succ, List.set_cons_zero] at hl
              subst hl
              refine anyX_takeNL 4 (v := ?_) rfl rfl (by as_aux_lemma => kernel_rfl) (by as_aux_lemma => kernel_rfl) (by as_aux_lemma => kernel_rfl) (by as_aux_lemma => kernel_rfl) (by as_aux_lemma => kernel_rfl) (fun _ _ _ h => h) rfl ?_ hS ?_
              rotate_left
              · intro W' hW'
                obtain ⟨s0, s1, s2⟩ := hW'
                all_goals (go_simp; first | done | rfl)
              intro l' hl
              dsimp only [List.set_cons_succ, List.set_cons_zero] at hl
              subst hl
              refine anyX_takeNL 5 (v := ?_) rfl rfl (by as_aux_lemma => kernel_rfl) (by as_aux_lemma => kernel_rfl) (by as_aux_lemma => kernel_rfl) (by as_aux_lemma => kernel_rfl) (by as_aux_lemma => kernel_rfl) (fun _ _ _ h => h) rfl ?_ hS ?_
              rotate_left
              · intro W' hW'
                obtain ⟨s0, s1, s2⟩ := hW'
                all_goals (go_simp; first | done | rfl)
              intro l' hl
              dsimp only [List.set_cons_succ, List.set_cons_zero] at hl
              subst hl
              refine anyX_takeNL 6 (v := ?_) rfl rfl (by as_aux_lemma => kernel_rfl) (by as_aux_lemma => kernel_rfl) (by as_aux_lemma => kernel_rfl) (by as_aux_lemma => kernel_rfl) (by as_aux_lemma => kernel_rfl) (fun _ _ _ h => h) rfl ?_ hS ?_
              rotate_left
              · intro W' hW'
                obtain ⟨s0, s1, s2⟩ := hW'
                all_goals (go_simp; first | done | rfl)
              intro l' hl
              dsimp only [List.set_cons_succ, List.set_cons_zero] at hl
              subst hl
              refine anyX_takeWL 7 (v := ?_) rfl rfl (by as_aux_lemma => kernel_rfl) (by as_aux_lemma => kernel_rfl) (by as_aux_lemma => kernel_rfl) (by as_aux_lemma => kernel_rfl) (by as_aux_lemma => kernel_rfl) (fun _ _ _ h => h) (by rfl) ?_ hS ?_
              rotate_left
              · intro W' hW'
                obtain ⟨s0, s1, s2⟩ := hW'
                all_goals (go_simp; first | done | rfl)
              intro l' hl
              dsimp only [List.set_cons_succ, List.set_cons_zero] at hl
              subst hl
              refine anyX_takeWL 8 (v := ?_) rfl rfl (by as_aux_lemma => kernel_rfl) (by as_aux_lemma => kernel_rfl) (by as_aux_lemma => kernel_rfl) (by as_aux_lemma => kernel_rfl) (by as_aux_lemma => kernel_rfl) (fun _ _ _ h => h) (by rfl) ?_ hS ?_
              rotate_left
              · intro W' hW'
                obtain ⟨s0, s1, s2⟩ := hW'
                all_goals (go_simp; first | done | rfl)
              intro l' hl
              dsimp only [List.set_cons_succ, List.set_cons_zero] at hl
              subst hl
              refine anyX_takeWL 9 (v := ?_) rfl rfl (by as_aux_lemma => kernel_rfl) (by as_aux_lemma => kernel_rfl) (by as_aux_lemma => kernel_rfl) (by as_aux_lemma => kernel_rfl) (by as_aux_lemma => kernel_rfl) (fun _ _ _ h => h) (by rfl) ?_ hS ?_
              rotate_left
              · intro W' hW'
                obtain ⟨s0, s1, s2⟩ := hW'
                all_goals (go_simp; first | done | rfl)
              intro l' hl
              dsimp only [List.set_cons_succ, List.set_cons_zero] at hl
              subst hl
              refine anyX_takeWL 10 (v := ?_) rfl rfl (by as_aux_lemma => kernel_rfl) (by as_aux_lemma => kernel_rfl) (by as_aux_lemma => kernel_rfl) (by as_aux_lemma => kernel_rfl) (by as_aux_lemma => kernel_rfl) (fun _ _ _ h => h) (by rfl) ?_ hS ?_
              rotate_left
              · intro W' hW'
                obtain ⟨s0, s1, s2⟩ := hW'
                all_goals (go_simp; first | done | rfl)
              intro l' hl
              dsimp only [List.set_cons_succ, List.set_cons_zero] at hl
              subst hl
              refine anyX_takeWL 11 (v := ?_) rfl rfl (by as_aux_lemma => kernel_rfl) (by as_aux_lemma => kernel_rfl) (by as_aux_lemma => kernel_rfl) (by as_aux_lemma => kernel_rfl) (by as_aux_lemma => kernel_rfl) (fun _ _ _ h => h) (by rfl) ?_ hS ?_
              rotate_left
              · intro W' hW'
                obtain ⟨s0, s1, s2⟩ := hW'
                all_goals (go_simp; first | done | rfl)
              intro l' hl
              dsimp only [List.set_cons_succ, List.set_cons_zero] at hl
              subst hl
              refine anyX_takeWL 12 (v := ?_) rfl rfl (by as_aux_lemma => kernel_rfl) (by as_aux_lemma => kernel_rfl) (by as_aux_lemma => kernel_rfl) (by as_aux_lemma => kernel_rfl) (by as_aux_lemma => kernel_rfl) (fun _ _ _ h => h) (by rfl) ?_ hS ?_
              rotate_left
              · intro W' hW'
                obtain ⟨s0, s1, s2⟩ := hW'
                all_goals (go_simp; first | done | rfl)
              intro l' hl
              dsimp only [List.set_cons_succ, List.set_cons_zero] at hl
              subst hl
              refine anyX_takeWL 13 (v := ?_) rfl rfl (by as_aux_lemma => kernel_rfl) (by as_aux_lemma => kernel_rfl) (by as_aux_lemma => kernel_rfl) (by as_aux_lemma => kernel_rfl) (by as_aux_lemma => kernel_rfl) (fun _ _ _ h => h) (by rfl) ?_ hS ?_
              rotate_left
              · intro W' hW'
                obtain ⟨s0, s1, s2⟩ := hW'
                all_goals (go_simp; first | done | rfl)
              intro l' hl
              dsimp only [List.set_cons_succ, List.set_cons_zero] at hl
              subst hl
              refine anyX_takeWL 14 (v := ?_) rfl rfl (by as_aux_lemma => kernel_rfl) (by as_aux_lemma => kernel_rfl) (by as_aux_lemma => kernel_rfl) (by as_aux_lemma => kernel_rfl) (by as_aux_lemma => kernel_rfl) (fun _ _ _ h => h) (by rfl) ?_ hS ?_
              rotate_left
              · intro W' hW'
                obtain ⟨s0, s1, s2⟩ := hW'
                all_goals (go_simp; first | done | rfl)
              intro l' hl
              dsimp only [List.set_cons_succ, List.set_cons_zero] at hl
              subst hl
              refine anyX_takeWL 15 (v := ?_) rfl rfl (by as_aux_lemma => kernel_rfl) (by as_aux_lemma => kernel_rfl) (by as_aux_lemma => kernel_rfl) (by as_aux_lemma => kernel_rfl) (by as_aux_lemma => kernel_rfl) (fun _ _ _ h => h) (by rfl) ?_ hS ?_
              rotate_left
              · intro W' hW'
                obtain ⟨s0, s1, s2⟩ := hW'
                all_goals (go_simp; first | done | rfl)
              intro l' hl
              dsimp only [List.set_cons_succ, List.set_cons_zero] at hl
              subst hl
              refine anyX_takeWL 16 (v := ?_) rfl rfl (by as_aux_lemma => kernel_rfl) (by as_aux_lemma => kernel_rfl) (by as_aux_lemma => kernel_rfl) (by as_aux_lemma => kernel_rfl) (by as_aux_lemma => kernel_rfl) (fun _ _ _ h => h) (by rfl) ?_ hS ?_
              rotate_left
              · intro W' hW'
                obtain ⟨s0, s1, s2⟩ := hW'
                all_goals (go_simp; first | done | rfl)
              intro l' hl
              dsimp only [List.set_cons_succ, List.set_cons_zero] at hl
              subst hl
              refine anyX_takeWL 17 (v := ?_) rfl rfl (by as_aux_lemma => kernel_rfl) (by as_aux_lemma => kernel_rfl) (by as_aux_lemma => kernel_rfl) (by as_aux_lemma => kernel_rfl) (by as_aux_lemma => kernel_rfl) (fun _ _ _ h => h) (by rfl) ?_ hS ?_
              rotate_left
              · intro W' hW'
                obtain ⟨s0, s1, s2⟩ := hW'
                all_goals (go_simp; first | done | rfl)
              intro l' hl
              dsimp only [List.set_cons_succ, List.set_cons_zero] at hl
              subst hl
              refine anyX_takeWL 18 (v := ?_) rfl rfl (by as_aux_lemma => kernel_rfl) (by as_aux_lemma => kernel_rfl) (by as_aux_lemma => kernel_rfl) (by as_aux_lemma => kernel_rfl) (by as_aux_lemma => kernel_rfl) (fun _ _ _ h => h) (by rfl) ?_ hS ?_
              rotate_left
              · intro W' hW'
                obtain ⟨s0, s1, s2⟩ := hW'
                all_goals (go_simp; first | done | rfl)
              intro l' hl
              dsimp only [List.set_cons_succ, List.set_cons_zero] at hl
              subst hl
              refine anyX_oneW (i := 19) (by kernel_rfl) rfl (by rfl) fun K' hK' => ?_
              unfold Oper.wp
              go_simp
              clear hS x0 x1 y0
              refine (held w61 OX [1, 1] g us' C T hT x.job r).mono ?_
              rw [Heq.out]
              rintro e w62 ⟨rfl, bb⟩
              have nn := bb.nw OX
              replace hT := hT.new_ nn
              replace hl := hl.new_ nn
              replace hz := hz.new_ nn
              replace t := t.trans (nn.turn [1])
              clear nn
              clear bb
              obtain ⟨x0, x1⟩ := hold_c hz m x Hx.out
              obtain ⟨y0, -⟩ := hold_c hz m' y Hy.out
              have hS : (fun W' : World => W'.cell? ⟨bh, offh + m * 2, none⟩ = some (.int .i64 x.job) ∧ W'.cell? ⟨bh, offh + m * 2 + 1, none⟩ = some (.int .i64 x.n) ∧ W'.cell? ⟨bh, offh + m' * 2, none⟩ = some (.int .i64 y.job)) w62 := ⟨x0, x1, y0⟩
              refine hK' _ _ (fun _ => hS) ?_
              clear hK' K'
              refine anyX_takeWL 20 (v := ?_) rfl rfl (by as_aux_lemma => kernel_rfl) (by as_aux_lemma => kernel_rfl) (by as_aux_lemma => kernel_rfl) (by as_aux_lemma => kernel_rfl) (by as_aux_lemma => kernel_rfl) (fun _ _ _ h => h) (by rfl) ?_ hS ?_
              rotate_left
              · intro W' hW'
                obtain ⟨s0, s1, s2⟩ := hW'
                all_goals (go_simp; first | done | rfl)
              intro l' hl
              dsimp only [List.set_cons_succ, List.set_cons_zero] at hl
              subst hl
              refine anyX_takeNL 21 (v := ?_) rfl rfl (by as_aux_lemma => kernel_rfl) (by as_aux_lemma => kernel_rfl) (by as_aux_lemma => kernel_rfl) (by as_aux_lemma => kernel_rfl) (by as_aux_lemma => kernel_rfl) (fun _ _ _ h => h) rfl ?_ hS ?_
              rotate_left
              · intro W' hW'
                obtain ⟨s0, s1, s2⟩ := hW'
                all_goals (go_simp; first | done | rfl)
              intro l' hl
              dsimp only [List.set_cons_succ, List.set_cons_zero] at hl
              subst hl
              refine anyX_takeNL 22 (v := ?_) rfl rfl (by as_aux_lemma => kernel_rfl) (by as_aux_lemma => kernel_rfl) (by as_aux_lemma => kernel_rfl) (by as_aux_lemma => kernel_rfl) (by as_aux_lemma => kernel_rfl) (fun _ _ _ h => h) rfl ?_ hS ?_
              rotate_left
              · intro W' hW'
                obtain ⟨s0, s1, s2⟩ := hW'
                all_goals (go_simp; first | done | rfl)
              intro l' hl
              dsimp only [List.set_cons_succ, List.set_cons_zero] at hl
              subst hl
              refine anyX_takeWL 23 (v := ?_) rfl rfl (by as_aux_lemma => kernel_rfl) (by as_aux_lemma => kernel_rfl) (by as_aux_lemma => kernel_rfl) (by as_aux_lemma => kernel_rfl) (by as_aux_lemma => kernel_rfl) (fun _ _ _ h => h) (by rfl) ?_ hS ?_
              rotate_left
              · intro W' hW'
                obtain ⟨s0, s1, s2⟩ := hW'
                all_goals (go_simp; first | done | rfl)
              intro l' hl
              dsimp only [List.set_cons_succ, List.set_cons_zero] at hl
              subst hl
              refine anyX_takeWL 24 (v := ?_) rfl rfl (by as_aux_lemma => kernel_rfl) (by as_aux_lemma => kernel_rfl) (by as_aux_lemma => kernel_rfl) (by as_aux_lemma => kernel_rfl) (by as_aux_lemma => kernel_rfl) (fun _ _ _ h => h) (by rfl) ?_ hS ?_
              rotate_left
              · intro W' hW'
                obtain ⟨s0, s1, s2⟩ := hW'
                all_goals (go_simp; first | done | rfl)
              intro l' hl
              dsimp only [List.set_cons_succ, List.set_cons_zero] at hl
              subst hl
              refine anyX_takeWL 25 (v := ?_) rfl rfl (by as_aux_lemma => kernel_rfl) (by as_aux_lemma => kernel_rfl) (by as_aux_lemma => kernel_rfl) (by as_aux_lemma => kernel_rfl) (by as_aux_lemma => kernel_rfl) (fun _ _ _ h => h) (by rfl) ?_ hS ?_
              rotate_left
              · intro W' hW'
                obtain ⟨s0, s1, s2⟩ := hW'
                all_goals (go_simp; first | done | rfl)
              intro l' hl
              dsimp only [List.set_cons_succ, List.set_cons_zero] at hl
              subst hl
              refine anyX_takeWL 26 (v := ?_) rfl rfl (by as_aux_lemma => kernel_rfl) (by as_aux_lemma => kernel_rfl) (by as_aux_lemma => kernel_rfl) (by as_aux_lemma => kernel_rfl) (by as_aux_lemma => kernel_rfl) (fun _ _ _ h => h) (by rfl) ?_ hS ?_
              rotate_left
              · intro W' hW'
                obtain ⟨s0, s1, s2⟩ := hW'
                all_goals (go_simp; first | done | rfl)
              intro l' hl
              dsimp only [List.set_cons_succ, List.set_cons_zero] at hl
              subst hl
              refine anyX_takeWL 27 (v := ?_) rfl rfl (by as_aux_lemma => kernel_rfl) (by as_aux_lemma => kernel_rfl) (by as_aux_lemma => kernel_rfl) (by as_aux_lemma => kernel_rfl) (by as_aux_lemma => kernel_rfl) (fun _ _ _ h => h) (by rfl) ?_ hS ?_
              rotate_left
              · intro W' hW'
                obtain ⟨s0, s1, s2⟩ := hW'
                all_goals (go_simp; first | done | rfl)
              intro l' hl
              dsimp only [List.set_cons_succ, List.set_cons_zero] at hl
              subst hl
              refine anyX_takeWL 28 (v := ?_) rfl rfl (by as_aux_lemma => kernel_rfl) (by as_aux_lemma => kernel_rfl) (by as_aux_lemma => kernel_rfl) (by as_aux_lemma => kernel_rfl) (by as_aux_lemma => kernel_rfl) (fun _ _ _ h => h) (by rfl) ?_ hS ?_
              rotate_left
              · intro W' hW'
                obtain ⟨s0, s1, s2⟩ := hW'
                all_goals (go_simp; first | done | rfl)
              intro l' hl
              dsimp only [List.set_cons_succ, List.set_cons_zero] at hl
              subst hl
              refine anyX_takeWL 29 (v := ?_) rfl rfl (by as_aux_lemma => kernel_rfl) (by as_aux_lemma => kernel_rfl) (by as_aux_lemma => kernel_rfl) (by as_aux_lemma => kernel_rfl) (by as_aux_lemma => kernel_rfl) (fun _ _ _ h => h) (by rfl) ?_ hS ?_
              rotate_left
              · intro W' hW'
                obtain ⟨s0, s1, s2⟩ := hW'
                all_goals (go_simp; first | done | rfl)
              intro l' hl
              dsimp only [List.set_cons_succ, List.set_cons_zero] at hl
              subst hl
              refine anyX_takeWL 30 (v := ?_) rfl rfl (by as_aux_lemma => kernel_rfl) (by as_aux_lemma => kernel_rfl) (by as_aux_lemma => kernel_rfl) (by as_aux_lemma => kernel_rfl) (by as_aux_lemma => kernel_rfl) (fun _ _ _ h => h) (by rfl) ?_ hS ?_
              rotate_left
              · intro W' hW'
                obtain ⟨s0, s1, s2⟩ := hW'
                all_goals (go_simp; first | done | rfl)
              intro l' hl
              dsimp only [List.set_cons_succ, List.set_cons_zero] at hl
              subst hl
              refine anyX_takeWL 31 (v := ?_) rfl rfl (by as_aux_lemma => kernel_rfl) (by as_aux_lemma => kernel_rfl) (by as_aux_lemma => kernel_rfl) (by as_aux_lemma => kernel_rfl) (by as_aux_lemma => kernel_rfl) (fun _ _ _ h => h) (by rfl) ?_ hS ?_
              rotate_left
              · intro W' hW'
                obtain ⟨s0, s1, s2⟩ := hW'
                all_goals (go_simp; first | done | rfl)
              intro l' hl
              dsimp only [List.set_cons_succ, List.set_cons_zero] at hl
              subst hl
              refine anyX_takeWL 32 (v := ?_) rfl rfl (by as_aux_lemma => kernel_rfl) (by as_aux_lemma => kernel_rfl) (by as_aux_lemma => kernel_rfl) (by as_aux_lemma => kernel_rfl) (by as_aux_lemma => kernel_rfl) (fun _ _ _ h => h) (by rfl) ?_ hS ?_
              rotate_left
              · intro W' hW'
                obtain ⟨s0, s1, s2⟩ := hW'
                all_goals (go_simp; first | done | rfl)
              intro l' hl
              dsimp only [List.set_cons_succ, List.set_cons_zero] at hl
              subst hl
              refine anyX_takeWL 33 (v := ?_) rfl rfl (by as_aux_lemma => kernel_rfl) (by as_aux_lemma => kernel_rfl) (by as_aux_lemma => kernel_rfl) (by as_aux_lemma => kernel_rfl) (by as_aux_lemma => kernel_rfl) (fun _ _ _ h => h) (by rfl) ?_ hS ?_
              rotate_left
              · intro W' hW'
                obtain ⟨s0, s1, s2⟩ := hW'
                all_goals (go_simp; first | done | rfl)
              intro l' hl
              dsimp only [List.set_cons_succ, List.set_cons_zero] at hl
              subst hl
              refine anyX_takeWL 34 (v := ?_) rfl rfl (by as_aux_lemma => kernel_rfl) (by as_aux_lemma => kernel_rfl) (by as_aux_lemma => kernel_rfl) (by as_aux_lemma => kernel_rfl) (by as_aux_lemma => kernel_rfl) (fun _ _ _ h => h) (by rfl) ?_ hS ?_
              rotate_left
              · intro W' hW'
                obtain ⟨s0, s1, s2⟩ := hW'
                all_goals (go_simp; first | done | rfl)
              intro l' hl
              dsimp only [List.set_cons_succ, List.set_cons_zero] at hl
              subst hl
              refine anyX_takeWL 35 (v := ?_) rfl rfl (by as_aux_lemma => kernel_rfl) (by as_aux_lemma => kernel_rfl) (by as_aux_lemma => kernel_rfl) (by as_aux_lemma => kernel_rfl) (by as_aux_lemma => kernel_rfl) (fun _ _ _ h => h) (by rfl) ?_ hS ?_
              rotate_left
              · intro W' hW'
                obtain ⟨s0, s1, s2⟩ := hW'
                all_goals (go_simp; first | done | rfl)
              intro l' hl
              dsimp only [List.set_cons_succ, List.set_cons_zero] at hl
              subst hl
              refine anyX_takeWL 36 (v := ?_) rfl rfl (by as_aux_lemma => kernel_rfl) (by as_aux_lemma => kernel_rfl) (by as_aux_lemma => kernel_rfl) (by as_aux_lemma => kernel_rfl) (by as_aux_lemma => kernel_rfl) (fun _ _ _ h => h) (by rfl) ?_ hS ?_
              rotate_left
              · intro W' hW'
                obtain ⟨s0, s1, s2⟩ := hW'
                all_goals (go_simp; first | done | rfl)
              intro l' hl
              dsimp only [List.set_cons_succ, List.set_cons_zero] at hl
              subst hl
              refine anyX_takeWL 37 (v := ?_) rfl rfl (by as_aux_lemma => kernel_rfl) (by as_aux_lemma => kernel_rfl) (by as_aux_lemma => kernel_rfl) (by as_aux_lemma => kernel_rfl) (by as_aux_lemma => kernel_rfl) (fun _ _ _ h => h) (by rfl) ?_ hS ?_
              rotate_left
              · intro W' hW'
                obtain ⟨s0, s1, s2⟩ := hW'
                all_goals (go_simp; first | done | rfl)
              intro l' hl
              dsimp only [List.set_cons_succ, List.set_cons_zero] at hl
              subst hl
              refine anyX_takeWL 38 (v := ?_) rfl rfl (by as_aux_lemma => kernel_rfl) (by as_aux_lemma => kernel_rfl) (by as_aux_lemma => kernel_rfl) (by as_aux_lemma => kernel_rfl) (by as_aux_lemma => kernel_rfl) (fun _ _ _ h => h) (by rfl) ?_ hS ?_
              rotate_left
              · intro W' hW'
                obtain ⟨s0, s1, s2⟩ := hW'
                all_goals (go_simp; first | done | rfl)
              intro l' hl
              dsimp only [List.set_cons_succ, List.set_cons_zero] at hl
              subst hl
              refine anyX_takeNL 39 (v := ?_) rfl rfl (by as_aux_lemma => kernel_rfl) (by as_aux_lemma => kernel_rfl) (by as_aux_lemma => kernel_rfl) (by as_aux_lemma => kernel_rfl) (by as_aux_lemma => kernel_rfl) (fun _ _ _ h => h) rfl ?_ hS ?_
              rotate_left
              · intro W' hW'
                obtain ⟨s0, s1, s2⟩ := hW'
                all_goals (go_simp; first | done | rfl)
              intro l' hl
              dsimp only [List.set_cons_succ, List.set_cons_zero] at hl
              subst hl
              refine anyX_done (by kernel_rfl) ?_ _
              refine NoPanic.normal ?_
              clear y0
              clear hS x0 x1
              have hll := locks_len T x.job
              have hlT : T.length ≤ 4080 := by obtain ⟨rr, hi, -⟩ := hT; exact hi.len
              have hlk : ∀ l ∈ locksOf T x.job, 0 ≤ l.n ∧ l.n ≤ 255 := by obtain ⟨rr, hi, -⟩ := hT; exact fun l hl => hi.lock_le hl
              have Hlk := Lib.hid hlk
              clear hlk
              obtain ⟨x0, x1⟩ := hold_c hz m x Hx.out
              go_wp2_with fail
              refine (locks w62 OX [1, 1] g us' C T [1, 6] hT x.job).mono ?_
              rintro e w63 ⟨v6, ow63, rfl, hq, nn, -⟩
              replace hT := hT.new_ nn
              replace hl := hl.new_ nn
              replace hz := hz.new_ nn
              replace t := t.trans (nn.turn [1])
              clear nn
              clear x0 x1
              have Hxh := Hxn
              unfold heldT at Hxh
              generalize locksOf T x.job = ls at *
              obtain ⟨Aq, cq, rfl, -⟩ := hq.slice
              go_wp2_with fail
              go_loopg [12, 14] ls.length (fun gn n k wr => ukkRel w g (.slice (some ⟨bl, offl, none⟩) us'.length cL) (.slice (some ⟨bh, offh, none⟩) hs.length ch) (.slice Aq ls.length cq) us' C T r hs ls gn n k wr)
              case atStart => exact ⟨0, ow63, 0, rfl, Nat.zero_le _, rfl, rfl, by simp [heldL], hT, hl, hz, hq, t⟩
              case round =>
                clear hT hl hz hq t
                obtain ⟨k, OZ, N, hgk, hk, rfl, rfl, hN, hT, hl, hz, hq, t⟩ := hrel
                have Hgk := Lib.hid hgk
                clear hgk
                have hNb : 0 ≤ heldL (ls.take k) r ∧ heldL (ls.take k) r ≤ 255 * 4080 := by
                  have h1 := heldL_le r (ls.take k) fun l hl => Hlk.out l (List.mem_of_mem_take hl)
                  have h2 := List.length_take_le k ls
                  omega
                have hNb2 : 0 ≤ N ∧ N ≤ 2000000 := by omega
                clear hNb
                have HN := Lib.hid hN
                clear hN
                by_cases hkt : k < ls.length
                · obtain ⟨l, hl0⟩ : ∃ l, ls[k]? = some l := ⟨_, List.getElem?_eq_getElem hkt⟩
                  obtain ⟨bq, offq, capq, hvq, -⟩ := hq.at (by omega)
                  simp only [Value.slice.injEq, true_and] at hvq
                  obtain ⟨rfl, rfl⟩ := hvq
                  have j0 : (k : Int) < (ls.length : Int) := by omega
                  obtain ⟨q0, q1⟩ := lock_c hq k l hl0
                  have hlb := Hlk.out l (List.mem_of_getElem? hl0)
                  have hsk := heldL_take (r : Int) ls k l hl0
                  have Hl0 := Lib.hid hl0
                  clear hl0
                  by_cases hlr : l.res = (r : Int)
                  · rw [if_pos hlr] at hsk
                    have blr : (l.res == (r : Int)) = true := beq_iff_eq.2 hlr
                    rw [hlr] at q0
                    have Hsk := Lib.hid hsk
                    clear hsk hlr
                    go_wp2_with fail
                    go_roundg (ls.length - (k + 1))
                    case measure => have := Hgk.out; omega
                    case rel => exact ⟨k + 1, OZ, N + l.n, rfl, by omega, by go_num, by go_num, by rw [Hsk.out, HN.out], hT, hl, hz, hq, t⟩
                  · rw [if_neg hlr] at hsk
                    have blr : (l.res == (r : Int)) = false := beq_eq_false_iff_ne.2 hlr
                    have Hsk := Lib.hid hsk
                    clear hsk hlr
                    go_wp2_with fail
                    go_roundg (ls.length - (k + 1))
                    case measure => have := Hgk.out; omega
                    case rel => exact ⟨k + 1, OZ, N, rfl, by omega, by go_num, rfl, by rw [Hsk.out, HN.out]; omega, hT, hl, hz, hq, t⟩
                · obtain rfl : k = ls.length := by omega
                  have hNx : N = x.n := by have h1 := HN.out; have h2 := Hxh.out; rw [List.take_length] at h1; omega
                  subst hNx
                  obtain ⟨x0, x1⟩ := hold_c hz m x Hx.out
                  clear hkt Hgk
                  go_wp2_with fail
                  go_roundg (hs.length - (m + 1))
                  case measure => have := Hgm.out; omega
                  case rel => exact ⟨m + 1, OZ, S + x.n, rfl, by omega, by go_num, by go_num, by rw [Hsn.out, HS.out]; omega, hT, hl, hz, t⟩
          · obtain rfl : m = hs.length := by omega
            have hSu : S = u := by have h1 := HS.out; have h2 := Hsum.out; have h3 := Hfr.out; rw [List.take_length] at h1; omega
            subst hSu
            clear hmt Hgm
            go_upto_region 27 with fail
            clear hz
            have iu : (r : Int) < (us'.length : Int) := by omega
            have fr0 : ¬ fr < 0 := by omega
            refine plain_regionN (fun W' : World => W'.cell? ⟨bl, offl + r, none⟩ = some (.int .i64 S)) [] (by kernel_rfl) ?_
            have nn : New wr OX wr.drew OX := (New.refl _ _).drew
            replace hT := hT.new_ nn
            replace hl := hl.new_ nn
            replace t := t.trans (nn.turn [1])
            clear nn
            generalize wr.drew = w91 at *
            have l0 : w91.cell? ⟨bl, offl + r, none⟩ = some (.int .i64 S) := by obtain ⟨b', off', cap', hv', -, e', -⟩ := row_at hl rfl r S Hu.out; simp only [Value.slice.injEq, Option.some.injEq, Addr.mk.injEq, and_true, true_and] at hv'; obtain ⟨⟨rfl, rfl⟩, -⟩ := hv'; exact e'
            have hS : (fun W' : World => W'.cell? ⟨bl, offl + r, none⟩ = some (.int .i64 S)) w91 := l0
            refine anyX_takeNL 0 (v := ?_) rfl rfl (by as_aux_lemma => kernel_rfl) (by as_aux_lemma => kernel_rfl) (by as_aux_lemma => kernel_rfl) (by as_aux_lemma => kernel_rfl) (by as_aux_lemma => kernel_rfl) (fun _ _ _ h => h) rfl ?_ hS ?_
            rotate_left
            · intro W' hW'
              obtain s0 := hW'
              all_goals (go_simp; first | done | rfl)
            intro l' hl
            dsimp only [List.set_cons_succ, List.set_cons_zero] at hl
            subst hl
            refine anyX_takeNL 1 (v := ?_) rfl rfl (by as_aux_lemma => kernel_rfl) (by as_aux_lemma => kernel_rfl) (by as_aux_lemma => kernel_rfl) (by as_aux_lemma => kernel_rfl) (by as_aux_lemma => kernel_rfl) (fun _ _ _ h => h) rfl ?_ hS ?_
            rotate_left
            · intro W' hW'
              obtain s0 := hW'
              all_goals (go_simp; first | done | rfl)
            intro l' hl
            dsimp only [List.set_cons_succ, List.set_cons_zero] at hl
            subst hl
            refine anyX_takeNL 2 (v := ?_) rfl rfl (by as_aux_lemma => kernel_rfl) (by as_aux_lemma => kernel_rfl) (by as_aux_lemma => kernel_rfl) (by as_aux_lemma => kernel_rfl) (by as_aux_lemma => kernel_rfl) (fun _ _ _ h => h) rfl ?_ hS ?_
            rotate_left
            · intro W' hW'
              obtain s0 := hW'
              all_goals (go_simp; first | done | rfl)
            intro l' hl
            dsimp only [List.set_cons_succ, List.set_cons_zero] at hl
            subst hl
            refine anyX_takeNL 3 (v := ?_) rfl rfl (by as_aux_lemma => kernel_rfl) (by as_aux_lemma => kernel_rfl) (by as_aux_lemma => kernel_rfl) (by as_aux_lemma => kernel_rfl) (by as_aux_lemma => kernel_rfl) (fun _ _ _ h => h) rfl ?_ hS ?_
            rotate_left
            · intro W' hW'
              obtain s0 := hW'
              all_goals (go_simp; first | done | rfl)
            intro l' hl
            dsimp only [List.set_cons_succ, List.set_cons_zero] at hl
            subst hl
            refine anyX_takeNL 4 (v := ?_) rfl rfl (by as_aux_lemma => kernel_rfl) (by as_aux_lemma => kernel_rfl) (by as_aux_lemma => kernel_rfl) (by as_aux_lemma => kernel_rfl) (by as_aux_lemma => kernel_rfl) (fun _ _ _ h => h) rfl ?_ hS ?_
            rotate_left
            · intro W' hW'
              obtain s0 := hW'
              all_goals (go_simp; first | done | rfl)
            intro l' hl
            dsimp only [List.set_cons_succ, List.set_cons_zero] at hl
            subst hl
            refine anyX_takeNL 5 (v := ?_) rfl rfl (by as_aux_lemma => kernel_rfl) (by as_aux_lemma => kernel_rfl) (by as_aux_lemma => kernel_rfl) (by as_aux_lemma => kernel_rfl) (by as_aux_lemma => kernel_rfl) (fun _ _ _ h => h) rfl ?_ hS ?_
            rotate_left
            · intro W' hW'
              obtain s0 := hW'
              all_goals (go_simp; first | done | rfl)
            intro l' hl
            dsimp only [List.set_cons_succ, List.set_cons_zero] at hl
            subst hl
            refine anyX_takeNL 6 (v := ?_) rfl rfl (by as_aux_lemma => kernel_rfl) (by as_aux_lemma => kernel_rfl) (by as_aux_lemma => kernel_rfl) (by as_aux_lemma => kernel_rfl) (by as_aux_lemma => kernel_rfl) (fun _ _ _ h => h) rfl ?_ hS ?_
            rotate_left
            · intro W' hW'
              obtain s0 := hW'
              all_goals (go_simp; first | done | rfl)
            intro l' hl
            dsimp only [List.set_cons_succ, List.set_cons_zero] at hl
            subst hl
            refine anyX_takeWL 7 (v := ?_) rfl rfl (by as_aux_lemma => kernel_rfl) (by as_aux_lemma => kernel_rfl) (by as_aux_lemma => kernel_rfl) (by as_aux_lemma => kernel_rfl) (by as_aux_lemma => kernel_rfl) (fun _ _ _ h => h) (by rfl) ?_ hS ?_
            rotate_left
            · intro W' hW'
              obtain s0 := hW'
              all_goals (go_simp; first | done | rfl)
            intro l' hl
            dsimp only [List.set_cons_succ, List.set_cons_zero] at hl
            subst hl
            refine anyX_takeWL 8 (v := ?_) rfl rfl (by as_aux_lemma => kernel_rfl) (by as_aux_lemma => kernel_rfl) (by as_aux_lemma => kernel_rfl) (by as_aux_lemma => kernel_rfl) (by as_aux_lemma => kernel_rfl) (fun _ _ _ h => h) (by rfl) ?_ hS ?_
            rotate_left
            · intro W' hW'
              obtain s0 := hW'
              all_goals (go_simp; first | done | rfl)
            intro l' hl
            dsimp only [List.set_cons_succ, List.set_cons_zero] at hl
            subst hl
            refine anyX_oneW (i := 9) (by kernel_rfl) rfl (by rfl) fun K' hK' => ?_
            unfold Oper.wp
            go_simp
            clear hS l0
            refine (free w91 OX [1, 1] g us' C T hT r).mono ?_
            rw [Hfq.out]
            rintro e w92 ⟨rfl, bb⟩
            have nn := bb.nw OX
            replace hT := hT.new_ nn
            replace hl := hl.new_ nn
            replace t := t.trans (nn.turn [1])
            clear nn
            clear bb
            have l0 : w92.cell? ⟨bl, offl + r, none⟩ = some (.int .i64 S) := by obtain ⟨b', off', cap', hv', -, e', -⟩ := row_at hl rfl r S Hu.out; simp only [Value.slice.injEq, Option.some.injEq, Addr.mk.injEq, and_true, true_and] at hv'; obtain ⟨⟨rfl, rfl⟩, -⟩ := hv'; exact e'
            have hS : (fun W' : World => W'.cell? ⟨bl, offl + r, none⟩ = some (.int .i64 S)) w92 := l0
            refine hK' _ _ (fun _ => hS) ?_
            clear hK' K'
            refine anyX_takeWL 10 (v := ?_) rfl rfl (by as_aux_lemma => kernel_rfl) (by as_aux_lemma => kernel_rfl) (by as_aux_lemma => kernel_rfl) (by as_aux_lemma => kernel_rfl) (by as_aux_lemma => kernel_rfl) (fun _ _ _ h => h) (by rfl) ?_ hS ?_
            rotate_left
            · intro W' hW'
              obtain s0 := hW'
              all_goals (go_simp; first | done | rfl)
            intro l' hl
            dsimp only [List.set_cons_succ, List.set_cons_zero] at hl
            subst hl
            refine anyX_takeNL 11 (v := ?_) rfl rfl (by as_aux_lemma => kernel_rfl) (by as_aux_lemma => kernel_rfl) (by as_aux_lemma => kernel_rfl) (by as_aux_lemma => kernel_rfl) (by as_aux_lemma => kernel_rfl) (fun _ _ _ h => h) rfl ?_ hS ?_
            rotate_left
            · intro W' hW'
              obtain s0 := hW'
              all_goals (go_simp; first | done | rfl)
            intro l' hl
            dsimp only [List.set_cons_succ, List.set_cons_zero] at hl
            subst hl
            refine anyX_takeNL 12 (v := ?_) rfl rfl (by as_aux_lemma => kernel_rfl) (by as_aux_lemma => kernel_rfl) (by as_aux_lemma => kernel_rfl) (by as_aux_lemma => kernel_rfl) (by as_aux_lemma => kernel_rfl) (fun _ _ _ h => h) rfl ?_ hS ?_
            rotate_left
            · intro W' hW'
              obtain s0 := hW'
              all_goals (go_simp; first | done | rfl)
            intro l' hl
            dsimp only [List.set_cons_succ, List.set_cons_zero] at hl
            subst hl
            refine anyX_takeWL 13 (v := ?_) rfl rfl (by as_aux_lemma => kernel_rfl) (by as_aux_lemma => kernel_rfl) (by as_aux_lemma => kernel_rfl) (by as_aux_lemma => kernel_rfl) (by as_aux_lemma => kernel_rfl) (fun _ _ _ h => h) (by rfl) ?_ hS ?_
            rotate_left
            · intro W' hW'
              obtain s0 := hW'
              all_goals (go_simp; first | done | rfl)
            intro l' hl
            dsimp only [List.set_cons_succ, List.set_cons_zero] at hl
            subst hl
            refine anyX_takeWL 14 (v := ?_) rfl rfl (by as_aux_lemma => kernel_rfl) (by as_aux_lemma => kernel_rfl) (by as_aux_lemma => kernel_rfl) (by as_aux_lemma => kernel_rfl) (by as_aux_lemma => kernel_rfl) (fun _ _ _ h => h) (by rfl) ?_ hS ?_
            rotate_left
            · intro W' hW'
              obtain s0 := hW'
              all_goals (go_simp; first | done | rfl)
            intro l' hl
            dsimp only [List.set_cons_succ, List.set_cons_zero] at hl
            subst hl
            refine anyX_takeWL 16 (v := ?_) rfl rfl (by as_aux_lemma => kernel_rfl) (by as_aux_lemma => kernel_rfl) (by as_aux_lemma => kernel_rfl) (by as_aux_lemma => kernel_rfl) (by as_aux_lemma => kernel_rfl) (fun _ _ _ h => h) (by rfl) ?_ hS ?_
            rotate_left
            · intro W' hW'
              obtain s0 := hW'
              all_goals (go_simp; first | done | rfl)
            intro l' hl
            dsimp only [List.set_cons_succ, List.set_cons_zero] at hl
            subst hl
            refine anyX_takeWL 17 (v := ?_) rfl rfl (by as_aux_lemma => kernel_rfl) (by as_aux_lemma => kernel_rfl) (by as_aux_lemma => kernel_rfl) (by as_aux_lemma => kernel_rfl) (by as_aux_lemma => kernel_rfl) (fun _ _ _ h => h) (by rfl) ?_ hS ?_
            rotate_left
            · intro W' hW'
              obtain s0 := hW'
              all_goals (go_simp; first | done | rfl)
            intro l' hl
            dsimp only [List.set_cons_succ, List.set_cons_zero] at hl
            subst hl
            refine anyX_takeWL 18 (v := ?_) rfl rfl (by as_aux_lemma => kernel_rfl) (by as_aux_lemma => kernel_rfl) (by as_aux_lemma => kernel_rfl) (by as_aux_lemma => kernel_rfl) (by as_aux_lemma => kernel_rfl) (fun _ _ _ h => h) (by rfl) ?_ hS ?_
            rotate_left
            · intro W' hW'
              obtain s0 := hW'
              all_goals (go_simp; first | done | rfl)
            intro l' hl
            dsimp only [List.set_cons_succ, List.set_cons_zero] at hl
            subst hl
            refine anyX_takeWL 19 (v := ?_) rfl rfl (by as_aux_lemma => kernel_rfl) (by as_aux_lemma => kernel_rfl) (by as_aux_lemma => kernel_rfl) (by as_aux_lemma => kernel_rfl) (by as_aux_lemma => kernel_rfl) (fun _ _ _ h => h) (by rfl) ?_ hS ?_
            rotate_left
            · intro W' hW'
              obtain s0 := hW'
              all_goals (go_simp; first | done | rfl)
            intro l' hl
            dsimp only [List.set_cons_succ, List.set_cons_zero] at hl
            subst hl
            refine anyX_oneW (i := 15) (by kernel_rfl) rfl (by rfl) fun K' hK' => ?_
            unfold Oper.wp
            go_simp
            clear hS l0
            refine (total w92 OX [1, 1] g us' C T hT r).mono ?_
            rw [unitsOf_at Hu.out]
            rintro e w93 ⟨rfl, bb⟩
            have nn := bb.nw OX
            replace hT := hT.new_ nn
            replace hl := hl.new_ nn
            replace t := t.trans (nn.turn [1])
            clear nn
            clear bb
            have l0 : w93.cell? ⟨bl, offl + r, none⟩ = some (.int .i64 S) := by obtain ⟨b', off', cap', hv', -, e', -⟩ := row_at hl rfl r S Hu.out; simp only [Value.slice.injEq, Option.some.injEq, Addr.mk.injEq, and_true, true_and] at hv'; obtain ⟨⟨rfl, rfl⟩, -⟩ := hv'; exact e'
            have hS : (fun W' : World => W'.cell? ⟨bl, offl + r, none⟩ = some (.int .i64 S)) w93 := l0
            refine hK' _ _ (fun _ => hS) ?_
            clear hK' K'
            refine anyX_takeWL 20 (v := ?_) rfl rfl (by as_aux_lemma => kernel_rfl) (by as_aux_lemma => kernel_rfl) (by as_aux_lemma => kernel_rfl) (by as_aux_lemma => kernel_rfl) (by as_aux_lemma => kernel_rfl) (fun _ _ _ h => h) (by rfl) ?_ hS ?_
            rotate_left
            · intro W' hW'
              obtain s0 := hW'
              all_goals (go_simp; first | done | rfl)
            intro l' hl
            dsimp only [List.set_cons_succ, List.set_cons_zero] at hl
            subst hl
            refine anyX_takeNL 21 (v := ?_) rfl rfl (by as_aux_lemma => kernel_rfl) (by as_aux_lemma => kernel_rfl) (by as_aux_lemma => kernel_rfl) (by as_aux_lemma => kernel_rfl) (by as_aux_lemma => kernel_rfl) (fun _ _ _ h => h) rfl ?_ hS ?_
            rotate_left
            · intro W' hW'
              obtain s0 := hW'
              all_goals (go_simp; first | done | rfl)
            intro l' hl
            dsimp only [List.set_cons_succ, List.set_cons_zero] at hl
            subst hl
            refine anyX_done (by kernel_rfl) ?_ _
            refine NoPanic.normal ?_
            clear hS l0
            go_wp2_with fail
            go_roundg (us'.length - (r + 1))
            case measure => have := Hgr.out; omega
            case rel => exact ⟨r + 1, OX, rfl, by omega, by go_num, hT, hl, t⟩
      · obtain rfl : r = us'.length := by omega
        clear hrt Hgr
        have fin := (t.new_ ow0 [1]).below
        clear hT hl t
        go_wp2_with fail
        refine (runs wr).mono ?_
        rintro e w92 ⟨rfl, b5⟩
        have fin := fin.trans (b5.mono fin.size)
        go_wp2
        go_ret
        exact ⟨rfl, fin⟩

end UN
end Go.Proofs.Ytefagdbdimpcdaa
