/-
  LAW 5: UnitsKept: the walk.
-/
import Derived.Test.YtefagdbdimpcdaaELkA
import Derived.Test.YtefagdbdimpcdaaEHdA
import Derived.Test.YtefagdbdimpcdaaEIntA2
import Derived.Test.YtefagdbdimpcdaaUR
import Derived.Test.YtefagdbdimpcdaaUB
import Derived.Deep.CutRange
import Derived.Deep.CutBlock
import Derived.Deep.DeepCutAuto
set_option linter.unusedVariables false
set_option linter.unusedSimpArgs false
namespace Go.Proofs.Ytefagdbdimpcdaa
open Go Go.RowKit
namespace UN

theorem EOp_at (w : World) (b off : Nat) (xs : List Op5) (h : EOp.Cov w (some ⟨b, off, none⟩) (EOp.css xs)) (k : Nat) (x : Op5) (hx : xs[k]? = some x) : w.cell? ⟨b, off + k * 6 + 1, none⟩ = some (.int .i64 x.job) ∧ w.cell? ⟨b, off + k * 6 + 2, none⟩ = some (.int .i64 x.res) := by
  obtain ⟨b', off', e, -, c1, c2, -⟩ := h.at k x hx
  simp only [Option.some.injEq, Addr.mk.injEq, and_true] at e
  obtain ⟨rfl, rfl⟩ := e
  exact ⟨c1, c2⟩
/-- The three books. -/
def bksP (w : World) (wb : World) (ob : Ow) (g : Nat) (us C : List Int) (T : List Tk) (W : World) : Prop :=
  ∃ OW, EHd.Book W OW [1, 2] w.heap.size 0 0 ∧ ELk.Book W OW [1, 3] (w.heap.size + 1) 0 0 ∧ EInt.Book W OW [1, 4] (w.heap.size + 1 + 1) 0 0 ∧ UT W OW [1, 1] g us C T ∧ Turn [1] wb ob W OW
set_option maxHeartbeats 1000000 in
theorem bks (w : World) (ow : Ow) (wb : World) (ob : Ow) (g : Nat) (us C : List Int) (T : List Tk) (hT : UT w ow [1, 1] g us C T) (t : Turn [1] wb ob w ow) (a b c : TypeId) : bksP w wb ob g us C T (((w.alloc (.cells #[.slice none 0 0, .slice none 0 0, .int .i64 0, .bool false] a)).alloc (.cells #[.slice none 0 0, .slice none 0 0, .int .i64 0, .bool false] b)).alloc (.cells #[.slice none 0 0, .slice none 0 0, .int .i64 0, .bool false] c)) := by
  obtain ⟨o0, c0, n0, z0⟩ := SH.add_cells w ow [1, 2, 0] [.slice none 0 0, .slice none 0 0, .int .i64 0, .bool false] a
  generalize w.alloc (.cells #[.slice none 0 0, .slice none 0 0, .int .i64 0, .bool false] a) = w0 at *
  obtain ⟨o1, c1, n1, z1⟩ := SH.add_cells w0 o0 [1, 3, 0] [.slice none 0 0, .slice none 0 0, .int .i64 0, .bool false] b
  generalize w0.alloc (.cells #[.slice none 0 0, .slice none 0 0, .int .i64 0, .bool false] b) = w1 at *
  obtain ⟨o2, c2, n2, z2⟩ := SH.add_cells w1 o1 [1, 4, 0] [.slice none 0 0, .slice none 0 0, .int .i64 0, .bool false] c
  generalize w1.alloc (.cells #[.slice none 0 0, .slice none 0 0, .int .i64 0, .bool false] c) = w2 at *
  rw [z0] at c1
  have s2 : w1.heap.size = w.heap.size + 2 := by omega
  rw [s2] at c2
  exact ⟨o2, EHd.Book.nil 0 ((c0.new_ n1).new_ n2), ELk.Book.nil 0 (c1.new_ n2), EInt.Book.nil 0 c2, ((hT.new_ n0).new_ n1).new_ n2, ((t.trans (n0.turn [1])).trans (n1.turn [1])).trans (n2.turn [1])⟩

/-- What the loop keeps. -/
def ukRel (w : World) (g gh gl gc : Nat) (us : List Int) (N : Nat) (gn : Nat) (i : Value) (wr : World) : Prop :=
  ∃ (k : Nat) (OW : Ow) (C : List Int) (T : List Tk), gn = N - k ∧ k ≤ N ∧ i = .int .i64 (k : Int) ∧ UT wr OW [1, 1] g us C T ∧ EHd.Book wr OW [1, 2] gh 0 k ∧ ELk.Book wr OW [1, 3] gl 0 k ∧ EInt.Book wr OW [1, 4] gc 0 k ∧ Turn [1] w ow0 wr OW
def kxRel (w : World) (ow : Ow) (V : Value) (n : Nat) (gn : Nat) (i : Value) (wr : World) : Prop :=
  ∃ (m : Nat) (OW : Ow) (zs : List Int), gn = n - m ∧ m ≤ n ∧ i = .int .i64 (m : Int) ∧ zs.length = n ∧ Row wr OW [1, 5] 3 1 V n (EInt.css zs) ∧ Turn [1, 5] w ow wr OW

set_option maxRecDepth 100000 in
set_option maxHeartbeats 16000000 in
theorem keptU (w : World) (v : Value) (xs : List Int) (h : EInt.In w v xs) (vs : Value) (ops : List Op5) (hs : EOp.In w vs ops) : Calls Try.prog 8 #[v, vs] w fun e w' => e = .returned (.bool true) ∧ Below w.heap.size w w' := by
  obtain ⟨A, cap, rfl, hcap, hmax, hcov⟩ := h
  have Hcov := Lib.hid hcov
  have Hs := Lib.hid hs
  clear hcov hs
  go_enter Try.func8, Try.ntmps8
  go_upto_if 14 with fail
  go_cut [0] (fun s0 wx => wx = w ∧ s0 = .slice A (xs.take 16).length cap)
  case first =>
    by_cases h300 : (16 : Int) < (xs.length : Int)
    · have c100 : (16 : Int) ≤ (cap : Int) := by omega
      go_wp2_with fail
      go_meet
      exact ⟨rfl, by rw [List.length_take, Nat.min_eq_left (by omega)]⟩
    · go_wp2_with fail
      go_meet
      exact ⟨rfl, by rw [List.take_of_length_le (by omega)]⟩
  case rest =>
    obtain ⟨rfl, rfl⟩ := hcut
    have hlen : (xs.take 16).length ≤ 16 := by rw [List.length_take]; omega
    have hcov : EInt.Cov wc A (EInt.css (xs.take 16)) := by rw [EInt.css_take]; exact Hcov.out.take _
    generalize xs.take 16 = us at *
    have Hc := Lib.hid hcov
    clear Hcov hcap hmax hcov
    obtain ⟨w, rfl⟩ : ∃ w : World, w = wc := ⟨_, rfl⟩
    go_wp2_with (at_builtin; refine wpList_append_row rfl (.tmp 17) (.tmp 18) 38 38 rfl 3 _ 1 8 Try.underlying38 EInt.info rfl rfl (Row.new0 w ow0 [1, 9] 3 1) rfl ((Hc.out.new_ ((Below.refl _ _).alloc (Nat.le_refl _) _)).src Try.underlying38 cap) (by unfold maxLen; omega) (by omega) ?_)
    intro v1 w1 ow1 hl ht
    have t := (((Turn.refl [1, 9] w ow0).alloc (.cells #[] 3) [1, 9]).trans ht).up (p := [1]) (by simp)
    try simp only [Nat.zero_add, List.nil_append] at hl
    clear ht
    go_wp2_with fail
    refine (made w w1 ow1 [9] [1] t v1 us hl hlen (by simp) none 0 [] (nilCov w) (by simp)).mono ?_
    rintro e w2 ⟨g, wm, om, wn, on_, ow2, rfl, hT, hl2, t1, n1, t2⟩
    replace t := ((t.trans (t1.up (by simp))).trans (n1.turn [1])).trans (t2.up (by simp))
    simp only [runS] at hT
    clear hl hl2 t1 n1 t2 hlen Hc
    generalize List.replicate us.length 0 = C0 at *
    generalize us.map cl = us' at *
    have h3 := bks w2 ow2 w ow0 g us' _ _ hT t
    have hus : us'.length ≤ 16 := by obtain ⟨rr, hi, -⟩ := hT; exact hi.ul
    have H3 := Lib.hid h3
    clear h3 hT t
    go_wp2_with fail
    refine SH.gen_calls (bksP w2 w ow0 g us' _ _) (H3.out _ _ _) ?_
    clear H3
    rintro w3 ⟨ow3, hh, hl, hc, hT, t⟩
    generalize hg : w2.heap.size = gh at *
    generalize hg5 : gh + 1 + 1 = gc at *
    generalize hg4 : gh + 1 = gl at *
    clear hg hg4 hg5
    refine (EOp.fewB w w3 vs ops 50 Hs.out (by omega)).mono ?_
    rintro e w4 ⟨v3, rfl, hin, rfl⟩
    obtain ⟨B, capB, rfl, -, -, hcB⟩ := hin
    have HB := Lib.hid hcB
    clear hcB Hs
    have hyl : (ops.take 50).length ≤ 50 := by rw [List.length_take]; omega
    generalize ops.take 50 = ys at *
    go_wp2_with fail
    go_loopg [9] ys.length (fun gn i wr => ukRel w g gh gl gc us' ys.length gn i wr)
    case atStart => exact ⟨0, ow3, _, _, rfl, Nat.zero_le _, rfl, hT, hh, hl, hc, t⟩
    case round =>
      clear hh hl hc hT t
      obtain ⟨k, OW, C, T, hgk, hk, rfl, hT, hh, hl, hc, t⟩ := hrel
      have Hgk := Lib.hid hgk
      clear hgk
      by_cases hlt : k < ys.length
      · obtain ⟨o, ho⟩ : ∃ o, ys[k]? = some o := ⟨_, List.getElem?_eq_getElem hlt⟩
        obtain ⟨b, off, rfl, c0, c1, c2, c3, c4, c5⟩ := (HB.out.new_ (t.new_ ow0 [1]).below).at k o ho
        have i0 : (k : Int) < (ys.length : Int) := by omega
        have Ho := Lib.hid ho
        clear ho
        go_wp2_with fail
        refine (act wr OW [1, 1] g us' C T hT o).mono ?_
        rintro e w11 ⟨ow11, rfl, hn', tt⟩
        replace hh := hh.keep tt (fun s => by simp)
        replace hl := hl.keep tt (fun s => by simp)
        replace hc := hc.keep tt (fun s => by simp)
        replace t := t.trans (tt.up (by simp))
        clear hT tt
        have hT := hn'
        clear hn'
        clear c0 c1 c2 c3 c4 c5
        generalize actC us' C T o = C at *
        generalize actT us' T o = T at *
        obtain ⟨c1, c2⟩ := EOp_at _ b off ys (HB.out.new_ (t.new_ ow0 [1]).below) k o Ho.out
        go_wp2_with fail
        refine (holders w11 ow11 [1, 1] ([1, 2] ++ [3, k]) g us' C T hT o.res).mono ?_
        rintro e w12 ⟨v5, ow12, hs, rfl, his, hsl, rr, nn, -⟩
        replace hT := hT.new_ nn
        replace hh := hh.new_ nn
        replace hl := hl.new_ nn
        replace hc := hc.new_ nn
        replace t := t.trans (nn.turn [1])
        clear nn
        clear his c1 c2
        go_wp2_with fail
        refine (EHd.bk_keep w12 ow12 [1, 2] gh 0 k v5 hs hh rr (by omega)).mono ?_
        rintro e w13 ⟨ow13, rfl, hn', tt⟩
        replace hT := hT.keep tt (fun s => by simp)
        replace hl := hl.keep tt (fun s => by simp)
        replace hc := hc.keep tt (fun s => by simp)
        replace t := t.trans (tt.up (by simp))
        clear hh tt
        have hh := hn'
        clear hn'
        clear rr hsl
        obtain ⟨c1, c2⟩ := EOp_at _ b off ys (HB.out.new_ (t.new_ ow0 [1]).below) k o Ho.out
        have hlT : T.length ≤ 4080 := by obtain ⟨rr, hi, -⟩ := hT; exact hi.len
        have hll := locks_len T o.job
        go_wp2_with fail
        refine (locks w13 ow13 [1, 1] g us' C T ([1, 3] ++ [3, k]) hT o.job).mono ?_
        rintro e w14 ⟨v6, ow14, rfl, rr, nn, -⟩
        replace hT := hT.new_ nn
        replace hh := hh.new_ nn
        replace hl := hl.new_ nn
        replace hc := hc.new_ nn
        replace t := t.trans (nn.turn [1])
        clear nn
        clear c1 c2
        go_wp2_with fail
        refine (ELk.bk_keep w14 ow14 [1, 3] gl 0 k v6 (locksOf T o.job) hl rr (by omega)).mono ?_
        rintro e w15 ⟨ow15, rfl, hn', tt⟩
        replace hT := hT.keep tt (fun s => by simp)
        replace hh := hh.keep tt (fun s => by simp)
        replace hc := hc.keep tt (fun s => by simp)
        replace t := t.trans (tt.up (by simp))
        clear hl tt
        have hl := hn'
        clear hn'
        clear rr hlT hll
        have hCl : C.length = us'.length := by obtain ⟨rr, hi, -⟩ := hT; exact hi.cl
        go_wp2_with fail
        refine (cells w15 ow15 [1, 1] g us' C T ([1, 4] ++ [3, k]) hT).mono ?_
        rintro e w16 ⟨v7, ow16, rfl, rr, nn, -⟩
        replace hT := hT.new_ nn
        replace hh := hh.new_ nn
        replace hl := hl.new_ nn
        replace hc := hc.new_ nn
        replace t := t.trans (nn.turn [1])
        clear nn
        go_wp2_with fail
        refine (EInt.bk_keep w16 ow16 [1, 4] gc 0 k v7 C hc rr (by omega)).mono ?_
        rintro e w17 ⟨ow17, rfl, hn', tt⟩
        replace hT := hT.keep tt (fun s => by simp)
        replace hh := hh.keep tt (fun s => by simp)
        replace hl := hl.keep tt (fun s => by simp)
        replace t := t.trans (tt.up (by simp))
        clear hc tt
        have hc := hn'
        clear hn'
        clear rr
        go_wp2_with fail
        refine (cells w17 ow17 [1, 1] g us' C T [1, 5] hT).mono ?_
        rintro e w18 ⟨v8, ow18, rfl, hx, nn, -⟩
        replace hT := hT.new_ nn
        replace hh := hh.new_ nn
        replace hl := hl.new_ nn
        replace hc := hc.new_ nn
        replace t := t.trans (nn.turn [1])
        clear nn
        rw [hCl] at hx
        obtain ⟨A8, c8, rfl, -⟩ := hx.slice
        go_wp2_with fail
        go_loopg [11] us'.length (fun gn i wr2 => kxRel w18 ow18 (.slice A8 us'.length c8) us'.length gn i wr2)
        case atStart => exact ⟨0, ow18, C, rfl, Nat.zero_le _, rfl, hCl, hx, Turn.refl _ _ _⟩
        case round =>
          clear hx hCl
          rename_i wy _ _
          obtain ⟨m, OY, zs, hgm, hm, rfl, hz, hx, t5⟩ := hrel
          have Hgm := Lib.hid hgm
          clear hgm
          by_cases hmt : m < us'.length
          · obtain ⟨x, hxm⟩ : ∃ x, zs[m]? = some x := ⟨_, List.getElem?_eq_getElem (by omega)⟩
            obtain ⟨b8, off8, cap8, hv8, lb8, e8, hfz⟩ := row_at hx hz m x hxm
            simp only [Value.slice.injEq] at hv8
            obtain ⟨rfl, -, rfl⟩ := hv8
            have f8 := hfz (off8 + m)
            have i8 : (m : Int) < (us'.length : Int) := by omega
            have tk := hx.turn (off8 + m) (.int .i64 (-7))
            have h2 := hx.set m (.int .i64 (-7))
            rw [css_cells1 zs 0 (-7) m] at h2
            have t6 := t5.trans tk
            clear hxm hx t5 tk hfz hT hh hl hc t
            go_wp2_with fail
            go_roundg (us'.length - (m + 1))
            case measure => have := Hgm.out; omega
            case rel => exact ⟨m + 1, OY, zs.set m (-7), rfl, by omega, by go_num, by simpa using hz, h2, t6⟩
          · replace hT := hT.keep t5 (fun s => by simp)
            replace hh := hh.keep t5 (fun s => by simp)
            replace hl := hl.keep t5 (fun s => by simp)
            replace hc := hc.keep t5 (fun s => by simp)
            replace t := t.trans (t5.up (by simp))
            obtain rfl : m = us'.length := by omega
            clear hx t5 hmt Hgm
            go_wp2_with fail
            go_roundg (ys.length - (k + 1))
            case measure => have := Hgk.out; omega
            case rel => exact ⟨k + 1, OY, C, T, rfl, by omega, by go_num, hT, hh, hl, hc, t⟩
      · obtain rfl : k = ys.length := by omega
        clear hlt Hgk
        go_wp2_with fail
        refine (EHd.bk_apart wr OW [1, 2] gh 0 _ hh).mono ?_
        rintro e w5 ⟨OW5, rfl, tt⟩
        replace hl := hl.keep tt (fun s => by simp)
        replace hc := hc.keep tt (fun s => by simp)
        replace t := t.trans (tt.up (by simp))
        clear tt hh hT
        go_wp2_with fail
        refine (ELk.bk_apart w5 OW5 [1, 3] gl 0 _ hl).mono ?_
        rintro e w6 ⟨OW6, rfl, tt⟩
        replace hc := hc.keep tt (fun s => by simp)
        replace t := t.trans (tt.up (by simp))
        clear tt hl
        go_wp2_with fail
        refine (EInt.bk_apart w6 OW6 [1, 4] gc 0 _ hc).mono ?_
        rintro e w7 ⟨OW7, rfl, tt⟩
        have fin := ((t.trans (tt.up (by simp))).new_ ow0 [1]).below
        clear tt hc t
        go_wp2_with fail
        refine (runs w7).mono ?_
        rintro e w92 ⟨rfl, b5⟩
        have fin := fin.trans (b5.mono fin.size)
        go_wp2
        go_ret
        exact ⟨rfl, fin⟩

end UN
end Go.Proofs.Ytefagdbdimpcdaa
