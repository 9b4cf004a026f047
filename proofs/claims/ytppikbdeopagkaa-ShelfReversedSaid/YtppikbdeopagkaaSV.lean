/-
  LAW 1: ShelfReversed: the last one first, the first one first: the walk.
-/
import Derived.Test.YtppikbdeopagkaaSR
import Derived.Test.YtppikbdeopagkaaTx
import Derived.Test.YtppikbdeopagkaaEPrK
import Derived.Test.YtppikbdeopagkaaEPrR
import Derived.Test.YtppikbdeopagkaaEPrQ2
import Derived.Test.YtppikbdeopagkaaEIntP
import Derived.Test.YtppikbdeopagkaaBox
import Derived.Test.YtppikbdeopagkaaCalc
import Derived.Deep.DeepCutAuto
set_option linter.unusedVariables false
set_option linter.unusedSimpArgs false
namespace Go.Proofs.Ytppikbdeopagkaa
open Go Go.RowKit
namespace SH
open Tx

/-- What the loop of Puts keeps. -/
def rvRel (w : World) (g3 g4 g5 : Nat) (ys : List Int) (gn : Nat) (i : Value) (wr : World) : Prop :=
  ∃ (k : Nat) (OW : Ow), gn = ys.length - k ∧ k ≤ ys.length ∧ i = .int .i64 (k : Int) ∧ EPr.St wr OW [1, 0, 0] g3 0 ((ys.take k).map mkP) ∧ EPr.Q wr OW [1, 0, 1] g4 0 ((ys.take k).map mkP) ∧ EPr.Rg wr OW [1, 0, 2] g5 300 0 ((ys.take k).map mkP) ∧ Turn [1] w ow0 wr OW
/-- What the loop of Pops keeps. -/
def rvRel2 (w : World) (g3 g4 : Nat) (ys : List Int) (gn : Nat) (i : Value) (wr : World) : Prop :=
  ∃ (k : Nat) (OW : Ow), gn = ys.length - k ∧ k ≤ ys.length ∧ i = .int .i64 (k : Int) ∧ EPr.St wr OW [1, 0, 0] g3 0 ((ys.take (ys.length - k)).map mkP) ∧ EPr.Q wr OW [1, 0, 1] g4 0 ((ys.drop k).map mkP) ∧ Turn [1] w ow0 wr OW
def twoP (w : World) (W : World) : Prop := ∃ OW : Ow, EPr.St W OW [1, 0, 0] w.heap.size 0 [] ∧ EPr.Q W OW [1, 0, 1] (w.heap.size + 1) 0 [] ∧ Turn [1] w ow0 W OW
theorem two (w : World) (b c : TypeId) : twoP w ((w.alloc (.cells #[.slice none 0 0] b)).alloc (.cells #[.slice none 0 0, .int .i64 0] c)) := by
  obtain ⟨o1, c1, n1, z1⟩ := add_cells w ow0 [1, 0, 0, 0] [.slice none 0 0] b
  generalize w.alloc (.cells #[.slice none 0 0] b) = w1 at *
  obtain ⟨o2, c2, n2, z2⟩ := add_cells w1 o1 [1, 0, 1, 0] [.slice none 0 0, .int .i64 0] c
  generalize w1.alloc (.cells #[.slice none 0 0, .int .i64 0] c) = w2 at *
  rw [z1] at c2
  exact ⟨o2, EPr.St.nil (c1.new_ n2), ⟨.slice none 0 0, [], 0, c2, Row.nil _ _ _ _ _, by simp, rfl⟩, (n1.turn [1]).trans (n2.turn [1])⟩

set_option maxRecDepth 100000 in
set_option maxHeartbeats 16000000 in
theorem reversed (w : World) (v : Value) (xs : List Int) (h : EInt.In w v xs) (hrg : ∀ x ∈ xs, EInt.Rng x) : Calls Try.prog 8 #[v] w fun e w' => e = .returned (.bool true) ∧ Below w.heap.size w w' := by
  obtain ⟨A, cap, rfl, hcap, hmax, hcov⟩ := h
  have Hcov := Lib.hid hcov
  have Hrg := Lib.hid hrg
  clear hcov hrg
  go_enter Try.func8, Try.ntmps8
  go_upto_if 15 with fail
  go_cut [0] (fun s0 wx => wx = w ∧ s0 = .slice A (xs.take 300).length cap)
  case first =>
    by_cases h300 : (300 : Int) < (xs.length : Int)
    · go_wp2_with fail
      go_meet
      exact ⟨rfl, by rw [List.length_take, Nat.min_eq_left (by omega)]⟩
    · go_wp2_with fail
      go_meet
      exact ⟨rfl, by rw [List.take_of_length_le (by omega)]⟩
  case rest =>
    obtain ⟨rfl, rfl⟩ := hcut
    have hlen : (xs.take 300).length ≤ 300 := by rw [List.length_take]; omega
    have hcov : EInt.Cov wc A (EInt.css (xs.take 300)) := by rw [EInt.css_take]; exact Hcov.out.take _
    have hrg : ∀ x ∈ xs.take 300, EInt.Rng x := fun x hx => Hrg.out x (List.mem_of_mem_take hx)
    generalize hys : xs.take 300 = ys at *
    have Hc := Lib.hid hcov
    have Hrh := Lib.hid hrg
    clear hys Hcov hcap hmax hcov hrg Hrg xs
    have Hrg := Lib.hid Hrh.out
    clear Hrh
    obtain ⟨w, rfl⟩ : ∃ w : World, w = wc := ⟨_, rfl⟩
    go_wp2_with fail
    refine gen_calls (twoP w) (two w _ _) ?_
    rintro w1 ⟨ow1, hs, hq, t⟩
    generalize hg : w.heap.size = g3 at *
    generalize hg4 : g3 + 1 = g4 at *
    clear hg hg4
    refine (EPr.r_new w1 ow1 [1, 0, 2] 300 (by omega) (by omega)).mono ?_
    rintro e w2 ⟨g5, ow2, rfl, hr, nn, -⟩
    replace hs := hs.new_ nn
    replace hq := hq.new_ nn
    replace t := t.trans (nn.turn [1])
    clear nn
    go_wp2_with fail
    go_loopg [7] ys.length (fun gn i wr => rvRel w g3 g4 g5 ys gn i wr)
    case atStart => exact ⟨0, ow2, rfl, Nat.zero_le _, rfl, hs, hq, hr, t⟩
    case round =>
      clear hs hq hr t
      obtain ⟨k, OW, hgk, hk, rfl, hs, hq, hr, t⟩ := hrel
      have Hgk := Lib.hid hgk
      clear hgk
      by_cases hlt : k < ys.length
      · obtain ⟨y, hy⟩ : ∃ y, ys[k]? = some y := ⟨_, List.getElem?_eq_getElem hlt⟩
        obtain ⟨b, off, rfl, d0⟩ := Hc.out.at k y hy
        have lb := World.block_lt_of_cell? w _ d0
        simp only at lb
        have hyr := Hrg.out y (List.mem_of_getElem? hy)
        have hnext : (ys.take (k + 1)).map mkP = (ys.take k).map mkP ++ [mkP y] := by rw [List.take_add_one, hy, List.map_append]; rfl
        have hln : ((ys.take k).map mkP).length = k := by rw [List.length_map, List.length_take]; omega
        have Hnext := Lib.hid hnext
        have i0 : (k : Int) < (ys.length : Int) := by omega
        generalize (ys.take k).map mkP = ps at *
        clear hy hnext
        have c0 := ((t.new_ ow0 [1]).below.cell (p := ⟨b, off + k, none⟩) lb).trans d0
        go_wp2_with fail
        refine (pair wr y hyr).mono ?_
        rintro e w3 ⟨rfl, bb⟩
        have nn := bb.nw OW
        replace hs := hs.new_ nn
        replace hq := hq.new_ nn
        replace hr := hr.new_ nn
        replace t := t.trans (nn.turn [1])
        clear nn
        clear bb
        clear c0
        go_wp2_with fail
        refine (EPr.s_push w3 OW [1, 0, 0] g3 0 ps (mkP y) hs (by omega)).mono ?_
        rintro e w4 ⟨ow4, rfl, hn', tt⟩
        replace hq := hq.keep tt (by simp) (by simp)
        replace hr := hr.keep tt (fun s => by simp)
        replace t := t.trans (tt.up (by simp))
        clear hs tt
        have hs := hn'
        clear hn'
        have c0 := ((t.new_ ow0 [1]).below.cell (p := ⟨b, off + k, none⟩) lb).trans d0
        go_wp2_with fail
        refine (pair w4 y hyr).mono ?_
        rintro e w5 ⟨rfl, bb⟩
        have nn := bb.nw ow4
        replace hs := hs.new_ nn
        replace hq := hq.new_ nn
        replace hr := hr.new_ nn
        replace t := t.trans (nn.turn [1])
        clear nn
        clear bb
        clear c0
        go_wp2_with fail
        refine (EPr.q_put w5 ow4 [1, 0, 1] g4 0 ps (mkP y) hq (by omega)).mono ?_
        rintro e w6 ⟨ow6, rfl, hn', tt⟩
        replace hs := hs.keep tt (by simp) (by simp)
        replace hr := hr.keep tt (fun s => by simp)
        replace t := t.trans (tt.up (by simp))
        clear hq tt
        have hq := hn'
        clear hn'
        have c0 := ((t.new_ ow0 [1]).below.cell (p := ⟨b, off + k, none⟩) lb).trans d0
        go_wp2_with fail
        refine (pair w6 y hyr).mono ?_
        rintro e w7 ⟨rfl, bb⟩
        have nn := bb.nw ow6
        replace hs := hs.new_ nn
        replace hq := hq.new_ nn
        replace hr := hr.new_ nn
        replace t := t.trans (nn.turn [1])
        clear nn
        clear bb
        clear c0
        go_wp2_with fail
        refine (EPr.r_put_room w7 ow6 [1, 0, 2] g5 300 0 ps (mkP y) hr (by omega) (by omega)).mono ?_
        rintro e w8 ⟨ow8, rfl, hn', tt⟩
        replace hs := hs.keep tt (by simp) (by simp)
        replace hq := hq.keep tt (by simp) (by simp)
        replace t := t.trans (tt.up (by simp))
        clear hr tt
        have hr := hn'
        clear hn'
        rw [← Hnext.out] at hs hq hr
        go_wp2
        go_roundg (ys.length - (k + 1))
        case measure => have := Hgk.out; omega
        case rel => exact ⟨k + 1, ow8, rfl, by omega, by go_num, hs, hq, hr, t⟩
      · obtain rfl : k = ys.length := by omega
        rw [List.take_length] at hs hq hr
        have hln : (ys.map mkP).length = ys.length := List.length_map _
        clear hlt Hgk hk
        go_wp2_with fail
        refine (EPr.s_list wr OW [1, 0, 0] [8, 0] g3 0 (ys.map mkP) hs (by omega)).mono ?_
        rintro e w21 ⟨v21, ow21, rfl, rr, nn, -⟩
        replace hs := hs.new_ nn
        replace hq := hq.new_ nn
        replace hr := hr.new_ nn
        replace t := t.trans (nn.turn [1])
        clear nn
        go_wp2_with fail
        refine (pairs w21 v21 A cap ys (by omega) Hrg.out (by have := rr.reads; rwa [hln] at this) (Hc.out.new_ (t.new_ ow0 [1]).below)).mono ?_
        rintro e w22 ⟨rfl, bb⟩
        have nn := bb.nw ow21
        replace hs := hs.new_ nn
        replace hq := hq.new_ nn
        replace hr := hr.new_ nn
        replace t := t.trans (nn.turn [1])
        clear nn
        clear bb
        clear rr
        go_wp2_with fail
        refine (EPr.q_list w22 ow21 [1, 0, 1] [8, 0] g4 0 (ys.map mkP) hq (by omega)).mono ?_
        rintro e w23 ⟨v23, ow23, rfl, rr, nn, -⟩
        replace hs := hs.new_ nn
        replace hq := hq.new_ nn
        replace hr := hr.new_ nn
        replace t := t.trans (nn.turn [1])
        clear nn
        go_wp2_with fail
        refine (pairs w23 v23 A cap ys (by omega) Hrg.out (by have := rr.reads; rwa [hln] at this) (Hc.out.new_ (t.new_ ow0 [1]).below)).mono ?_
        rintro e w24 ⟨rfl, bb⟩
        have nn := bb.nw ow23
        replace hs := hs.new_ nn
        replace hq := hq.new_ nn
        replace hr := hr.new_ nn
        replace t := t.trans (nn.turn [1])
        clear nn
        clear bb
        clear rr
        go_wp2_with fail
        refine (EPr.r_list w24 ow23 [1, 0, 2] [8, 0] g5 300 0 (ys.map mkP) hr (by omega)).mono ?_
        rintro e w25 ⟨v25, ow25, rfl, rr, nn, -⟩
        replace hs := hs.new_ nn
        replace hq := hq.new_ nn
        replace hr := hr.new_ nn
        replace t := t.trans (nn.turn [1])
        clear nn
        go_wp2_with fail
        refine (pairs w25 v25 A cap ys (by omega) Hrg.out (by have := rr.reads; rwa [hln] at this) (Hc.out.new_ (t.new_ ow0 [1]).below)).mono ?_
        rintro e w26 ⟨rfl, bb⟩
        have nn := bb.nw ow25
        replace hs := hs.new_ nn
        replace hq := hq.new_ nn
        replace hr := hr.new_ nn
        replace t := t.trans (nn.turn [1])
        clear nn
        clear bb
        clear rr
        go_wp2_with fail
        refine (EPr.r_dropped w26 ow25 [1, 0, 2] g5 300 0 _ hr).mono ?_
        rintro e w27 ⟨rfl, kk, hw'⟩
        have nn := ((Below.refl w26.heap.size w26).nw ow25).drewN kk
        rw [← hw'] at nn
        clear hw'
        replace hs := hs.new_ nn
        replace hq := hq.new_ nn
        replace hr := hr.new_ nn
        replace t := t.trans (nn.turn [1])
        clear nn
        clear hr
        go_wp2_with fail
        go_loopg [8] ys.length (fun gn i wr => rvRel2 w g3 g4 ys gn i wr)
        case atStart => exact ⟨0, ow25, rfl, Nat.zero_le _, rfl, by rw [Nat.sub_zero, List.take_length]; exact hs, hq, t⟩
        case round =>
          clear hs hq t
          obtain ⟨k, OW, hgk, hk, rfl, hs, hq, t⟩ := hrel
          have Hgk := Lib.hid hgk
          clear hgk
          by_cases hlt : k < ys.length
          · obtain ⟨j, hj⟩ : ∃ j, ys.length = k + j + 1 := ⟨ys.length - k - 1, by omega⟩
            obtain ⟨y, hy⟩ : ∃ y, ys[k]? = some y := ⟨_, List.getElem?_eq_getElem hlt⟩
            obtain ⟨z, hz⟩ : ∃ z, ys[j]? = some z := ⟨_, List.getElem?_eq_getElem (by omega)⟩
            obtain ⟨b, off, rfl, d0⟩ := Hc.out.at k y hy
            obtain ⟨b', off', hv, f0⟩ := Hc.out.at j z hz
            simp only [Option.some.injEq, Addr.mk.injEq] at hv
            obtain ⟨rfl, rfl, -⟩ := hv
            have lb := World.block_lt_of_cell? w _ d0
            simp only at lb
            have hyr := Hrg.out y (List.mem_of_getElem? hy)
            have hzr := Hrg.out z (List.mem_of_getElem? hz)
            have hs1 : (ys.take (ys.length - k)).map mkP = (ys.take j).map mkP ++ [mkP z] := by rw [show ys.length - k = j + 1 by omega, List.take_add_one, hz, List.map_append]; rfl
            have hq1 : (ys.drop k).map mkP = mkP y :: (ys.drop (k + 1)).map mkP := by
              rw [List.drop_eq_getElem_cons hlt, List.map_cons]
              have := (List.getElem?_eq_some_iff.1 hy).2
              rw [this]
            rw [hs1] at hs
            rw [hq1] at hq
            obtain ⟨ps, hps⟩ : ∃ ps, ps = (ys.take j).map mkP := ⟨_, rfl⟩
            obtain ⟨qs, hqs⟩ : ∃ qs, qs = (ys.drop (k + 1)).map mkP := ⟨_, rfl⟩
            rw [← hps] at hs
            rw [← hqs] at hq
            have ln1 : ps.length ≤ 300 := by rw [hps, List.length_map, List.length_take]; omega
            have ln2 : qs.length ≤ 299 := by rw [hqs, List.length_map, List.length_drop]; omega
            rw [show j = ys.length - (k + 1) by omega] at hps
            have Hps := Lib.hid hps
            have Hqs := Lib.hid hqs
            have i0 : (k : Int) < (ys.length : Int) := by omega
            have i1 : IntKind.i64.wrap (IntKind.i64.wrap ((ys.length : Int) - 1) - (k : Int)) = (j : Int) := by simp only [IntKind.wrap_i64]; omega
            have i2 : (j : Int) < (ys.length : Int) := by omega
            have Hj := Lib.hid hj
            clear hy hz hs1 hq1 hj hps hqs
            go_wp2_with fail
            refine (EPr.s_pop_some wr OW [1, 0, 0] g3 0 ps (mkP z) hs (by omega)).mono ?_
            rintro e w31 ⟨ow31, rfl, hn', tt⟩
            replace hq := hq.keep tt (by simp) (by simp)
            replace t := t.trans (tt.up (by simp))
            clear hs tt
            have hs := hn'
            clear hn'
            go_wp2_with fail
            obtain ⟨owx, bx, nn, -⟩ := add_cells w31 ow31 [9, 32] [.int .i64 z, .string (tx z)] 62
            refine gen_calls (fun W => ∃ OW, EPr.St W OW [1, 0, 0] g3 0 ps ∧ EPr.Q W OW [1, 0, 1] g4 0 (mkP y :: qs) ∧ Cells W OW [9, 32] w31.heap.size 0 [.int .i64 z, .string (tx z)] ∧ Turn [1] w ow0 W OW) ⟨owx, hs.new_ nn, hq.new_ nn, bx, t.trans (nn.turn [1])⟩ ?_
            clear hs hq bx t nn owx
            rintro w32 ⟨ow32, hs, hq, hx, t⟩
            generalize w31.heap.size = gx at *
            refine (EPr.q_take_some w32 ow32 [1, 0, 1] g4 0 (mkP y) qs hq (by omega)).mono ?_
            rintro e w33 ⟨ow33, rfl, hn', tt⟩
            replace hs := hs.keep tt (by simp) (by simp)
            replace hx := hx.keep tt (by simp)
            replace t := t.trans (tt.up (by simp))
            clear hq tt
            have hq := hn'
            clear hn'
            go_wp2_with fail
            obtain ⟨owx, bx, nn, -⟩ := add_cells w33 ow33 [9, 34] [.int .i64 y, .string (tx y)] 62
            refine gen_world (fun W => ∃ OW, EPr.St W OW [1, 0, 0] g3 0 ps ∧ EPr.Q W OW [1, 0, 1] g4 0 qs ∧ Cells W OW [9, 32] gx 0 [.int .i64 z, .string (tx z)] ∧ Cells W OW [9, 34] w33.heap.size 0 [.int .i64 y, .string (tx y)] ∧ Turn [1] w ow0 W OW) ⟨owx, hs.new_ nn, hq.new_ nn, hx.new_ nn, bx, t.trans (nn.turn [1])⟩ ?_
            clear hs hq hx bx t nn owx
            rintro w34 ⟨ow34, hs, hq, hx, hy, t⟩
            generalize w33.heap.size = gy at *
            have x0 := hx.get 0 rfl
            have x1 := hx.get 1 rfl
            have y0 := hy.get 0 rfl
            have y1 := hy.get 1 rfl
            simp only [Nat.zero_add] at x0 x1 y0 y1
            have c0 := ((t.new_ ow0 [1]).below.cell (p := ⟨b, off + k, none⟩) lb).trans d0
            have c1 := ((t.new_ ow0 [1]).below.cell (p := ⟨b, off + j, none⟩) lb).trans f0
            refine plain_regionN (fun W' : World => W'.cell? ⟨gx, 0, none⟩ = some (.int .i64 z) ∧ W'.cell? ⟨gx, 1, none⟩ = some (.string (tx z)) ∧ W'.cell? ⟨gy, 0, none⟩ = some (.int .i64 y) ∧ W'.cell? ⟨gy, 1, none⟩ = some (.string (tx y)) ∧ W'.cell? ⟨b, off + k, none⟩ = some (.int .i64 y) ∧ W'.cell? ⟨b, off + j, none⟩ = some (.int .i64 z)) [] (by kernel_rfl) ?_
            have hS : (fun W' : World => W'.cell? ⟨gx, 0, none⟩ = some (.int .i64 z) ∧ W'.cell? ⟨gx, 1, none⟩ = some (.string (tx z)) ∧ W'.cell? ⟨gy, 0, none⟩ = some (.int .i64 y) ∧ W'.cell? ⟨gy, 1, none⟩ = some (.string (tx y)) ∧ W'.cell? ⟨b, off + k, none⟩ = some (.int .i64 y) ∧ W'.cell? ⟨b, off + j, none⟩ = some (.int .i64 z)) w34.drew := ⟨x0, x1, y0, y1, c0, c1⟩
            refine anyX_takeN 0 (v := ?_) rfl rfl (by kernel_rfl) (by kernel_rfl) (by kernel_rfl) (by kernel_rfl) (by kernel_rfl) (fun _ _ _ h => h) rfl ?_ hS ?_
            rotate_left
            · intro W' hW'
              obtain ⟨s0, s1, s2, s3, s4, s5⟩ := hW'
              all_goals (go_simp; first | done | rfl)
            intro tm' htm
            simp only [List.setIfInBounds_toArray, List.set_cons_succ, List.set_cons_zero] at htm
            subst htm
            refine anyX_takeN 1 (v := ?_) rfl rfl (by kernel_rfl) (by kernel_rfl) (by kernel_rfl) (by kernel_rfl) (by kernel_rfl) (fun _ _ _ h => h) rfl ?_ hS ?_
            rotate_left
            · intro W' hW'
              obtain ⟨s0, s1, s2, s3, s4, s5⟩ := hW'
              all_goals (go_simp; first | done | rfl)
            intro tm' htm
            simp only [List.setIfInBounds_toArray, List.set_cons_succ, List.set_cons_zero] at htm
            subst htm
            refine anyX_takeN 2 (v := ?_) rfl rfl (by kernel_rfl) (by kernel_rfl) (by kernel_rfl) (by kernel_rfl) (by kernel_rfl) (fun _ _ _ h => h) rfl ?_ hS ?_
            rotate_left
            · intro W' hW'
              obtain ⟨s0, s1, s2, s3, s4, s5⟩ := hW'
              all_goals (go_simp; first | done | rfl)
            intro tm' htm
            simp only [List.setIfInBounds_toArray, List.set_cons_succ, List.set_cons_zero] at htm
            subst htm
            refine anyX_takeW 3 (v := ?_) rfl rfl (by kernel_rfl) (by kernel_rfl) (by kernel_rfl) (by kernel_rfl) (by kernel_rfl) (fun _ _ _ h => h) (by rfl) ?_ hS ?_
            rotate_left
            · intro W' hW'
              obtain ⟨s0, s1, s2, s3, s4, s5⟩ := hW'
              all_goals (go_simp; first | done | rfl)
            intro tm' htm
            simp only [List.setIfInBounds_toArray, List.set_cons_succ, List.set_cons_zero] at htm
            subst htm
            refine anyX_takeW 4 (v := ?_) rfl rfl (by kernel_rfl) (by kernel_rfl) (by kernel_rfl) (by kernel_rfl) (by kernel_rfl) (fun _ _ _ h => h) (by rfl) ?_ hS ?_
            rotate_left
            · intro W' hW'
              obtain ⟨s0, s1, s2, s3, s4, s5⟩ := hW'
              all_goals (go_simp; first | done | rfl)
            intro tm' htm
            simp only [List.setIfInBounds_toArray, List.set_cons_succ, List.set_cons_zero] at htm
            subst htm
            refine anyX_takeN 5 (v := ?_) rfl rfl (by kernel_rfl) (by kernel_rfl) (by kernel_rfl) (by kernel_rfl) (by kernel_rfl) (fun _ _ _ h => h) rfl ?_ hS ?_
            rotate_left
            · intro W' hW'
              obtain ⟨s0, s1, s2, s3, s4, s5⟩ := hW'
              all_goals (go_simp; first | done | rfl)
            intro tm' htm
            simp only [List.setIfInBounds_toArray, List.set_cons_succ, List.set_cons_zero] at htm
            subst htm
            refine anyX_takeN 6 (v := ?_) rfl rfl (by kernel_rfl) (by kernel_rfl) (by kernel_rfl) (by kernel_rfl) (by kernel_rfl) (fun _ _ _ h => h) rfl ?_ hS ?_
            rotate_left
            · intro W' hW'
              obtain ⟨s0, s1, s2, s3, s4, s5⟩ := hW'
              all_goals (go_simp; first | done | rfl)
            intro tm' htm
            simp only [List.setIfInBounds_toArray, List.set_cons_succ, List.set_cons_zero] at htm
            subst htm
            refine anyX_takeW 7 (v := ?_) rfl rfl (by kernel_rfl) (by kernel_rfl) (by kernel_rfl) (by kernel_rfl) (by kernel_rfl) (fun _ _ _ h => h) (by rfl) ?_ hS ?_
            rotate_left
            · intro W' hW'
              obtain ⟨s0, s1, s2, s3, s4, s5⟩ := hW'
              all_goals (go_simp; first | done | rfl)
            intro tm' htm
            simp only [List.setIfInBounds_toArray, List.set_cons_succ, List.set_cons_zero] at htm
            subst htm
            refine anyX_takeW 8 (v := ?_) rfl rfl (by kernel_rfl) (by kernel_rfl) (by kernel_rfl) (by kernel_rfl) (by kernel_rfl) (fun _ _ _ h => h) (by rfl) ?_ hS ?_
            rotate_left
            · intro W' hW'
              obtain ⟨s0, s1, s2, s3, s4, s5⟩ := hW'
              all_goals (go_simp; first | done | rfl)
            intro tm' htm
            simp only [List.setIfInBounds_toArray, List.set_cons_succ, List.set_cons_zero] at htm
            subst htm
            refine anyX_takeW 9 (v := ?_) rfl rfl (by kernel_rfl) (by kernel_rfl) (by kernel_rfl) (by kernel_rfl) (by kernel_rfl) (fun _ _ _ h => h) (by rfl) ?_ hS ?_
            rotate_left
            · intro W' hW'
              obtain ⟨s0, s1, s2, s3, s4, s5⟩ := hW'
              all_goals (go_simp; first | done | rfl)
            intro tm' htm
            simp only [List.setIfInBounds_toArray, List.set_cons_succ, List.set_cons_zero] at htm
            subst htm
            refine anyX_takeW 10 (v := ?_) rfl rfl (by kernel_rfl) (by kernel_rfl) (by kernel_rfl) (by kernel_rfl) (by kernel_rfl) (fun _ _ _ h => h) (by rfl) ?_ hS ?_
            rotate_left
            · intro W' hW'
              obtain ⟨s0, s1, s2, s3, s4, s5⟩ := hW'
              all_goals (go_simp; first | done | rfl)
            intro tm' htm
            simp only [List.setIfInBounds_toArray, List.set_cons_succ, List.set_cons_zero] at htm
            subst htm
            refine anyX_takeW 11 (v := ?_) rfl rfl (by kernel_rfl) (by kernel_rfl) (by kernel_rfl) (by kernel_rfl) (by kernel_rfl) (fun _ _ _ h => h) (by rfl) ?_ hS ?_
            rotate_left
            · intro W' hW'
              obtain ⟨s0, s1, s2, s3, s4, s5⟩ := hW'
              all_goals (go_simp; first | done | rfl)
            intro tm' htm
            simp only [List.setIfInBounds_toArray, List.set_cons_succ, List.set_cons_zero] at htm
            subst htm
            refine anyX_takeW 12 (v := ?_) rfl rfl (by kernel_rfl) (by kernel_rfl) (by kernel_rfl) (by kernel_rfl) (by kernel_rfl) (fun _ _ _ h => h) (by rfl) ?_ hS ?_
            rotate_left
            · intro W' hW'
              obtain ⟨s0, s1, s2, s3, s4, s5⟩ := hW'
              all_goals (go_simp; first | done | rfl)
            intro tm' htm
            simp only [List.setIfInBounds_toArray, List.set_cons_succ, List.set_cons_zero] at htm
            subst htm
            refine anyX_takeW 13 (v := ?_) rfl rfl (by kernel_rfl) (by kernel_rfl) (by kernel_rfl) (by kernel_rfl) (by kernel_rfl) (fun _ _ _ h => h) (by rfl) ?_ hS ?_
            rotate_left
            · intro W' hW'
              obtain ⟨s0, s1, s2, s3, s4, s5⟩ := hW'
              all_goals (go_simp; first | done | rfl)
            intro tm' htm
            simp only [List.setIfInBounds_toArray, List.set_cons_succ, List.set_cons_zero] at htm
            subst htm
            refine anyX_takeW 14 (v := ?_) rfl rfl (by kernel_rfl) (by kernel_rfl) (by kernel_rfl) (by kernel_rfl) (by kernel_rfl) (fun _ _ _ h => h) (by rfl) ?_ hS ?_
            rotate_left
            · intro W' hW'
              obtain ⟨s0, s1, s2, s3, s4, s5⟩ := hW'
              all_goals (go_simp; first | done | rfl)
            intro tm' htm
            simp only [List.setIfInBounds_toArray, List.set_cons_succ, List.set_cons_zero] at htm
            subst htm
            refine anyX_takeW 15 (v := ?_) rfl rfl (by kernel_rfl) (by kernel_rfl) (by kernel_rfl) (by kernel_rfl) (by kernel_rfl) (fun _ _ _ h => h) (by rfl) ?_ hS ?_
            rotate_left
            · intro W' hW'
              obtain ⟨s0, s1, s2, s3, s4, s5⟩ := hW'
              all_goals (go_simp; first | done | rfl)
            intro tm' htm
            simp only [List.setIfInBounds_toArray, List.set_cons_succ, List.set_cons_zero] at htm
            subst htm
            refine anyX_oneW (i := 16) (by kernel_rfl) rfl (by rfl) fun K' hK' => ?_
            unfold Oper.wp
            go_simp
            refine (pair _ z hzr).mono ?_
            rintro e w35 ⟨rfl, bb⟩
            have bb : Below w34.heap.size w34 w35 := ⟨bb.os, bb.tape, bb.output, bb.size, bb.block⟩
            have nn := bb.nw ow34
            replace hs := hs.new_ nn
            replace hq := hq.new_ nn
            replace hx := hx.new_ nn
            replace hy := hy.new_ nn
            replace t := t.trans (nn.turn [1])
            clear nn
            clear bb hS x0 x1 y0 y1 c0 c1
            have x0 := hx.get 0 rfl
            have x1 := hx.get 1 rfl
            have y0 := hy.get 0 rfl
            have y1 := hy.get 1 rfl
            simp only [Nat.zero_add] at x0 x1 y0 y1
            have c0 := ((t.new_ ow0 [1]).below.cell (p := ⟨b, off + k, none⟩) lb).trans d0
            have c1 := ((t.new_ ow0 [1]).below.cell (p := ⟨b, off + j, none⟩) lb).trans f0
            have hS : (fun W' : World => W'.cell? ⟨gx, 0, none⟩ = some (.int .i64 z) ∧ W'.cell? ⟨gx, 1, none⟩ = some (.string (tx z)) ∧ W'.cell? ⟨gy, 0, none⟩ = some (.int .i64 y) ∧ W'.cell? ⟨gy, 1, none⟩ = some (.string (tx y)) ∧ W'.cell? ⟨b, off + k, none⟩ = some (.int .i64 y) ∧ W'.cell? ⟨b, off + j, none⟩ = some (.int .i64 z)) w35 := ⟨x0, x1, y0, y1, c0, c1⟩
            refine hK' _ _ (fun _ => hS) ?_
            clear hK' K'
            refine anyX_takeW 17 (v := ?_) rfl rfl (by kernel_rfl) (by kernel_rfl) (by kernel_rfl) (by kernel_rfl) (by kernel_rfl) (fun _ _ _ h => h) (by rfl) ?_ hS ?_
            rotate_left
            · intro W' hW'
              obtain ⟨s0, s1, s2, s3, s4, s5⟩ := hW'
              all_goals (go_simp; first | done | rfl)
            intro tm' htm
            simp only [List.setIfInBounds_toArray, List.set_cons_succ, List.set_cons_zero] at htm
            subst htm
            refine anyX_takeN 18 (v := ?_) rfl rfl (by kernel_rfl) (by kernel_rfl) (by kernel_rfl) (by kernel_rfl) (by kernel_rfl) (fun _ _ _ h => h) rfl ?_ hS ?_
            rotate_left
            · intro W' hW'
              obtain ⟨s0, s1, s2, s3, s4, s5⟩ := hW'
              all_goals (go_simp; first | done | rfl)
            intro tm' htm
            simp only [List.setIfInBounds_toArray, List.set_cons_succ, List.set_cons_zero] at htm
            subst htm
            refine anyX_takeN 19 (v := ?_) rfl rfl (by kernel_rfl) (by kernel_rfl) (by kernel_rfl) (by kernel_rfl) (by kernel_rfl) (fun _ _ _ h => h) rfl ?_ hS ?_
            rotate_left
            · intro W' hW'
              obtain ⟨s0, s1, s2, s3, s4, s5⟩ := hW'
              all_goals (go_simp; first | done | rfl)
            intro tm' htm
            simp only [List.setIfInBounds_toArray, List.set_cons_succ, List.set_cons_zero] at htm
            subst htm
            refine anyX_takeW 20 (v := ?_) rfl rfl (by kernel_rfl) (by kernel_rfl) (by kernel_rfl) (by kernel_rfl) (by kernel_rfl) (fun _ _ _ h => h) (by rfl) ?_ hS ?_
            rotate_left
            · intro W' hW'
              obtain ⟨s0, s1, s2, s3, s4, s5⟩ := hW'
              all_goals (go_simp; first | done | rfl)
            intro tm' htm
            simp only [List.setIfInBounds_toArray, List.set_cons_succ, List.set_cons_zero] at htm
            subst htm
            refine anyX_takeW 21 (v := ?_) rfl rfl (by kernel_rfl) (by kernel_rfl) (by kernel_rfl) (by kernel_rfl) (by kernel_rfl) (fun _ _ _ h => h) (by rfl) ?_ hS ?_
            rotate_left
            · intro W' hW'
              obtain ⟨s0, s1, s2, s3, s4, s5⟩ := hW'
              all_goals (go_simp; first | done | rfl)
            intro tm' htm
            simp only [List.setIfInBounds_toArray, List.set_cons_succ, List.set_cons_zero] at htm
            subst htm
            refine anyX_takeW 22 (v := ?_) rfl rfl (by kernel_rfl) (by kernel_rfl) (by kernel_rfl) (by kernel_rfl) (by kernel_rfl) (fun _ _ _ h => h) (by rfl) ?_ hS ?_
            rotate_left
            · intro W' hW'
              obtain ⟨s0, s1, s2, s3, s4, s5⟩ := hW'
              all_goals (go_simp; first | done | rfl)
            intro tm' htm
            simp only [List.setIfInBounds_toArray, List.set_cons_succ, List.set_cons_zero] at htm
            subst htm
            refine anyX_takeW 23 (v := ?_) rfl rfl (by kernel_rfl) (by kernel_rfl) (by kernel_rfl) (by kernel_rfl) (by kernel_rfl) (fun _ _ _ h => h) (by rfl) ?_ hS ?_
            rotate_left
            · intro W' hW'
              obtain ⟨s0, s1, s2, s3, s4, s5⟩ := hW'
              all_goals (go_simp; first | done | rfl)
            intro tm' htm
            simp only [List.setIfInBounds_toArray, List.set_cons_succ, List.set_cons_zero] at htm
            subst htm
            refine anyX_takeW 24 (v := ?_) rfl rfl (by kernel_rfl) (by kernel_rfl) (by kernel_rfl) (by kernel_rfl) (by kernel_rfl) (fun _ _ _ h => h) (by rfl) ?_ hS ?_
            rotate_left
            · intro W' hW'
              obtain ⟨s0, s1, s2, s3, s4, s5⟩ := hW'
              all_goals (go_simp; first | done | rfl)
            intro tm' htm
            simp only [List.setIfInBounds_toArray, List.set_cons_succ, List.set_cons_zero] at htm
            subst htm
            refine anyX_oneW (i := 25) (by kernel_rfl) rfl (by rfl) fun K' hK' => ?_
            unfold Oper.wp
            go_simp
            refine (pair _ y hyr).mono ?_
            rintro e w36 ⟨rfl, bb⟩
            have bb : Below w35.heap.size w35 w36 := ⟨bb.os, bb.tape, bb.output, bb.size, bb.block⟩
            have nn := bb.nw ow34
            replace hs := hs.new_ nn
            replace hq := hq.new_ nn
            replace hx := hx.new_ nn
            replace hy := hy.new_ nn
            replace t := t.trans (nn.turn [1])
            clear nn
            clear bb hS x0 x1 y0 y1 c0 c1
            have x0 := hx.get 0 rfl
            have x1 := hx.get 1 rfl
            have y0 := hy.get 0 rfl
            have y1 := hy.get 1 rfl
            simp only [Nat.zero_add] at x0 x1 y0 y1
            have c0 := ((t.new_ ow0 [1]).below.cell (p := ⟨b, off + k, none⟩) lb).trans d0
            have c1 := ((t.new_ ow0 [1]).below.cell (p := ⟨b, off + j, none⟩) lb).trans f0
            have hS : (fun W' : World => W'.cell? ⟨gx, 0, none⟩ = some (.int .i64 z) ∧ W'.cell? ⟨gx, 1, none⟩ = some (.string (tx z)) ∧ W'.cell? ⟨gy, 0, none⟩ = some (.int .i64 y) ∧ W'.cell? ⟨gy, 1, none⟩ = some (.string (tx y)) ∧ W'.cell? ⟨b, off + k, none⟩ = some (.int .i64 y) ∧ W'.cell? ⟨b, off + j, none⟩ = some (.int .i64 z)) w36 := ⟨x0, x1, y0, y1, c0, c1⟩
            refine hK' _ _ (fun _ => hS) ?_
            clear hK' K'
            refine anyX_takeW 26 (v := ?_) rfl rfl (by kernel_rfl) (by kernel_rfl) (by kernel_rfl) (by kernel_rfl) (by kernel_rfl) (fun _ _ _ h => h) (by rfl) ?_ hS ?_
            rotate_left
            · intro W' hW'
              obtain ⟨s0, s1, s2, s3, s4, s5⟩ := hW'
              all_goals (go_simp; first | done | rfl)
            intro tm' htm
            simp only [List.setIfInBounds_toArray, List.set_cons_succ, List.set_cons_zero] at htm
            subst htm
            refine anyX_takeN 27 (v := ?_) rfl rfl (by kernel_rfl) (by kernel_rfl) (by kernel_rfl) (by kernel_rfl) (by kernel_rfl) (fun _ _ _ h => h) rfl ?_ hS ?_
            rotate_left
            · intro W' hW'
              obtain ⟨s0, s1, s2, s3, s4, s5⟩ := hW'
              all_goals (go_simp; first | done | rfl)
            intro tm' htm
            simp only [List.setIfInBounds_toArray, List.set_cons_succ, List.set_cons_zero] at htm
            subst htm
            refine anyX_done (by kernel_rfl) ?_ _
            refine NoPanic.normal ?_
            clear hS x0 x1 y0 y1 c0 c1
            rw [Hps.out] at hs
            rw [Hqs.out] at hq
            go_wp2
            go_roundg (ys.length - (k + 1))
            case measure => have := Hgk.out; omega
            case rel => exact ⟨k + 1, ow34, rfl, by omega, by go_num, hs, hq, t⟩
          · obtain rfl : k = ys.length := by omega
            rw [Nat.sub_self, List.take_zero, List.map_nil] at hs
            rw [List.drop_length, List.map_nil] at hq
            clear hlt Hgk hk
            go_wp2_with fail
            refine (EPr.s_len wr OW [1, 0, 0] g3 0 [] hs).mono ?_
            rintro e w41 ⟨rfl, kk, hw'⟩
            have nn := ((Below.refl wr.heap.size wr).nw OW).drewN kk
            rw [← hw'] at nn
            clear hw'
            replace hs := hs.new_ nn
            replace hq := hq.new_ nn
            replace t := t.trans (nn.turn [1])
            clear nn
            go_wp2_with fail
            refine (EPr.q_len w41 OW [1, 0, 1] g4 0 [] hq (by simp)).mono ?_
            rintro e w42 ⟨rfl, kk, hw'⟩
            have nn := ((Below.refl w41.heap.size w41).nw OW).drewN kk
            rw [← hw'] at nn
            clear hw'
            replace hs := hs.new_ nn
            replace hq := hq.new_ nn
            replace t := t.trans (nn.turn [1])
            clear nn
            have fin := (t.new_ ow0 [1]).below
            go_wp2_with fail
            refine (runs w42).mono ?_
            rintro e w60 ⟨rfl, b5⟩
            have fin := fin.trans (b5.mono fin.size)
            go_wp2
            go_ret
            exact ⟨rfl, fin⟩

end SH
end Go.Proofs.Ytppikbdeopagkaa
