/-
  LAW 1: ShelfKept: lists stay, and share nothing: the walk.
-/
import Derived.Test.YtppikbdeopagkaaSG
import Derived.Test.YtppikbdeopagkaaSA
import Derived.Test.YtppikbdeopagkaaTIIP
import Derived.Test.YtppikbdeopagkaaEIntP
import Derived.Test.YtppikbdeopagkaaEIntA
set_option linter.unusedVariables false
set_option linter.unusedSimpArgs false
namespace Go.Proofs.Ytppikbdeopagkaa
open Go Go.RowKit
namespace SH

/-- What the loop keeps. -/
def kpRel (w : World) (g3 g4 g5 g6 g7 : Nat) (ys : List Int) (gn : Nat) (i : Value) (wr : World) : Prop :=
  ∃ (k : Nat) (OW : Ow) (s q : List Int) (rows : List TII.R), gn = ys.length - k ∧ k ≤ ys.length ∧ i = .int .i64 (k : Int) ∧ s.length ≤ k ∧ q.length ≤ k ∧ rows.length ≤ k ∧ TII.Rise rows ∧
    EInt.St wr OW [1, 0, 0] g4 0 s ∧ EInt.Q wr OW [1, 0, 1] g5 0 q ∧ TII.TbP wr OW [1, 0, 2] g6 0 rows ∧ EInt.Rg wr OW [1, 0, 3] g7 7 (k - 7) (ringXs ys 7 k) ∧ EInt.Book wr OW [1, 1] g3 0 (4 * k) ∧ Turn [1] w ow0 wr OW
def fourP (w : World) (W : World) : Prop := ∃ OW : Ow,
  EInt.Book W OW [1, 1] w.heap.size 0 0 ∧ EInt.St W OW [1, 0, 0] (w.heap.size + 1) 0 [] ∧ EInt.Q W OW [1, 0, 1] (w.heap.size + 1 + 1) 0 [] ∧ TII.TbP W OW [1, 0, 2] (w.heap.size + 1 + 1 + 1) 0 [] ∧ Turn [1] w ow0 W OW
set_option maxHeartbeats 1000000 in
theorem four (w : World) (a b c d : TypeId) : fourP w ((((w.alloc (.cells #[.slice none 0 0, .slice none 0 0, .int .i64 0, .bool false] a)).alloc (.cells #[.slice none 0 0] b)).alloc (.cells #[.slice none 0 0, .int .i64 0] c)).alloc (.cells #[.slice none 0 0] d)) := by
  obtain ⟨o0, c0, n0, z0⟩ := add_cells w ow0 [1, 1, 0] [.slice none 0 0, .slice none 0 0, .int .i64 0, .bool false] a
  generalize w.alloc (.cells #[.slice none 0 0, .slice none 0 0, .int .i64 0, .bool false] a) = w0 at *
  obtain ⟨o1, c1, n1, z1⟩ := add_cells w0 o0 [1, 0, 0, 0] [.slice none 0 0] b
  generalize w0.alloc (.cells #[.slice none 0 0] b) = w1 at *
  obtain ⟨o2, c2, n2, z2⟩ := add_cells w1 o1 [1, 0, 1, 0] [.slice none 0 0, .int .i64 0] c
  generalize w1.alloc (.cells #[.slice none 0 0, .int .i64 0] c) = w2 at *
  obtain ⟨o3, c3, n3, z3⟩ := add_cells w2 o2 [1, 0, 2, 0] [.slice none 0 0] d
  generalize w2.alloc (.cells #[.slice none 0 0] d) = w3 at *
  rw [z0] at c1
  have s2 : w1.heap.size = w.heap.size + 2 := by omega
  rw [s2] at c2
  have s3 : w2.heap.size = w.heap.size + 3 := by omega
  rw [s3] at c3
  exact ⟨o3, EInt.Book.nil 0 (((c0.new_ n1).new_ n2).new_ n3), EInt.St.nil ((c1.new_ n2).new_ n3), ⟨.slice none 0 0, [], 0, c2.new_ n3, Row.nil _ _ _ _ _, by simp, rfl⟩, TII.TbP.nil c3, (((n0.turn [1]).trans (n1.turn [1])).trans (n2.turn [1])).trans (n3.turn [1])⟩

/-- A call's world gets a name. -/
theorem gen_calls {P : Program} {f : FuncId} {xs : Array Value} {Q : Ending → World → Prop} {W : World} (Φ : World → Prop) (hΦ : Φ W) (h : ∀ w', Φ w' → Calls P f xs w' Q) : Calls P f xs W Q := h W hΦ

set_option maxRecDepth 100000 in
set_option maxHeartbeats 16000000 in
theorem kept (w : World) (v : Value) (xs : List Int) (h : EInt.In w v xs) : Calls Try.prog 7 #[v] w fun e w' => e = .returned (.bool true) ∧ Below w.heap.size w w' := by
  obtain ⟨A, cap, rfl, hcap, hmax, hcov⟩ := h
  have Hcov := Lib.hid hcov
  clear hcov
  go_enter Try.func7, Try.ntmps7
  go_upto_if 12 with fail
  go_cut [0] (fun s0 wx => wx = w ∧ s0 = .slice A (xs.take 60).length cap)
  case first =>
    by_cases h300 : (60 : Int) < (xs.length : Int)
    · go_wp2_with fail
      go_meet
      exact ⟨rfl, by rw [List.length_take, Nat.min_eq_left (by omega)]⟩
    · go_wp2_with fail
      go_meet
      exact ⟨rfl, by rw [List.take_of_length_le (by omega)]⟩
  case rest =>
    obtain ⟨rfl, rfl⟩ := hcut
    have hlen : (xs.take 60).length ≤ 60 := by rw [List.length_take]; omega
    have hcov : EInt.Cov wc A (EInt.css (xs.take 60)) := by rw [EInt.css_take]; exact Hcov.out.take _
    generalize hys : xs.take 60 = ys at *
    have Hc := Lib.hid hcov
    clear hys Hcov hcap hmax hcov xs
    obtain ⟨w, rfl⟩ : ∃ w : World, w = wc := ⟨_, rfl⟩
    go_wp2_with fail
    refine gen_calls (fourP w) (four w _ _ _ _) ?_
    rintro w1 ⟨ow1, hb, hs, hq, ht, t⟩
    generalize hg : w.heap.size = g3 at *
    generalize hg6 : g3 + 1 + 1 + 1 = g6 at *
    generalize hg5 : g3 + 1 + 1 = g5 at *
    generalize hg4 : g3 + 1 = g4 at *
    clear hg hg4 hg5 hg6
    refine (EInt.r_new w1 ow1 [1, 0, 3] 7 (by omega) (by omega)).mono ?_
    rintro e w2 ⟨g7, ow2, rfl, hr, nn, -⟩
    replace hb := hb.new_ nn
    replace hs := hs.new_ nn
    replace hq := hq.new_ nn
    replace ht := ht.new_ nn
    replace t := t.trans (nn.turn [1])
    clear nn
    go_wp2_with fail
    go_loopg [9] ys.length (fun gn i wr => kpRel w g3 g4 g5 g6 g7 ys gn i wr)
    case atStart => exact ⟨0, ow2, [], [], [], rfl, Nat.zero_le _, rfl, Nat.le_refl _, Nat.le_refl _, Nat.le_refl _, List.Pairwise.nil, hs, hq, ht, by simpa [ringXs] using hr, hb, t⟩
    case round =>
      clear hb hs hq ht hr t ow1 ow2 w1 w2
      obtain ⟨k, OW, s, q, rows, hgk, hk, rfl, ls, lq, lt, hR, hs, hq, ht, hr, hb, t⟩ := hrel
      have Hgk := Lib.hid hgk
      clear hgk
      by_cases hlt : k < ys.length
      · obtain ⟨y, hy⟩ : ∃ y, ys[k]? = some y := ⟨_, List.getElem?_eq_getElem hlt⟩
        obtain ⟨b, off, rfl, d0⟩ := Hc.out.at k y hy
        have lb := World.block_lt_of_cell? w _ d0
        simp only at lb
        have Hy := Lib.hid hy
        have i0 : (k : Int) < (ys.length : Int) := by omega
        clear hy
        have c0 := ((t.new_ ow0 [1]).below.cell (p := ⟨b, off + k, none⟩) lb).trans d0
        go_wp2_with fail
        refine (EInt.s_push wr OW [1, 0, 0] g4 0 s y hs (by omega)).mono ?_
        rintro e w3 ⟨ow3, rfl, hn', tt⟩
        replace hq := hq.keep tt (by simp) (by simp)
        replace ht := ht.keep tt (by simp) (by simp)
        replace hr := hr.keep tt (fun s => by simp)
        replace hb := hb.keep tt (fun s => by simp)
        replace t := t.trans (tt.up (by simp))
        clear hs tt c0
        have hs := hn'
        clear hn'
        have c0 := ((t.new_ ow0 [1]).below.cell (p := ⟨b, off + k, none⟩) lb).trans d0
        go_wp2_with fail
        refine (EInt.q_put w3 ow3 [1, 0, 1] g5 0 q y hq (by omega)).mono ?_
        rintro e w4 ⟨ow4, rfl, hn', tt⟩
        replace hs := hs.keep tt (by simp) (by simp)
        replace ht := ht.keep tt (by simp) (by simp)
        replace hr := hr.keep tt (fun s => by simp)
        replace hb := hb.keep tt (fun s => by simp)
        replace t := t.trans (tt.up (by simp))
        clear hq tt c0
        have hq := hn'
        clear hn'
        have c0 := ((t.new_ ow0 [1]).below.cell (p := ⟨b, off + k, none⟩) lb).trans d0
        go_wp2_with fail
        refine (TII.setQ w4 ow4 [1, 0, 2] g6 0 rows y k ht hR (by omega)).mono ?_
        rintro e w5 ⟨ow5, rfl, hn', tt⟩
        replace hs := hs.keep tt (by simp) (by simp)
        replace hq := hq.keep tt (by simp) (by simp)
        replace hr := hr.keep tt (fun s => by simp)
        replace hb := hb.keep tt (fun s => by simp)
        replace t := t.trans (tt.up (by simp))
        clear ht tt c0
        have ht := hn'
        clear hn'
        have hl := TII.setT_length rows hR y k
        have hR' := TII.setT_rise rows hR y k
        have hl' : (TII.setT rows y k).length ≤ k + 1 := by rw [hl]; split <;> omega
        clear hl hR
        have c0 := ((t.new_ ow0 [1]).below.cell (p := ⟨b, off + k, none⟩) lb).trans d0
        go_wp2_with fail
        refine (ringQ w5 ow5 [1, 0, 3] g7 7 k ys y hr (by omega) (by omega) (by omega) Hy.out).mono ?_
        rintro e w6 ⟨ow6, rfl, hn', tt⟩
        replace hs := hs.keep tt (by simp) (by simp)
        replace hq := hq.keep tt (by simp) (by simp)
        replace ht := ht.keep tt (by simp) (by simp)
        replace hb := hb.keep tt (fun s => by simp)
        replace t := t.trans (tt.up (by simp))
        clear hr tt c0
        have hr := hn'
        clear hn'
        obtain ⟨S, hS, lS⟩ : ∃ S, s ++ [y] = S ∧ S.length ≤ k + 1 := ⟨_, rfl, by rw [List.length_append, List.length_cons, List.length_nil]; omega⟩
        obtain ⟨Q, hQ, lQ⟩ : ∃ Q, q ++ [y] = Q ∧ Q.length ≤ k + 1 := ⟨_, rfl, by rw [List.length_append, List.length_cons, List.length_nil]; omega⟩
        rw [hS] at hs
        rw [hQ] at hq
        generalize TII.setT rows y k = T at *
        clear hS hQ ls lq lt s q
        go_wp2_with fail
        refine (EInt.s_list w6 ow6 [1, 0, 0] [1, 1, 3, 4 * k] g4 0 S hs (by omega)).mono ?_
        rintro e w7 ⟨v7, ow7, rfl, rr, nn, -⟩
        replace hs := hs.new_ nn
        replace hq := hq.new_ nn
        replace ht := ht.new_ nn
        replace hr := hr.new_ nn
        replace hb := hb.new_ nn
        replace t := t.trans (nn.turn [1])
        clear nn
        go_wp2_with fail
        refine (EInt.bk_keep w7 ow7 [1, 1] g3 0 (4 * k) v7 S hb rr (by omega)).mono ?_
        rintro e w8 ⟨ow8, rfl, hn', tt⟩
        replace hs := hs.keep tt (by simp) (by simp)
        replace hq := hq.keep tt (by simp) (by simp)
        replace ht := ht.keep tt (by simp) (by simp)
        replace hr := hr.keep tt (fun s => by simp)
        replace t := t.trans (tt.up (by simp))
        clear hb tt rr
        have hb := hn'
        clear hn'
        go_wp2_with fail
        refine (EInt.q_list w8 ow8 [1, 0, 1] [1, 1, 3, 4 * k + 1] g5 0 Q hq (by omega)).mono ?_
        rintro e w9 ⟨v9, ow9, rfl, rr, nn, -⟩
        replace hs := hs.new_ nn
        replace hq := hq.new_ nn
        replace ht := ht.new_ nn
        replace hr := hr.new_ nn
        replace hb := hb.new_ nn
        replace t := t.trans (nn.turn [1])
        clear nn
        go_wp2_with fail
        refine (EInt.bk_keep w9 ow9 [1, 1] g3 0 (4 * k + 1) v9 Q hb rr (by omega)).mono ?_
        rintro e w10 ⟨ow10, rfl, hn', tt⟩
        replace hs := hs.keep tt (by simp) (by simp)
        replace hq := hq.keep tt (by simp) (by simp)
        replace ht := ht.keep tt (by simp) (by simp)
        replace hr := hr.keep tt (fun s => by simp)
        replace t := t.trans (tt.up (by simp))
        clear hb tt rr
        have hb := hn'
        clear hn'
        go_wp2_with fail
        refine (TII.t_keys w10 ow10 [1, 0, 2] [1, 1, 3, 4 * k + 2] g6 0 T ht (by omega)).mono ?_
        rintro e w11 ⟨v11, ow11, rfl, rr, nn, -⟩
        replace hs := hs.new_ nn
        replace hq := hq.new_ nn
        replace ht := ht.new_ nn
        replace hr := hr.new_ nn
        replace hb := hb.new_ nn
        replace t := t.trans (nn.turn [1])
        clear nn
        go_wp2_with fail
        refine (EInt.bk_keep w11 ow11 [1, 1] g3 0 (4 * k + 2) v11 (T.map (·.1)) hb (by rw [List.length_map]; exact rr) (by rw [List.length_map]; omega)).mono ?_
        rintro e w12 ⟨ow12, rfl, hn', tt⟩
        replace hs := hs.keep tt (by simp) (by simp)
        replace hq := hq.keep tt (by simp) (by simp)
        replace ht := ht.keep tt (by simp) (by simp)
        replace hr := hr.keep tt (fun s => by simp)
        replace t := t.trans (tt.up (by simp))
        clear hb tt rr
        have hb := hn'
        clear hn'
        go_wp2_with fail
        refine (EInt.r_list w12 ow12 [1, 0, 3] [1, 1, 3, 4 * k + 3] g7 7 (k + 1 - 7) (ringXs ys 7 (k + 1)) hr (by rw [ringXs_length _ _ _ (by omega)]; omega)).mono ?_
        rintro e w13 ⟨v13, ow13, rfl, rr, nn, -⟩
        replace hs := hs.new_ nn
        replace hq := hq.new_ nn
        replace ht := ht.new_ nn
        replace hr := hr.new_ nn
        replace hb := hb.new_ nn
        replace t := t.trans (nn.turn [1])
        clear nn
        go_wp2_with fail
        refine (EInt.bk_keep w13 ow13 [1, 1] g3 0 (4 * k + 3) v13 (ringXs ys 7 (k + 1)) hb rr (by rw [ringXs_length _ _ _ (by omega)]; omega)).mono ?_
        rintro e w14 ⟨ow14, rfl, hn', tt⟩
        replace hs := hs.keep tt (by simp) (by simp)
        replace hq := hq.keep tt (by simp) (by simp)
        replace ht := ht.keep tt (by simp) (by simp)
        replace hr := hr.keep tt (fun s => by simp)
        replace t := t.trans (tt.up (by simp))
        clear hb tt rr
        have hb := hn'
        clear hn'
        have hb : EInt.Book w14 ow14 [1, 1] g3 0 (4 * (k + 1)) := hb
        by_cases h3 : (k : Int) % 3 = 2
        · obtain ⟨z, hz⟩ : ∃ z, ys[k / 2]? = some z := ⟨_, List.getElem?_eq_getElem (by omega)⟩
          obtain ⟨b', off', hv, f0⟩ := Hc.out.at (k / 2) z hz
          simp only [Option.some.injEq, Addr.mk.injEq] at hv
          obtain ⟨rfl, rfl, -⟩ := hv
          clear hz
          go_wp2_with fail
          refine (s_popQ w14 ow14 [1, 0, 0] g4 0 S hs (by omega)).mono ?_
          rintro e w15 ⟨_, ow15, rfl, hn', tt⟩
          replace hq := hq.keep tt (by simp) (by simp)
          replace ht := ht.keep tt (by simp) (by simp)
          replace hr := hr.keep tt (fun s => by simp)
          replace hb := hb.keep tt (fun s => by simp)
          replace t := t.trans (tt.up (by simp))
          clear hs tt
          have hs := hn'
          clear hn'
          go_wp2_with fail
          refine (q_takeQ w15 ow15 [1, 0, 1] g5 0 Q hq (by omega)).mono ?_
          rintro e w16 ⟨_, ow16, rfl, hn', tt⟩
          replace hs := hs.keep tt (by simp) (by simp)
          replace ht := ht.keep tt (by simp) (by simp)
          replace hr := hr.keep tt (fun s => by simp)
          replace hb := hb.keep tt (fun s => by simp)
          replace t := t.trans (tt.up (by simp))
          clear hq tt
          have hq := hn'
          clear hn'
          have c0 := ((t.new_ ow0 [1]).below.cell (p := ⟨b, off + k / 2, none⟩) lb).trans f0
          have i1 : (k : Int) / 2 < (ys.length : Int) := by omega
          have i2 : ((k : Int) / 2).toNat = k / 2 := by omega
          go_wp2_with fail
          refine (TII.delQ w16 ow16 [1, 0, 2] g6 0 T z ht hR' (by omega)).mono ?_
          rintro e w17 ⟨ow17, rfl, hn', tt⟩
          replace hs := hs.keep tt (by simp) (by simp)
          replace hq := hq.keep tt (by simp) (by simp)
          replace hr := hr.keep tt (fun s => by simp)
          replace hb := hb.keep tt (fun s => by simp)
          replace t := t.trans (tt.up (by simp))
          clear ht tt
          have ht := hn'
          clear hn'
          have hR' := TII.delT_rise T hR' z
          have hl' := TII.delT_length T z
          go_wp2
          go_roundg (ys.length - (k + 1))
          case measure => have := Hgk.out; omega
          case rel => exact ⟨k + 1, ow17, _, _, _, rfl, by omega, by go_num, by rw [List.length_dropLast]; omega, by rw [List.length_tail]; omega, by omega, hR', hs, hq, ht, hr, hb, t⟩
        · go_wp2_with fail
          go_roundg (ys.length - (k + 1))
          case measure => have := Hgk.out; omega
          case rel => exact ⟨k + 1, ow14, _, _, _, rfl, by omega, by go_num, lS, lQ, hl', hR', hs, hq, ht, hr, hb, t⟩
      · obtain rfl : k = ys.length := by omega
        clear hlt Hgk
        go_wp2_with fail
        refine (EInt.bk_apart wr OW [1, 1] g3 0 _ hb).mono ?_
        rintro e w2 ⟨OW2, rfl, t2⟩
        have t2 := t.trans (t2.up (by simp))
        have b2 := (t2.new_ ow0 [1]).below
        go_wp2_with fail
        refine (runs w2).mono ?_
        rintro e w3 ⟨rfl, b3⟩
        have fin := b2.trans (b3.mono b2.size)
        go_wp2
        go_ret
        exact ⟨rfl, fin⟩

end SH
end Go.Proofs.Ytppikbdeopagkaa
