/-
  LAW 5: UnitsPlays: the walk.
-/
import Derived.Test.YtefagdbdimpcdaaRT6
import Derived.Test.YtefagdbdimpcdaaRT5
import Derived.Test.YtefagdbdimpcdaaUR
import Derived.Test.YtefagdbdimpcdaaUB
import Derived.Deep.CutRange
import Derived.Deep.CutBlock
import Derived.Deep.DeepCutAuto
set_option linter.unusedVariables false
set_option linter.unusedSimpArgs false
namespace Go.Proofs.Ytefagdbdimpcdaa
open Go Go.RowKit
namespace UN

open RT5
/-- What the first loop keeps. -/
def upF (w : World) (g : Nat) (us : List Int) (V : Value) (n gn : Nat) (i : Value) (wr : World) : Prop :=
  ∃ (k : Nat) (ys : List Int) (OW : Ow), gn = n - k ∧ k ≤ n ∧ i = .int .i64 (k : Int) ∧ ys.length = n + 80 ∧ Row wr OW [1, 3] 3 1 V (n + 80) (EInt.css ys) ∧ UT wr OW [1, 1] g us (List.replicate us.length 0) [] ∧ Turn [1] w ow0 wr OW
/-- What the second loop keeps. -/
def upR (w : World) (g g2 : Nat) (us : List Int) (N gn : Nat) (i : Value) (wr : World) : Prop :=
  ∃ (k : Nat) (OW : Ow) (C : List Int) (T : List Tk), gn = N - k ∧ k ≤ N ∧ i = .int .i64 (k : Int) ∧ UT wr OW [1, 1] g us C T ∧ RT wr OW [1, 2] g2 us C T ∧ Turn [1] w ow0 wr OW

set_option maxRecDepth 100000 in
set_option maxHeartbeats 16000000 in
theorem playsL (w : World) (v : Value) (xs : List Int) (h : EInt.In w v xs) (vs : Value) (ops : List Op5) (hs : EOp.In w vs ops) : Calls Try.prog 10 #[v, vs] w fun e w' => e = .returned (.bool true) ∧ Below w.heap.size w w' := by
  obtain ⟨A, cap, rfl, hcap, hmax, hcov⟩ := h
  have Hcov := Lib.hid hcov
  have Hs := Lib.hid hs
  clear hcov hs
  go_enter Try.func10, Try.ntmps10
  go_upto_if 15 with fail
  go_cut [0] from 13 to 17 (fun s0 wx => wx = w ∧ s0 = .slice A (xs.take 30).length cap)
  case first => as_aux_lemma =>
    by_cases h300 : (30 : Int) < (xs.length : Int)
    · have c100 : (30 : Int) ≤ (cap : Int) := by omega
      go_wp2_with fail
      go_meet
      exact ⟨rfl, by rw [List.length_take, Nat.min_eq_left (by omega)]⟩
    · go_wp2_with fail
      go_meet
      exact ⟨rfl, by rw [List.take_of_length_le (by omega)]⟩
  case rest => as_aux_lemma =>
    obtain ⟨rfl, rfl⟩ := hcut
    have hlen : (xs.take 30).length ≤ 30 ∧ (xs.take 30).length ≤ cap := by rw [List.length_take]; omega
    obtain ⟨hlen, hlc⟩ := hlen
    have hcov : EInt.Cov wc A (EInt.css (xs.take 30)) := by rw [EInt.css_take]; exact Hcov.out.take _
    generalize xs.take 30 = us at *
    have Hc := Lib.hid hcov
    clear Hcov hcap hmax hcov
    obtain ⟨w, rfl⟩ : ∃ w : World, w = wc := ⟨_, rfl⟩
    go_wp2_with fail
    refine (EOp.fewB w w vs ops 200 Hs.out (by omega)).mono ?_
    rintro e w3 ⟨v3, rfl, hin, rfl⟩
    obtain ⟨B, capB, rfl, -, -, hcB⟩ := hin
    have HB := Lib.hid hcB
    clear hcB Hs
    have hyl : (ops.take 200).length ≤ 200 := by rw [List.length_take]; omega
    generalize ops.take 200 = ys at *
    go_wp2_with fail
    refine (roomy w3 ow0 [1, 3] A cap us (-77) Hc.out (by omega)).mono ?_
    rintro e w4 ⟨v4, ow4, rfl, hf, nn⟩
    have t := nn.turn [1]
    clear nn
    obtain ⟨bf, off, cf, rfl, hc1, hc2, -, -⟩ := hf.at (by omega)
    have hle : (us.length : Int) ≤ (cf : Int) := by omega
    have hrt := hf.readsTo us.length (by omega)
    rw [← EInt.css_take, List.take_left] at hrt
    have hbe := fun W (hb : Below w3.heap.size w3 W) => rbegins W A cap us (Hc.out.new_ hb) (by omega)
    have Hbe := Lib.hid hbe
    clear hbe
    by_cases hE : newE us = 0
    · as_aux_lemma =>
      have hno : us.length ≤ 16 ∧ ∀ u ∈ us, okU u := by
        unfold newE at hE
        by_cases c1 : 16 < us.length
        · rw [if_pos c1] at hE; cases hE
        · rw [if_neg c1] at hE
          by_cases c2 : ∀ u ∈ us, okU u
          · exact ⟨by omega, c2⟩
          · rw [if_neg c2] at hE; cases hE
      obtain ⟨h16, hok⟩ := hno
      have Hok := Lib.hid hok
      have HE := Lib.hid hE
      clear hE hok
      go_wp2_with fail
      refine (new_ok w4 _ us hrt ow4 [1, 1] h16 Hok.out).mono ?_
      rintro e w5 ⟨g, ow5, rfl, hT, nn, -⟩
      replace hf := hf.new_ nn
      replace t := t.trans (nn.turn [1])
      clear nn hrt
      go_wp2_with fail
      refine (Hbe.out w5 (t.new_ ow0 [1]).below).mono ?_
      rw [HE.out]
      rintro e w6 ⟨rfl, hww⟩
      subst hww
      go_wp2_with fail
      refine (intact w6 ow5 [1, 3] _ A cap us (-77) hf (Hc.out.new_ (t.new_ ow0 [1]).below) (by omega) hlc).mono ?_
      rintro e w7 ⟨rfl, kk, hw'⟩
      have nn : New w6 ow5 w7 ow5 := by rw [hw']; exact (New.refl _ _).drewN kk
      replace hT := hT.new_ nn
      replace hf := hf.new_ nn
      replace t := t.trans (nn.turn [1])
      clear nn hw' Hbe
      go_wp2_with fail
      go_loopg [9] us.length (fun gn i wr => upF w3 g us (.slice (some ⟨bf, off, none⟩) (us.length + 80) cf) us.length gn i wr)
      case atStart => exact ⟨0, _, ow5, rfl, Nat.zero_le _, rfl, by simp, hf, hT, t⟩
      case round =>
        clear hf hT t
        obtain ⟨k, zs, OW, hgk, hk, rfl, hzl, hf, hT, t⟩ := hrel
        have Hgk := Lib.hid hgk
        have Hzl := Lib.hid hzl
        clear hgk hzl
        by_cases hlt : k < us.length
        · have i0 : (k : Int) < (us.length : Int) := by omega
          have i1 : (k : Int) < ((us.length + 80 : Nat) : Int) := by omega
          have i2 : (k : Int) < (us.length : Int) + 80 := by omega
          obtain ⟨x, hx⟩ : ∃ x, zs[k]? = some x := ⟨_, List.getElem?_eq_getElem (by rw [Hzl.out]; omega)⟩
          obtain ⟨b', off', cap', hv', lb, eu, hfz⟩ := row_at hf Hzl.out k x hx
          simp only [Value.slice.injEq, Option.some.injEq, Addr.mk.injEq, and_true, true_and] at hv'
          obtain ⟨⟨rfl, rfl⟩, rfl⟩ := hv'
          have f0 := hfz (off + k)
          have tk := hf.turn (off + k) (.int .i64 1)
          have hf' := hf.set k (.int .i64 1)
          rw [css_cells1 zs 0 1 k] at hf'
          have hT' := hT.keep tk (fun s => by simp)
          have t' := t.trans (tk.up (by simp))
          clear hx hf t tk hfz hT
          go_wp2
          go_roundg (us.length - (k + 1))
          case measure => have := Hgk.out; omega
          case rel => exact ⟨k + 1, zs.set k 1, OW, rfl, by omega, by go_num, by rw [List.length_set]; exact Hzl.out, hf', hT', t'⟩
        · obtain rfl : k = us.length := by omega
          clear hlt Hgk hf Hzl hk
          go_wp2_with fail
          refine (rnew wr OW [1, 2] A cap us (Hc.out.new_ (t.new_ ow0 [1]).below) h16 Hok.out).mono ?_
          rintro e w8 ⟨g2, ow8, rfl, hR, nn⟩
          replace hT := hT.new_ nn
          replace t := t.trans (nn.turn [1])
          clear nn Hok
          generalize List.replicate us.length 0 = C0 at *
          go_wp2_with fail
          go_loopg [11] ys.length (fun gn i wr => upR w3 g g2 us ys.length gn i wr)
          case atStart => exact ⟨0, ow8, _, _, rfl, Nat.zero_le _, rfl, hT, hR, t⟩
          case round =>
            clear hT hR t
            obtain ⟨k, OW, C, T, hgk, hk, rfl, hT, hR, t⟩ := hrel
            have Hgk := Lib.hid hgk
            clear hgk
            by_cases hlt : k < ys.length
            · obtain ⟨o, ho⟩ : ∃ o, ys[k]? = some o := ⟨_, List.getElem?_eq_getElem hlt⟩
              obtain ⟨b, off, rfl, c0, c1, c2, c3, c4, c5⟩ := (HB.out.new_ (t.new_ ow0 [1]).below).at k o ho
              have i0 : (k : Int) < (ys.length : Int) := by omega
              clear ho
              go_upto_region 20 with fail
              obtain ⟨ow21, ho, nn, -⟩ := SH.add_cells wr OW [2] [.int .i64 o.kind, .int .i64 o.job, .int .i64 o.res, .int .i64 o.n, .int .i64 o.need, .int .i64 o.v] 43
              generalize wr.alloc (.cells #[.int .i64 o.kind, .int .i64 o.job, .int .i64 o.res, .int .i64 o.n, .int .i64 o.need, .int .i64 o.v] 43) = w21 at *
              generalize wr.heap.size = gx at *
              replace hT := hT.new_ nn
              replace hR := hR.new_ nn
              replace t := t.trans (nn.turn [1])
              clear nn
              clear c0 c1 c2 c3 c4 c5
              have o0 := ho.get 0 rfl
              have o1 := ho.get 1 rfl
              have o2 := ho.get 2 rfl
              have o3 := ho.get 3 rfl
              have o4 := ho.get 4 rfl
              have o5 := ho.get 5 rfl
              simp only [Nat.zero_add] at o0 o1 o2 o3 o4 o5
              go_wp2_with fail
              refine (done w21 ow21 g g2 us C T hT hR o).mono ?_
              rintro e w22 ⟨ow22, C', T', rfl, hT', hR', tt⟩
              clear hT hR
              have hT := hT'
              have hR := hR'
              clear hT' hR'
              replace ho := ho.keep tt (by simp)
              replace t := t.trans tt
              clear tt
              clear o0 o1 o2 o3 o4 o5
              have o0 := ho.get 0 rfl
              have o1 := ho.get 1 rfl
              have o2 := ho.get 2 rfl
              have o3 := ho.get 3 rfl
              have o4 := ho.get 4 rfl
              have o5 := ho.get 5 rfl
              simp only [Nat.zero_add] at o0 o1 o2 o3 o4 o5
              go_wp2_with fail
              refine (shows w22 ow22 g g2 us C' T' hT hR o.job o.res).mono ?_
              rintro e w23 ⟨rfl, bb⟩
              have nn := bb.nw ow22
              replace hT := hT.new_ nn
              replace hR := hR.new_ nn
              replace ho := ho.new_ nn
              replace t := t.trans (nn.turn [1])
              clear nn
              clear bb
              clear o0 o1 o2 o3 o4 o5
              have o0 := ho.get 0 rfl
              have o1 := ho.get 1 rfl
              have o2 := ho.get 2 rfl
              have o3 := ho.get 3 rfl
              have o4 := ho.get 4 rfl
              have o5 := ho.get 5 rfl
              simp only [Nat.zero_add] at o0 o1 o2 o3 o4 o5
              go_wp2_with fail
              refine (shows w23 ow22 g g2 us C' T' hT hR o.need o.n).mono ?_
              rintro e w24 ⟨rfl, bb⟩
              have nn := bb.nw ow22
              replace hT := hT.new_ nn
              replace hR := hR.new_ nn
              replace ho := ho.new_ nn
              replace t := t.trans (nn.turn [1])
              clear nn
              clear bb
              clear o0 o1 o2 o3 o4 o5
              go_wp2_with fail
              go_roundg (ys.length - (k + 1))
              case measure => have := Hgk.out; omega
              case rel => exact ⟨k + 1, ow22, C', T', rfl, by omega, by go_num, hT, hR, t⟩
            · obtain rfl : k = ys.length := by omega
              clear hlt Hgk
              have fin := (t.new_ ow0 [1]).below
              clear hT hR t
              go_wp2_with fail
              refine (runs wr).mono ?_
              rintro e w92 ⟨rfl, b5⟩
              have fin := fin.trans (b5.mono fin.size)
              go_wp2
              go_ret
              exact ⟨rfl, fin⟩
    · as_aux_lemma =>
      obtain ⟨E, hEE⟩ : ∃ E, newE us = E := ⟨_, rfl⟩
      have hno := new_no w4 _ us hrt hE
      rw [hEE] at hE hno
      have HE := Lib.hid hEE
      have e9 : (E == 0) = false := beq_eq_false_iff_ne.2 hE
      have e8 : (E != 0) = true := by simp [bne, e9]
      have e7 : (E == E) = true := beq_self_eq_true _
      clear hE hEE
      go_wp2_with fail
      refine hno.mono ?_
      rintro e w5 ⟨rfl, bb⟩
      have nn := bb.nw ow4
      replace hf := hf.new_ nn
      replace t := t.trans (nn.turn [1])
      clear nn hrt bb hno
      go_wp2_with fail
      refine (Hbe.out w5 (t.new_ ow0 [1]).below).mono ?_
      rw [HE.out]
      rintro e w6 ⟨rfl, hww⟩
      subst hww
      go_wp2_with fail
      refine (intact w6 ow4 [1, 3] _ A cap us (-77) hf (Hc.out.new_ (t.new_ ow0 [1]).below) (by omega) hlc).mono ?_
      rintro e w7 ⟨rfl, kk, hw'⟩
      have fin := (t.new_ ow0 [1]).below
      have fin : Below w3.heap.size w3 w7 := by rw [hw']; exact bdN fin kk
      clear hw' Hbe hf t
      go_wp2_with fail
      refine (runs w7).mono ?_
      rintro e w92 ⟨rfl, b5⟩
      have fin := fin.trans (b5.mono fin.size)
      go_wp2
      go_ret
      exact ⟨rfl, fin⟩

end UN
end Go.Proofs.Ytefagdbdimpcdaa
