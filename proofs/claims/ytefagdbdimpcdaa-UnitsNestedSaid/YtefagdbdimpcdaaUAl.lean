/-
  LAW 5: alike: two tables in which the same locks were taken in the same order.
-/
import Derived.Test.YtefagdbdimpcdaaUSp
import Derived.Test.YtefagdbdimpcdaaUR
import Derived.Test.YtefagdbdimpcdaaELkS
import Derived.Test.YtefagdbdimpcdaaUB
import Derived.Deep.CutRange
import Derived.Deep.CutBlock
import Derived.Deep.DeepCutAuto
set_option linter.unusedVariables false
set_option linter.unusedSimpArgs false
namespace Go.Proofs.Ytefagdbdimpcdaa
open Go Go.RowKit
namespace UN

def alR (w : World) (ow : Ow) (p1 p2 : List Nat) (g1 g2 : Nat) (U C1 C2 : List Int) (T : List Tk) (gn : Nat) (i : Value) (wr : World) : Prop :=
  ∃ (r : Nat) (OW : Ow), gn = U.length - r ∧ r ≤ U.length ∧ i = .int .i64 (r : Int) ∧ UT wr OW p1 g1 U C1 T ∧ UT wr OW p2 g2 U C2 T ∧ New w ow wr OW
def alR2 (w : World) (ow : Ow) (p1 p2 : List Nat) (g1 g2 : Nat) (Vh : Value) (U C1 C2 : List Int) (T : List Tk) (hs : List Hd) (gn : Nat) (i : Value) (wr : World) : Prop :=
  ∃ (m : Nat) (OW : Ow), gn = hs.length - m ∧ m ≤ hs.length ∧ i = .int .i64 (m : Int) ∧ UT wr OW p1 g1 U C1 T ∧ UT wr OW p2 g2 U C2 T ∧ Row wr OW [7] 31 2 Vh hs.length (EHd.css hs) ∧ New w ow wr OW

set_option maxRecDepth 100000 in
set_option maxHeartbeats 16000000 in
theorem alike (w : World) (ow : Ow) (p1 p2 : List Nat) (g1 g2 : Nat) (U C1 C2 : List Int) (T : List Tk) (h1 : UT w ow p1 g1 U C1 T) (h2 : UT w ow p2 g2 U C2 T) :
    Calls Try.prog 29 #[.pointer (some ⟨g1, 0, none⟩), .pointer (some ⟨g2, 0, none⟩), .int .i64 U.length] w fun e w' => e = .returned (.bool true) ∧ Below w.heap.size w w' := by
  have hul : U.length ≤ 16 ∧ T.length ≤ 4080 := by obtain ⟨rr, hi, -⟩ := h1; exact ⟨hi.ul, hi.len⟩
  obtain ⟨hul, htl⟩ := hul
  have t := New.refl w ow
  have hT := h1
  have hu := h2
  clear h1 h2
  go_enter Try.func29, Try.ntmps29
  go_wp2_with fail
  go_loopg [7] U.length (fun gn i wr => alR w ow p1 p2 g1 g2 U C1 C2 T gn i wr)
  case atStart => exact ⟨0, ow, rfl, Nat.zero_le _, rfl, hT, hu, t⟩
  case round =>
    clear hT hu t
    obtain ⟨r, OW, hgr, hr, rfl, hT, hu, t⟩ := hrel
    have Hgr := Lib.hid hgr
    clear hgr
    by_cases hrt : r < U.length
    · have i0 : (r : Int) < (U.length : Int) := by omega
      go_wp2_with fail
      refine (free wr OW p1 g1 U C1 T hT r).mono ?_
      rintro e w11 ⟨rfl, bb⟩
      have nn := bb.nw OW
      replace hT := hT.new_ nn
      replace hu := hu.new_ nn
      replace t := t.trans nn
      clear nn
      clear bb
      go_wp2_with fail
      refine (free w11 OW p2 g2 U C2 T hu r).mono ?_
      rintro e w12 ⟨rfl, bb⟩
      have nn := bb.nw OW
      replace hT := hT.new_ nn
      replace hu := hu.new_ nn
      replace t := t.trans nn
      clear nn
      clear bb
      generalize freeQ U T r = fq at *
      have bv : (fq == fq) = true := beq_self_eq_true _
      have bv2 : (fq != fq) = false := by simp
      go_wp2_with fail
      refine (holders w12 OW p1 [5] g1 U C1 T hT r).mono ?_
      rintro e w13 ⟨v5, ow13, hs, rfl, his, hsl, hz, nn, -⟩
      replace hT := hT.new_ nn
      replace hu := hu.new_ nn
      replace t := t.trans nn
      clear nn
      go_wp2_with fail
      refine (holders w13 ow13 p2 [6] g2 U C2 T hu r).mono ?_
      rintro e w14 ⟨v6, ow14, hs2, rfl, his2, hsl2, hy, nn, -⟩
      replace hT := hT.new_ nn
      replace hu := hu.new_ nn
      replace hz := hz.new_ nn
      replace t := t.trans nn
      clear nn
      obtain rfl := IsH.same his2 his
      clear his2 hsl2
      go_wp2_with fail
      refine (EHd.same_yes w14 v5 v6 hs2 (by omega) hz.reads hy.reads).mono ?_
      rintro e w15 ⟨rfl, kk, hw'⟩
      have nn : New w14 ow14 w15 ow14 := by rw [hw']; exact (New.refl _ _).drewN kk
      clear hw'
      replace hT := hT.new_ nn
      replace hu := hu.new_ nn
      replace hz := hz.new_ nn
      replace hy := hy.new_ nn
      replace t := t.trans nn
      clear nn
      clear hz hy
      go_wp2_with fail
      refine (holders w15 ow14 p1 [7] g1 U C1 T hT r).mono ?_
      rintro e w16 ⟨v7, ow16, hs, rfl, his3, hsl3, hz, nn, -⟩
      replace hT := hT.new_ nn
      replace hu := hu.new_ nn
      replace t := t.trans nn
      clear nn
      obtain rfl := IsH.same his3 his
      clear his3 hsl3 his
      obtain ⟨Ah, ch, rfl, -⟩ := hz.slice
      go_wp2_with fail
      go_loopg [9] hs.length (fun gn i wr => alR2 w ow p1 p2 g1 g2 (.slice Ah hs.length ch) U C1 C2 T hs gn i wr)
      case atStart => exact ⟨0, ow16, rfl, Nat.zero_le _, rfl, hT, hu, hz, t⟩
      case round =>
        clear hT hu hz t
        obtain ⟨m, OX, hgm, hm, rfl, hT, hu, hz, t⟩ := hrel
        have Hgm := Lib.hid hgm
        clear hgm
        by_cases hmt : m < hs.length
        · obtain ⟨x, hx⟩ : ∃ x, hs[m]? = some x := ⟨_, List.getElem?_eq_getElem hmt⟩
          obtain ⟨bh, offh, caph, hvh, -⟩ := hz.at (by omega)
          simp only [Value.slice.injEq, true_and] at hvh
          obtain ⟨rfl, rfl⟩ := hvh
          have j0 : (m : Int) < (hs.length : Int) := by omega
          have hll := locks_len T x.job
          have Hx := Lib.hid hx
          clear hx
          go_upto_region 10 with fail
          refine plain_regionN (fun W' : World => W'.cell? ⟨bh, offh + m * 2, none⟩ = some (.int .i64 x.job)) [] (by kernel_rfl) ?_
          have nn : New wr OX wr.drew OX := (New.refl _ _).drew
          replace hT := hT.new_ nn
          replace hu := hu.new_ nn
          replace hz := hz.new_ nn
          replace t := t.trans nn
          clear nn
          generalize wr.drew = w41 at *
          obtain ⟨x0, -⟩ := hold_c hz m x Hx.out
          have hS : (fun W' : World => W'.cell? ⟨bh, offh + m * 2, none⟩ = some (.int .i64 x.job)) w41 := x0
          refine anyX_takeNL 0 (v := ?_) rfl rfl (by as_aux_lemma => kernel_rfl) (by as_aux_lemma => kernel_rfl) (by as_aux_lemma => kernel_rfl) (by as_aux_lemma => kernel_rfl) (by as_aux_lemma => kernel_rfl) (fun _ _ _ h => h) rfl ?_ hS ?_
          rotate_left
          · intro W' hW'
            obtain s0 := hW'
            all_goals (go_simp; first | done | rfl)
          intro l' hl
          dsimp only [List.set_cons_succ, List.set_cons_zero] at hl
          subst hl
          refine anyX_takeNL 1 (v := ?_) rfl rfl (by as_aux_lemma => kernel_rfl) (by as_aux_lemma => kernel_rfl) (by as_aux_lemma => kernel_rfl) (by as_aux_lemma => kernel_rfl) (by as_aux_lemma => kernel_rfl) (fun _ _ _ h => h) rfl ?_ hS ?_
          rotate_left
          · intro W' hW'
            obtain s0 := hW'
            all_goals (go_simp; first | done | rfl)
          intro l' hl
          dsimp only [List.set_cons_succ, List.set_cons_zero] at hl
          subst hl
          refine anyX_takeNL 2 (v := ?_) rfl rfl (by as_aux_lemma => kernel_rfl) (by as_aux_lemma => kernel_rfl) (by as_aux_lemma => kernel_rfl) (by as_aux_lemma => kernel_rfl) (by as_aux_lemma => kernel_rfl) (fun _ _ _ h => h) rfl ?_ hS ?_
          rotate_left
          · intro W' hW'
            obtain s0 := hW'
            all_goals (go_simp; first | done | rfl)
          intro l' hl
          dsimp only [List.set_cons_succ, List.set_cons_zero] at hl
          subst hl
          refine anyX_takeNL 3 (v := ?_) rfl rfl (by as_aux_lemma => kernel_rfl) (by as_aux_lemma => kernel_rfl) (by as_aux_lemma => kernel_rfl) (by as_aux_lemma => kernel_rfl) (by as_aux_lemma => kernel_rfl) (fun _ _ _ h => h) rfl ?_ hS ?_
          rotate_left
          · intro W' hW'
            obtain s0 := hW'
            all_goals (go_simp; first | done | rfl)
          intro l' hl
          dsimp only [List.set_cons_succ, List.set_cons_zero] at hl
          subst hl
          refine anyX_takeNL 4 (v := ?_) rfl rfl (by as_aux_lemma => kernel_rfl) (by as_aux_lemma => kernel_rfl) (by as_aux_lemma => kernel_rfl) (by as_aux_lemma => kernel_rfl) (by as_aux_lemma => kernel_rfl) (fun _ _ _ h => h) rfl ?_ hS ?_
          rotate_left
          · intro W' hW'
            obtain s0 := hW'
            all_goals (go_simp; first | done | rfl)
          intro l' hl
          dsimp only [List.set_cons_succ, List.set_cons_zero] at hl
          subst hl
          refine anyX_takeNL 5 (v := ?_) rfl rfl (by as_aux_lemma => kernel_rfl) (by as_aux_lemma => kernel_rfl) (by as_aux_lemma => kernel_rfl) (by as_aux_lemma => kernel_rfl) (by as_aux_lemma => kernel_rfl) (fun _ _ _ h => h) rfl ?_ hS ?_
          rotate_left
          · intro W' hW'
            obtain s0 := hW'
            all_goals (go_simp; first | done | rfl)
          intro l' hl
          dsimp only [List.set_cons_succ, List.set_cons_zero] at hl
          subst hl
          refine anyX_takeNL 7 (v := ?_) rfl rfl (by as_aux_lemma => kernel_rfl) (by as_aux_lemma => kernel_rfl) (by as_aux_lemma => kernel_rfl) (by as_aux_lemma => kernel_rfl) (by as_aux_lemma => kernel_rfl) (fun _ _ _ h => h) rfl ?_ hS ?_
          rotate_left
          · intro W' hW'
            obtain s0 := hW'
            all_goals (go_simp; first | done | rfl)
          intro l' hl
          dsimp only [List.set_cons_succ, List.set_cons_zero] at hl
          subst hl
          refine anyX_takeNL 8 (v := ?_) rfl rfl (by as_aux_lemma => kernel_rfl) (by as_aux_lemma => kernel_rfl) (by as_aux_lemma => kernel_rfl) (by as_aux_lemma => kernel_rfl) (by as_aux_lemma => kernel_rfl) (fun _ _ _ h => h) rfl ?_ hS ?_
          rotate_left
          · intro W' hW'
            obtain s0 := hW'
            all_goals (go_simp; first | done | rfl)
          intro l' hl
          dsimp only [List.set_cons_succ, List.set_cons_zero] at hl
          subst hl
          refine anyX_takeNL 9 (v := ?_) rfl rfl (by as_aux_lemma => kernel_rfl) (by as_aux_lemma => kernel_rfl) (by as_aux_lemma => kernel_rfl) (by as_aux_lemma => kernel_rfl) (by as_aux_lemma => kernel_rfl) (fun _ _ _ h => h) rfl ?_ hS ?_
          rotate_left
          · intro W' hW'
            obtain s0 := hW'
            all_goals (go_simp; first | done | rfl)
          intro l' hl
          dsimp only [List.set_cons_succ, List.set_cons_zero] at hl
          subst hl
          refine anyX_takeNL 10 (v := ?_) rfl rfl (by as_aux_lemma => kernel_rfl) (by as_aux_lemma => kernel_rfl) (by as_aux_lemma => kernel_rfl) (by as_aux_lemma => kernel_rfl) (by as_aux_lemma => kernel_rfl) (fun _ _ _ h => h) rfl ?_ hS ?_
          rotate_left
          · intro W' hW'
            obtain s0 := hW'
            all_goals (go_simp; first | done | rfl)
          intro l' hl
          dsimp only [List.set_cons_succ, List.set_cons_zero] at hl
          subst hl
          refine anyX_takeNL 11 (v := ?_) rfl rfl (by as_aux_lemma => kernel_rfl) (by as_aux_lemma => kernel_rfl) (by as_aux_lemma => kernel_rfl) (by as_aux_lemma => kernel_rfl) (by as_aux_lemma => kernel_rfl) (fun _ _ _ h => h) rfl ?_ hS ?_
          rotate_left
          · intro W' hW'
            obtain s0 := hW'
            all_goals (go_simp; first | done | rfl)
          intro l' hl
          dsimp only [List.set_cons_succ, List.set_cons_zero] at hl
          subst hl
          refine anyX_takeNL 12 (v := ?_) rfl rfl (by as_aux_lemma => kernel_rfl) (by as_aux_lemma => kernel_rfl) (by as_aux_lemma => kernel_rfl) (by as_aux_lemma => kernel_rfl) (by as_aux_lemma => kernel_rfl) (fun _ _ _ h => h) rfl ?_ hS ?_
          rotate_left
          · intro W' hW'
            obtain s0 := hW'
            all_goals (go_simp; first | done | rfl)
          intro l' hl
          dsimp only [List.set_cons_succ, List.set_cons_zero] at hl
          subst hl
          refine anyX_one (i := 6) (by kernel_rfl) rfl rfl fun K' hK' => ?_
          unfold Oper.wp
          go_simp
          clear hS x0
          refine (locks w41 OX p1 g1 U C1 T [8] hT x.job).mono ?_
          rintro e w42 ⟨v8, ow42, rfl, hq, nn, -⟩
          replace hT := hT.new_ nn
          replace hu := hu.new_ nn
          replace hz := hz.new_ nn
          replace t := t.trans nn
          clear nn
          obtain ⟨x0, -⟩ := hold_c hz m x Hx.out
          have hS : (fun W' : World => W'.cell? ⟨bh, offh + m * 2, none⟩ = some (.int .i64 x.job)) w42 := x0
          refine hK' _ _ (fun _ => hS) ?_
          clear hK' K'
          refine anyX_one (i := 13) (by kernel_rfl) rfl rfl fun K' hK' => ?_
          unfold Oper.wp
          go_simp
          clear hS x0
          refine (locks w42 ow42 p2 g2 U C2 T [9] hu x.job).mono ?_
          rintro e w43 ⟨v9, ow43, rfl, hr9, nn, -⟩
          replace hT := hT.new_ nn
          replace hu := hu.new_ nn
          replace hz := hz.new_ nn
          replace hq := hq.new_ nn
          replace t := t.trans nn
          clear nn
          obtain ⟨x0, -⟩ := hold_c hz m x Hx.out
          have hS : (fun W' : World => W'.cell? ⟨bh, offh + m * 2, none⟩ = some (.int .i64 x.job)) w43 := x0
          refine hK' _ _ (fun _ => hS) ?_
          clear hK' K'
          refine anyX_one (i := 14) (by kernel_rfl) rfl rfl fun K' hK' => ?_
          unfold Oper.wp
          go_simp
          clear hS x0
          refine (ELk.same_yes w43 v8 v9 (locksOf T x.job) (by omega) hq.reads hr9.reads).mono ?_
          rintro e w44 ⟨rfl, kk, hw'⟩
          have nn : New w43 ow43 w44 ow43 := by rw [hw']; exact (New.refl _ _).drewN kk
          clear hw'
          replace hT := hT.new_ nn
          replace hu := hu.new_ nn
          replace hz := hz.new_ nn
          replace hq := hq.new_ nn
          replace hr9 := hr9.new_ nn
          replace t := t.trans nn
          clear nn
          obtain ⟨x0, -⟩ := hold_c hz m x Hx.out
          have hS : (fun W' : World => W'.cell? ⟨bh, offh + m * 2, none⟩ = some (.int .i64 x.job)) w44 := x0
          refine hK' _ _ (fun _ => hS) ?_
          clear hK' K'
          refine anyX_takeNL 15 (v := ?_) rfl rfl (by as_aux_lemma => kernel_rfl) (by as_aux_lemma => kernel_rfl) (by as_aux_lemma => kernel_rfl) (by as_aux_lemma => kernel_rfl) (by as_aux_lemma => kernel_rfl) (fun _ _ _ h => h) rfl ?_ hS ?_
          rotate_left
          · intro W' hW'
            obtain s0 := hW'
            all_goals (go_simp; first | done | rfl)
          intro l' hl
          dsimp only [List.set_cons_succ, List.set_cons_zero] at hl
          subst hl
          refine anyX_done (by kernel_rfl) ?_ _
          refine NoPanic.normal ?_
          clear hS x0
          go_wp2_with fail
          go_roundg (hs.length - (m + 1))
          case measure => have := Hgm.out; omega
          case rel => exact ⟨m + 1, ow43, rfl, by omega, by go_num, hT, hu, hz, t⟩
        · obtain rfl : m = hs.length := by omega
          clear hmt Hgm
          go_wp2_with fail
          go_roundg (U.length - (r + 1))
          case measure => have := Hgr.out; omega
          case rel => exact ⟨r + 1, OX, rfl, by omega, by go_num, hT, hu, t⟩
    · obtain rfl : r = U.length := by omega
      clear hrt Hgr
      go_wp2_with fail
      go_ret
      exact ⟨rfl, t.below⟩

end UN
end Go.Proofs.Ytefagdbdimpcdaa
