/-
  LAW 1: ShelfRings: the walk.
-/
import Derived.Test.YtppikbdeopagkaaSR
import Derived.Test.YtppikbdeopagkaaEIntP
import Derived.Test.YtppikbdeopagkaaEIntS
import Derived.Test.YtppikbdeopagkaaCalc
import Derived.Deep.DeepCutAuto
set_option linter.unusedVariables false
set_option linter.unusedSimpArgs false
namespace Go.Proofs.Ytppikbdeopagkaa
open Go Go.RowKit
namespace SH

/-- What a ring for n holds behind k Puts. -/
def ringXs (ys : List Int) (n k : Nat) : List Int := (ys.take k).drop (k - n)
theorem ringXs_length (ys : List Int) (n k : Nat) (hk : k ≤ ys.length) : (ringXs ys n k).length = min k n := by
  rw [ringXs, List.length_drop, List.length_take]; omega
theorem ringXs_room (ys : List Int) (n k : Nat) (y : Int) (h : k < n) (hy : ys[k]? = some y) : ringXs ys n (k + 1) = ringXs ys n k ++ [y] := by
  rw [ringXs, ringXs, show k + 1 - n = 0 by omega, show k - n = 0 by omega, List.drop_zero, List.drop_zero, List.take_add_one, hy]; rfl
theorem ringXs_full (ys : List Int) (n k : Nat) (y : Int) (hn : 1 ≤ n) (h : n ≤ k) (hy : ys[k]? = some y) : ∃ z zs, ringXs ys n k = z :: zs ∧ ringXs ys n (k + 1) = zs ++ [y] := by
  have hk : k < ys.length := (List.getElem?_eq_some_iff.1 hy).1
  have hl := ringXs_length ys n k (by omega)
  obtain ⟨z, zs, hz⟩ : ∃ z zs, ringXs ys n k = z :: zs := List.exists_cons_of_length_pos (by omega)
  refine ⟨z, zs, hz, ?_⟩
  have : zs = (ringXs ys n k).drop 1 := by rw [hz]; rfl
  rw [this, ringXs, ringXs, List.drop_drop, List.take_add_one, hy, show k - n + 1 = k + 1 - n by omega]
  rw [List.drop_append_of_le_length (by rw [List.length_take]; omega)]; rfl

theorem ringQ (w : World) (ow : Ow) (p : List Nat) (g n k : Nat) (ys : List Int) (y : Int) (h : EInt.Rg w ow p g n (k - n) (ringXs ys n k)) (h1 : 1 ≤ n) (h2 : n ≤ 4096) (hk : k ≤ 6000) (hy : ys[k]? = some y) :
    Calls Try.prog 29 #[.pointer (some ⟨g, 0, none⟩), .int .i64 y] w (EInt.RgL w ow p g n (k + 1 - n) (ringXs ys n (k + 1))) := by
  have hlt : k < ys.length := (List.getElem?_eq_some_iff.1 hy).1
  have hl := ringXs_length ys n k (by omega)
  by_cases hn : k < n
  · rw [ringXs_room ys n k y hn hy, show k + 1 - n = 0 by omega]
    rw [show k - n = 0 by omega] at h
    exact EInt.r_put_room w ow p g n 0 _ y h h2 (by omega)
  · obtain ⟨z, zs, e1, e2⟩ := ringXs_full ys n k y h1 (by omega) hy
    rw [e2, show k + 1 - n = k - n + 1 by omega]
    rw [e1] at h hl
    exact EInt.r_put_full w ow p g n (k - n) z zs y h h2 (by simp only [List.length_cons] at hl; omega) (by omega)

/-- What the loop of Puts keeps. -/
def ringRel (w : World) (g n : Nat) (ys : List Int) (gn : Nat) (i : Value) (wr : World) : Prop :=
  ∃ (k : Nat) (OW : Ow), gn = ys.length - k ∧ k ≤ ys.length ∧ i = .int .i64 (k : Int) ∧ EInt.Rg wr OW [1, 0] g n (k - n) (ringXs ys n k) ∧ Turn [1] w ow0 wr OW

set_option maxRecDepth 100000 in
set_option maxHeartbeats 16000000 in
theorem rings (w : World) (n : Int) (v : Value) (xs : List Int) (h : EInt.In w v xs) : Calls Try.prog 4 #[.int .i64 n, v] w fun e w' => e = .returned (.bool true) ∧ Below w.heap.size w w' := by
  obtain ⟨A, cap, rfl, hcap, hmax, hcov⟩ := h
  have Hcov := Lib.hid hcov
  clear hcov
  go_enter Try.func4, Try.ntmps4
  go_upto_if 11 with fail
  go_cut [1] (fun s0 wx => wx = w ∧ s0 = .slice A (xs.take 6000).length cap)
  case first =>
    by_cases h300 : (6000 : Int) < (xs.length : Int)
    · go_wp2_with fail
      go_meet
      exact ⟨rfl, by rw [List.length_take, Nat.min_eq_left (by omega)]⟩
    · go_wp2_with fail
      go_meet
      exact ⟨rfl, by rw [List.take_of_length_le (by omega)]⟩
  case rest =>
    obtain ⟨rfl, rfl⟩ := hcut
    have hlen : (xs.take 6000).length ≤ 6000 := by rw [List.length_take]; omega
    have hcov : EInt.Cov wc A (EInt.css (xs.take 6000)) := by rw [EInt.css_take]; exact Hcov.out.take _
    have hyc : (xs.take 6000).length ≤ cap := by rw [List.length_take]; omega
    generalize hys : xs.take 6000 = ys at *
    have Hc := Lib.hid hcov
    clear hys Hcov hcap hmax hcov xs
    obtain ⟨w, rfl⟩ : ∃ w : World, w = wc := ⟨_, rfl⟩
    by_cases hn : n < 1 ∨ 4096 < n
    · go_wp2_with fail
      refine (EInt.r_new_out w n hn).mono ?_
      rintro e w1 ⟨rfl, k1, rfl⟩
      have bd := bdN (Below.refl w.heap.size w) k1
      generalize w.drewN k1 = w1 at *
      by_cases h1 : n < 1
      · go_wp2_with fail
        refine (runs w1).mono ?_
        rintro e w2 ⟨rfl, b2⟩
        have fin := bd.trans (b2.mono bd.size)
        go_wp2
        go_ret
        exact ⟨rfl, fin⟩
      · have h2 : 4096 < n := by omega
        go_wp2_with fail
        refine (runs w1).mono ?_
        rintro e w2 ⟨rfl, b2⟩
        have fin := bd.trans (b2.mono bd.size)
        go_wp2
        go_ret
        exact ⟨rfl, fin⟩
    · obtain ⟨m, rfl⟩ : ∃ m : Nat, n = m := ⟨n.toNat, by omega⟩
      have n1 : ¬ (m : Int) < 1 := by omega
      have n2 : ¬ 4096 < (m : Int) := by omega
      have m1 : 1 ≤ m := by omega
      have m2 : m ≤ 4096 := by omega
      clear hn
      go_wp2_with fail
      refine (EInt.r_new w ow0 [1, 0] m m1 m2).mono ?_
      rintro e w1 ⟨g, ow1, rfl, h1, nn, -⟩
      have t1 := nn.turn [1]
      clear nn
      go_wp2_with fail
      go_loopg [7] ys.length (fun gn i wr => ringRel w g m ys gn i wr)
      case atStart => exact ⟨0, ow1, rfl, Nat.zero_le _, rfl, by simpa [ringXs] using h1, t1⟩
      case round =>
        clear h1 t1
        obtain ⟨k, OW, hgk, hk, rfl, hR, t⟩ := hrel
        have Hgk := Lib.hid hgk
        have bl := (t.new_ ow0 [1]).below
        clear hgk
        by_cases hlt : k < ys.length
        · obtain ⟨y, hy⟩ : ∃ y, ys[k]? = some y := ⟨_, List.getElem?_eq_getElem hlt⟩
          obtain ⟨b, off, rfl, c0⟩ := (Hc.out.new_ bl).at k y hy
          have i0 : (k : Int) < (ys.length : Int) := by omega
          have hput := ringQ wr OW [1, 0] g m k ys y hR m1 m2 (by omega) hy
          have Hput := Lib.hid hput
          have Hy := Lib.hid hy
          clear hput hy hR
          go_wp2_with fail
          refine Hput.out.mono ?_
          rintro e w2 ⟨OW2, rfl, hR2, t2⟩
          have t2 := t.trans (t2.up (by simp))
          clear Hput t
          by_cases hcont : ¬ (k : Int) % 500 = 0 ∧ (k : Int) + 1 < (ys.length : Int)
          · obtain ⟨h5, h6⟩ := hcont
            go_wp2_with fail
            go_roundg (ys.length - (k + 1))
            case measure => have := Hgk.out; omega
            case rel => exact ⟨k + 1, OW2, rfl, by omega, by go_num, hR2, t2⟩
          · have hc2 : (k : Int) % 500 = 0 ∨ ¬ (k : Int) % 500 = 0 ∧ ¬ (k : Int) + 1 < (ys.length : Int) := by omega
            clear hcont
            obtain ⟨F, hFe⟩ : ∃ F, k + 1 - m = F := ⟨_, rfl⟩
            have hL := ringXs_length ys m (k + 1) (by omega)
            have hRR := hR2
            rw [hFe] at hRR
            obtain ⟨L, hLe⟩ : ∃ L, (ringXs ys m (k + 1)).length = L := ⟨_, rfl⟩
            have hLF : k + 1 - F = L := by omega
            have hcF : ¬ cap = F := by omega
            have hw1 : IntKind.i64.wrap ((k : Int) + 1) = (k : Int) + 1 := by rw [IntKind.wrap_i64]; omega
            have hw2 : IntKind.i64.wrap ((k : Int) + 1 - (F : Int)) = (L : Int) := by rw [IntKind.wrap_i64]; omega
            have hw3 : (0 : Int) ≤ (k : Int) + 1 := by omega
            have hw4 : ((k : Int) + 1).toNat = k + 1 := by omega
            have hw5 : (F : Int) ≤ (k : Int) + 1 := by omega
            have hw6 : (k : Int) + 1 ≤ (cap : Int) := by omega
            have hLb : L ≤ 6001 := by omega
            have HLF := Lib.hid hLF
            have HLe := Lib.hid hLe
            have hl1 := fun W (hW : Below w2.heap.size w2 W) => EInt.r_dropped W OW2 [1, 0] g m F _ (hRR.new_ (hW.nw OW2))
            have hl2 := fun W (hW : Below w2.heap.size w2 W) => EInt.r_len W OW2 [1, 0] g m F _ (hRR.new_ (hW.nw OW2)) (by rw [hLe]; omega)
            rw [hLe] at hl2
            have hl3 := fun W (hW : Below w2.heap.size w2 W) => EInt.r_list W OW2 [1, 0] [1, 5] g m F _ (hRR.new_ (hW.nw OW2)) (by rw [hLe]; omega)
            have Hl1 := Lib.hid hl1
            have Hl2 := Lib.hid hl2
            have Hl3 := Lib.hid hl3
            have bw2 := (t2.new_ ow0 [1]).below
            have HbR : ∀ W, Below w2.heap.size w2 W → Reads W (.slice (some ⟨b, off + F, none⟩) (k + 1 - F) (cap - F)) (k + 1 - F) (EInt.css (ringXs ys m (k + 1))) := fun W hW => by
              obtain ⟨b', off', hb', hcell⟩ := (Hc.out.new_ (bw2.trans (hW.mono bw2.size))) (by rw [EInt.css_length]; omega)
              simp only [Option.some.injEq, Addr.mk.injEq, and_true] at hb'
              obtain ⟨rfl, rfl⟩ := hb'
              refine .inr ⟨b, off + F, cap - F, rfl, by omega, fun j u hj => ?_⟩
              rw [ringXs, hFe, EInt.css_drop, EInt.css_take, Nat.mul_one, Nat.mul_one, List.getElem?_drop, List.getElem?_take] at hj
              split at hj
              · rw [Nat.add_assoc]; exact hcell _ u hj
              · cases hj
            have HBR := Lib.hid HbR
            clear hLF hLe hL hl1 hl2 hl3 hRR HbR hyc
            rcases hc2 with h5 | ⟨h5, h6⟩
            all_goals
              go_upto_if 67 with fail
              go_cut [8] (fun s8 wx => w2 = wx ∧ s8 = .int .i64 (F : Int))
              case first =>
                rcases Nat.lt_or_ge (k + 1) m with hf | hf
                · have hF0 : F = 0 := by omega
                  have hf1 : (k : Int) + 1 - (m : Int) < 0 := by omega
                  have HF0 := Lib.hid hF0
                  clear hF0
                  go_wp2_with fail
                  go_meet
                  exact ⟨rfl, by rw [HF0.out]; rfl⟩
                · have hF : (k : Int) + 1 - (m : Int) = (F : Int) := by omega
                  have hf1 : ¬ (F : Int) < 0 := by omega
                  go_wp2_with fail
                  go_meet
                  exact ⟨rfl, rfl⟩
              case rest =>
                obtain ⟨rfl, rfl⟩ := hcut
                go_wp2_with fail
                refine plain_regionN (fun _ => True) [] (by kernel_rfl) ?_
                have hS : (fun _ : World => True) w2.drew := trivial
                have Bw : Below w2.heap.size w2 w2.drew := (Below.refl _ _).drew
                refine anyX_takeN 0 (v := ?_) rfl rfl (by kernel_rfl) (by kernel_rfl) (by kernel_rfl) (by kernel_rfl) (by kernel_rfl) (fun _ _ _ h => h) rfl ?_ hS ?_
                rotate_left
                · intro W' hW'
                  obtain hW' := hW'
                  all_goals (go_simp; first | done | rfl)
                intro tm' htm
                simp only [List.setIfInBounds_toArray, List.set_cons_succ, List.set_cons_zero] at htm
                subst htm
                refine anyX_takeN 2 (v := ?_) rfl rfl (by kernel_rfl) (by kernel_rfl) (by kernel_rfl) (by kernel_rfl) (by kernel_rfl) (fun _ _ _ h => h) rfl ?_ hS ?_
                rotate_left
                · intro W' hW'
                  obtain hW' := hW'
                  all_goals (go_simp; first | done | rfl)
                intro tm' htm
                simp only [List.setIfInBounds_toArray, List.set_cons_succ, List.set_cons_zero] at htm
                subst htm
                refine anyX_one (i := 1) (by kernel_rfl) rfl rfl fun K' hK' => ?_
                unfold Oper.wp
                go_simp
                refine (Hl1.out _ Bw).mono ?_
                rintro e5 w5 ⟨rfl, k5, rfl⟩
                have Bw := bdN Bw k5
                refine hK' _ _ (fun _ => trivial) ?_
                clear hK' K'
                generalize w2.drew.drewN k5 = wA at *
                refine anyX_takeN 3 (v := ?_) rfl rfl (by kernel_rfl) (by kernel_rfl) (by kernel_rfl) (by kernel_rfl) (by kernel_rfl) (fun _ _ _ h => h) rfl ?_ hS ?_
                rotate_left
                · intro W' hW'
                  obtain hW' := hW'
                  all_goals (go_simp; first | done | rfl)
                intro tm' htm
                simp only [List.setIfInBounds_toArray, List.set_cons_succ, List.set_cons_zero] at htm
                subst htm
                refine anyX_takeN 4 (v := ?_) rfl rfl (by kernel_rfl) (by kernel_rfl) (by kernel_rfl) (by kernel_rfl) (by kernel_rfl) (fun _ _ _ h => h) rfl ?_ hS ?_
                rotate_left
                · intro W' hW'
                  obtain hW' := hW'
                  all_goals (go_simp; first | done | rfl)
                intro tm' htm
                simp only [List.setIfInBounds_toArray, List.set_cons_succ, List.set_cons_zero] at htm
                subst htm
                refine anyX_takeW 5 (v := ?_) rfl rfl (by kernel_rfl) (by kernel_rfl) (by kernel_rfl) (by kernel_rfl) (by kernel_rfl) (fun _ _ _ h => h) (by rfl) ?_ hS ?_
                rotate_left
                · intro W' hW'
                  obtain hW' := hW'
                  all_goals (go_simp; first | done | rfl)
                intro tm' htm
                simp only [List.setIfInBounds_toArray, List.set_cons_succ, List.set_cons_zero] at htm
                subst htm
                refine anyX_takeW 7 (v := ?_) rfl rfl (by kernel_rfl) (by kernel_rfl) (by kernel_rfl) (by kernel_rfl) (by kernel_rfl) (fun _ _ _ h => h) (by rfl) ?_ hS ?_
                rotate_left
                · intro W' hW'
                  obtain hW' := hW'
                  all_goals (go_simp; first | done | rfl)
                intro tm' htm
                simp only [List.setIfInBounds_toArray, List.set_cons_succ, List.set_cons_zero] at htm
                subst htm
                refine anyX_takeW 8 (v := ?_) rfl rfl (by kernel_rfl) (by kernel_rfl) (by kernel_rfl) (by kernel_rfl) (by kernel_rfl) (fun _ _ _ h => h) (by rfl) ?_ hS ?_
                rotate_left
                · intro W' hW'
                  obtain hW' := hW'
                  all_goals (go_simp; first | done | rfl)
                intro tm' htm
                simp only [List.setIfInBounds_toArray, List.set_cons_succ, List.set_cons_zero] at htm
                subst htm
                refine anyX_takeW 9 (v := ?_) rfl rfl (by kernel_rfl) (by kernel_rfl) (by kernel_rfl) (by kernel_rfl) (by kernel_rfl) (fun _ _ _ h => h) (by rfl) ?_ hS ?_
                rotate_left
                · intro W' hW'
                  obtain hW' := hW'
                  all_goals (go_simp; first | done | rfl)
                intro tm' htm
                simp only [List.setIfInBounds_toArray, List.set_cons_succ, List.set_cons_zero] at htm
                subst htm
                refine anyX_takeW 10 (v := ?_) rfl rfl (by kernel_rfl) (by kernel_rfl) (by kernel_rfl) (by kernel_rfl) (by kernel_rfl) (fun _ _ _ h => h) (by rfl) ?_ hS ?_
                rotate_left
                · intro W' hW'
                  obtain hW' := hW'
                  all_goals (go_simp; first | done | rfl)
                intro tm' htm
                simp only [List.setIfInBounds_toArray, List.set_cons_succ, List.set_cons_zero] at htm
                subst htm
                refine anyX_oneW (i := 6) (by kernel_rfl) rfl (by rfl) fun K' hK' => ?_
                unfold Oper.wp
                go_simp
                refine (Hl2.out _ Bw).mono ?_
                rintro e6 w6 ⟨rfl, k6, rfl⟩
                have Bw := bdN Bw k6
                refine hK' _ _ (fun _ => trivial) ?_
                clear hK' K'
                generalize wA.drewN k6 = wB at *
                refine anyX_takeW 11 (v := ?_) rfl rfl (by kernel_rfl) (by kernel_rfl) (by kernel_rfl) (by kernel_rfl) (by kernel_rfl) (fun _ _ _ h => h) (by rfl) ?_ hS ?_
                rotate_left
                · intro W' hW'
                  obtain hW' := hW'
                  all_goals (go_simp; first | done | rfl)
                intro tm' htm
                simp only [List.setIfInBounds_toArray, List.set_cons_succ, List.set_cons_zero] at htm
                subst htm
                refine anyX_takeN 12 (v := ?_) rfl rfl (by kernel_rfl) (by kernel_rfl) (by kernel_rfl) (by kernel_rfl) (by kernel_rfl) (fun _ _ _ h => h) rfl ?_ hS ?_
                rotate_left
                · intro W' hW'
                  obtain hW' := hW'
                  all_goals (go_simp; first | done | rfl)
                intro tm' htm
                simp only [List.setIfInBounds_toArray, List.set_cons_succ, List.set_cons_zero] at htm
                subst htm
                refine anyX_takeN 13 (v := ?_) rfl rfl (by kernel_rfl) (by kernel_rfl) (by kernel_rfl) (by kernel_rfl) (by kernel_rfl) (fun _ _ _ h => h) rfl ?_ hS ?_
                rotate_left
                · intro W' hW'
                  obtain hW' := hW'
                  all_goals (go_simp; first | done | rfl)
                intro tm' htm
                simp only [List.setIfInBounds_toArray, List.set_cons_succ, List.set_cons_zero] at htm
                subst htm
                refine anyX_takeW 14 (v := ?_) rfl rfl (by kernel_rfl) (by kernel_rfl) (by kernel_rfl) (by kernel_rfl) (by kernel_rfl) (fun _ _ _ h => h) (by rfl) ?_ hS ?_
                rotate_left
                · intro W' hW'
                  obtain hW' := hW'
                  all_goals (go_simp; first | done | rfl)
                intro tm' htm
                simp only [List.setIfInBounds_toArray, List.set_cons_succ, List.set_cons_zero] at htm
                subst htm
                refine anyX_takeW 16 (v := ?_) rfl rfl (by kernel_rfl) (by kernel_rfl) (by kernel_rfl) (by kernel_rfl) (by kernel_rfl) (fun _ _ _ h => h) (by rfl) ?_ hS ?_
                rotate_left
                · intro W' hW'
                  obtain hW' := hW'
                  all_goals (go_simp; first | done | rfl)
                intro tm' htm
                simp only [List.setIfInBounds_toArray, List.set_cons_succ, List.set_cons_zero] at htm
                subst htm
                refine anyX_takeW 17 (v := ?_) rfl rfl (by kernel_rfl) (by kernel_rfl) (by kernel_rfl) (by kernel_rfl) (by kernel_rfl) (fun _ _ _ h => h) (by rfl) ?_ hS ?_
                rotate_left
                · intro W' hW'
                  obtain hW' := hW'
                  all_goals (go_simp; first | done | rfl)
                intro tm' htm
                simp only [List.setIfInBounds_toArray, List.set_cons_succ, List.set_cons_zero] at htm
                subst htm
                refine anyX_takeW 18 (v := ?_) rfl rfl (by kernel_rfl) (by kernel_rfl) (by kernel_rfl) (by kernel_rfl) (by kernel_rfl) (fun _ _ _ h => h) (by rfl) ?_ hS ?_
                rotate_left
                · intro W' hW'
                  obtain hW' := hW'
                  all_goals (go_simp; first | done | rfl)
                intro tm' htm
                simp only [List.setIfInBounds_toArray, List.set_cons_succ, List.set_cons_zero] at htm
                subst htm
                refine anyX_takeW 19 (v := ?_) rfl rfl (by kernel_rfl) (by kernel_rfl) (by kernel_rfl) (by kernel_rfl) (by kernel_rfl) (fun _ _ _ h => h) (by rfl) ?_ hS ?_
                rotate_left
                · intro W' hW'
                  obtain hW' := hW'
                  all_goals (go_simp; first | done | rfl)
                intro tm' htm
                simp only [List.setIfInBounds_toArray, List.set_cons_succ, List.set_cons_zero] at htm
                subst htm
                refine anyX_takeW 20 (v := ?_) rfl rfl (by kernel_rfl) (by kernel_rfl) (by kernel_rfl) (by kernel_rfl) (by kernel_rfl) (fun _ _ _ h => h) (by rfl) ?_ hS ?_
                rotate_left
                · intro W' hW'
                  obtain hW' := hW'
                  all_goals (go_simp; first | done | rfl)
                intro tm' htm
                simp only [List.setIfInBounds_toArray, List.set_cons_succ, List.set_cons_zero] at htm
                subst htm
                refine anyX_oneW (i := 15) (by kernel_rfl) rfl (by rfl) fun K' hK' => ?_
                unfold Oper.wp
                go_simp
                refine (Hl3.out _ Bw).mono ?_
                rintro e7 w7 ⟨v7, OW7, rfl, r7, n7, -⟩
                have Bw := Bw.trans (n7.below.mono Bw.size)
                refine hK' _ _ (fun _ => trivial) ?_
                clear hK' K'
                have hs := EInt.same_yes w7 v7 (.slice (some ⟨b, off + F, none⟩) (k + 1 - F) (cap - F)) (ringXs ys m (k + 1)) (by rw [HLe.out]; omega) r7.reads (by have := HBR.out w7 Bw; rw [HLF.out, ← HLe.out] at this ⊢; exact this)
                refine anyX_oneW (i := 21) (by kernel_rfl) rfl (by rfl) fun K' hK' => ?_
                unfold Oper.wp
                go_simp
                refine hs.mono ?_
                rintro e8 w8 ⟨rfl, k8, rfl⟩
                have Bw := bdN Bw k8
                refine hK' _ _ (fun _ => trivial) ?_
                clear hK' K'
                generalize w7.drewN k8 = wD at *
                refine anyX_takeW 22 (v := ?_) rfl rfl (by kernel_rfl) (by kernel_rfl) (by kernel_rfl) (by kernel_rfl) (by kernel_rfl) (fun _ _ _ h => h) (by rfl) ?_ hS ?_
                rotate_left
                · intro W' hW'
                  obtain hW' := hW'
                  all_goals (go_simp; first | done | rfl)
                intro tm' htm
                simp only [List.setIfInBounds_toArray, List.set_cons_succ, List.set_cons_zero] at htm
                subst htm
                refine anyX_takeN 23 (v := ?_) rfl rfl (by kernel_rfl) (by kernel_rfl) (by kernel_rfl) (by kernel_rfl) (by kernel_rfl) (fun _ _ _ h => h) rfl ?_ hS ?_
                rotate_left
                · intro W' hW'
                  obtain hW' := hW'
                  all_goals (go_simp; first | done | rfl)
                intro tm' htm
                simp only [List.setIfInBounds_toArray, List.set_cons_succ, List.set_cons_zero] at htm
                subst htm
                refine anyX_done (by kernel_rfl) ?_ _
                refine NoPanic.normal ?_
                clear hS hs
                have fR := hR2.new_ (Bw.nw OW2)
                have fT := t2.trans ((Bw.nw OW2).turn _)
                go_wp2_with fail
                go_roundg (ys.length - (k + 1))
                case measure => have := Hgk.out; omega
                case rel => exact ⟨k + 1, OW2, rfl, by omega, by go_num, fR, fT⟩
        · obtain rfl : k = ys.length := by omega
          have hL := ringXs_length ys m ys.length (Nat.le_refl _)
          obtain ⟨L, hLe⟩ : ∃ L, (ringXs ys m ys.length).length = L := ⟨_, rfl⟩
          obtain ⟨D, hD⟩ : ∃ D, ys.length - m = D := ⟨_, rfl⟩
          rw [hD] at hR
          have hLb : L ≤ 6000 := by omega
          have hDb : D ≤ 6000 := by omega
          have hs : ((L : Int) + (D : Int) == (ys.length : Int)) = true := by simp; omega
          have hl2 := EInt.r_len wr OW [1, 0] g m D _ hR (by rw [hLe]; omega)
          rw [hLe] at hl2
          have hl1 := fun W (hW : Below wr.heap.size wr W) => EInt.r_dropped W OW [1, 0] g m D _ (hR.new_ (hW.nw OW))
          have Hl2 := Lib.hid hl2
          have Hl1 := Lib.hid hl1
          clear hL hLe hD hl1 hl2 hR
          go_wp2_with fail
          refine Hl2.out.mono ?_
          rintro e w3 ⟨rfl, k3, rfl⟩
          have B3 := bdN (Below.refl wr.heap.size wr) k3
          generalize wr.drewN k3 = w3 at *
          go_wp2_with fail
          refine (Hl1.out _ B3).mono ?_
          rintro e w4 ⟨rfl, k4, rfl⟩
          have B4 := bdN B3 k4
          generalize w3.drewN k4 = w4 at *
          have fin := bl.trans (B4.mono bl.size)
          go_wp2_with fail
          refine (runs w4).mono ?_
          rintro e w5 ⟨rfl, b5⟩
          have fin := fin.trans (b5.mono fin.size)
          go_wp2
          go_ret
          exact ⟨rfl, fin⟩

end SH
end Go.Proofs.Ytppikbdeopagkaa
