/-
  LAW 1: ShelfSorted: the walk.
-/
import Derived.Test.YtppikbdeopagkaaSR
import Derived.Test.YtppikbdeopagkaaEIntP
import Derived.Test.YtppikbdeopagkaaTIIP
import Derived.Test.YtppikbdeopagkaaCalc
import Derived.Deep.DeepCutAuto
set_option linter.unusedVariables false
set_option linter.unusedSimpArgs false
namespace Go.Proofs.Ytppikbdeopagkaa
open Go Go.RowKit
namespace SH
open TII

theorem posN_at (rows : List R) (h : Rise rows) (t : Nat) (r : R) (ht : rows[t]? = some r) : posN r.1 rows = t := by
  obtain ⟨i1, i2, i3⟩ := posN_pos r.1 rows h
  have h1 : ¬ t < posN r.1 rows := fun hlt => by have := i2 t r ht hlt; omega
  have h2 : ¬ posN r.1 rows < t := fun hlt => by
    have htl := (List.getElem?_eq_some_iff.1 ht).1
    have hp : rows[posN r.1 rows]? = some rows[posN r.1 rows] := List.getElem?_eq_getElem (by omega)
    have := i3 _ _ hp (Nat.le_refl _)
    have h4 := List.pairwise_iff_getElem.1 h _ t (by omega) htl hlt
    have h5 : rows[t] = r := (List.getElem?_eq_some_iff.1 ht).2
    rw [h5] at h4
    omega
  omega
theorem posN_le (rows : List R) (h : Rise rows) (k : Int) : posN k rows ≤ rows.length := (posN_pos k rows h).1

/-- What the loop of Sets keeps. -/
def sortRel (w : World) (g : Nat) (ys : List Int) (fresh i : Value) (wr : World) : Prop :=
  ∃ (k : Nat) (OW : Ow) (rows : List R), k ≤ ys.length ∧ i = .int .i64 (k : Int) ∧ fresh = .int .i64 (rows.length : Int) ∧ TbP wr OW [1, 0] g 0 rows ∧ Rise rows ∧ rows.length ≤ k ∧ (∀ j, j < k → ∀ x, ys[j]? = some x → has rows x = true) ∧ Turn [1] w ow0 wr OW
/-- What the looks keep. -/
def lookS (W : World) (n : Nat) (i : Value) (wr : World) : Prop := ∃ m : Nat, m ≤ n ∧ i = .int .i64 (m : Int) ∧ Below W.heap.size W wr

set_option maxRecDepth 100000 in
set_option maxHeartbeats 8000000 in
theorem sorted (w : World) (v : Value) (xs : List Int) (h : EInt.In w v xs) : Calls Try.prog 5 #[v] w fun e w' => e = .returned (.bool true) ∧ Below w.heap.size w w' := by
  obtain ⟨A, cap, rfl, hcap, hmax, hcov⟩ := h
  have Hcov := Lib.hid hcov
  clear hcov
  go_enter Try.func5, Try.ntmps5
  go_upto_if 12 with fail
  go_cut [0] (fun s0 wx => wx = w ∧ s0 = .slice A (xs.take 300).length cap)
  case first =>
    by_cases h300 : (300 : Int) < (xs.length : Int)
    · go_wp2_with fail
      go_meet
      exact ⟨rfl, by rw [List.length_take, Nat.min_eq_left (by omega)]⟩
    · go_wp2_with fail
      go_meet
      exact ⟨rfl, by rw [List.take_of_length_le (by omega)]⟩
  case rest =>
    obtain ⟨rfl, rfl⟩ := hcut
    have hlen : (xs.take 300).length ≤ 300 := by rw [List.length_take]; omega
    have hcov : EInt.Cov wc A (EInt.css (xs.take 300)) := by rw [EInt.css_take]; exact Hcov.out.take _
    generalize hys : xs.take 300 = ys at *
    have Hc := Lib.hid hcov
    clear hys Hcov hcap hmax hcov xs
    obtain ⟨w, rfl⟩ : ∃ w : World, w = wc := ⟨_, rfl⟩
    go_wp2_with fail
    have h1 : TbP (w.alloc (Obj.cells #[.slice none 0 0] 49)) (ow0.set w.heap.size [1, 0, 0]) [1, 0] w.heap.size 0 [] := TbP.nil (Cells.new w ow0 [1, 0, 0] [.slice none 0 0] _)
    have t1 := (((New.refl w ow0).alloc (Obj.cells #[.slice none 0 0] 49) [1, 0, 0]).turn [1])
    generalize hG : w.heap.size = g at *
    generalize hO : ow0.set g [1, 0, 0] = ow1 at *
    generalize hW : w.alloc (Obj.cells #[.slice none 0 0] 49) = w1 at *
    clear hO hW
    go_loopw [4, 5] (fun f i wr => sortRel w g ys f i wr) (fun _ i _ => ys.length - (intOf i).toNat)
    case atStart => exact ⟨0, ow1, [], Nat.zero_le _, rfl, rfl, h1, List.Pairwise.nil, Nat.le_refl _, fun j hj => by omega, t1⟩
    case round =>
      clear h1 t1
      obtain ⟨k, OW, rows, hk, rfl, rfl, ht, hR, hrk, hall, t⟩ := hrel
      have bl := (t.new_ ow0 [1]).below
      have Hall := Lib.hid hall
      clear hall
      by_cases hlt : k < ys.length
      · obtain ⟨x, hx⟩ : ∃ x, ys[k]? = some x := ⟨_, List.getElem?_eq_getElem hlt⟩
        obtain ⟨b, off, rfl, c0⟩ := (Hc.out.new_ bl).at k x hx
        have i0 : (k : Int) < (ys.length : Int) := by omega
        have hset := setQ wr OW [1, 0] g 0 rows x k ht hR (by omega)
        have hl := setT_length rows hR x k
        have hR' := setT_rise rows hR x k
        have hall' : ∀ j, j < k + 1 → ∀ y, ys[j]? = some y → has (setT rows x k) y = true := fun j hj y hy => by
          rw [setT_has rows hR]
          by_cases e : j = k
          · subst e
            obtain rfl : x = y := by rw [hx] at hy; exact Option.some.inj hy
            simp
          · rw [Hall.out j (by omega) y hy]; simp
        have Hset := Lib.hid hset
        have Hl := Lib.hid hl
        have Hall' := Lib.hid hall'
        clear hset hl hall' hx Hall ht
        by_cases hf : has rows x = true
        · rw [hf] at Hset
          rw [if_pos hf] at Hl
          have Hf := Lib.hid hf
          clear hf
          go_wp2_with fail
          refine Hset.out.mono ?_
          rintro e w2 ⟨OW2, rfl, ht2, t2⟩
          have t2 := t.trans (t2.up (by simp))
          go_wp2
          exact ⟨⟨k + 1, OW2, setT rows x k, by omega, rfl, by rw [Hl.out]; rfl, ht2, hR', by rw [Hl.out]; omega, Hall'.out, t2⟩, by simp only [intOf]; omega⟩
        · rw [Bool.eq_false_iff.2 hf] at Hset
          rw [if_neg hf] at Hl
          have Hf := Lib.hid hf
          clear hf
          go_wp2_with fail
          refine Hset.out.mono ?_
          rintro e w2 ⟨OW2, rfl, ht2, t2⟩
          have t2 := t.trans (t2.up (by simp))
          go_wp2
          exact ⟨⟨k + 1, OW2, setT rows x k, by omega, rfl, by rw [Hl.out]; rfl, ht2, hR', by rw [Hl.out]; omega, Hall'.out, t2⟩, by simp only [intOf]; omega⟩
      · obtain rfl : k = ys.length := by omega
        obtain ⟨wo, rfl⟩ : ∃ wo : World, wo = wr := ⟨_, rfl⟩
        go_wp2_with fail
        refine (t_keys wo OW [1, 0] [1, 9] g 0 rows ht (by omega)).mono ?_
        rintro e w2 ⟨v2, OW2, rfl, r2, n2, -⟩
        have ht2 := ht.new_ n2
        have t2 := t.trans (n2.turn [1])
        obtain ⟨A2, c2, rfl, -⟩ := r2.slice
        clear ht t bl n2
        go_wp2_with fail
        refine (t_len w2 OW2 [1, 0] g 0 rows ht2).mono ?_
        rintro e w3 ⟨rfl, k3, rfl⟩
        have ht3 := ht2.new_ (((Below.refl _ _).nw OW2).drewN k3)
        have r3 := r2.drewN k3
        have t3 := t2.drewN k3
        generalize w2.drewN k3 = w3 at *
        clear ht2 r2 t2
        have hkl : (rows.map (·.1)).length = rows.length := List.length_map _
        go_wp2
        go_loopw [7] (fun i wr => lookS w3 rows.length i wr) (fun i _ => rows.length - (intOf i).toNat)
        case atStart => exact ⟨0, Nat.zero_le _, rfl, Below.refl _ _⟩
        case round =>
          obtain ⟨wz, rfl⟩ : ∃ wz : World, wz = wr := ⟨_, rfl⟩
          obtain ⟨m, hm, rfl, hb⟩ := hrel
          by_cases hlt2 : m < rows.length
          · obtain ⟨r, hr⟩ : ∃ r, rows[m]? = some r := ⟨_, List.getElem?_eq_getElem hlt2⟩
            have rz := r3.new_ (hb.nw OW2)
            obtain ⟨b, off, cp, hv, -⟩ := rz.at (by omega)
            simp only [Value.slice.injEq] at hv
            obtain ⟨rfl, -, rfl⟩ := hv
            obtain ⟨-, -, -, hcell⟩ := rz.open_
            have hk : (rows.map (·.1))[m]? = some r.1 := by rw [List.getElem?_map, hr]; rfl
            have e0 := hcell (m * 1 + 0) _ (EInt.css_at _ m r.1 hk 0 _ rfl (by omega))
            simp only [Nat.mul_one, Nat.add_zero] at e0
            have hp := posN_at rows hR m r hr
            have hbw := belowQ (wz.drew) OW2 [1, 0] g 0 rows r.1 ((ht3.new_ (hb.nw OW2)).new_ (New.refl _ _).drew) hR (by omega)
            rw [hp] at hbw
            have Hbw := Lib.hid hbw
            have lb := World.block_lt_of_cell? wz _ e0
            simp only at lb
            cases m with
            | zero =>
              simp only [Nat.add_zero] at e0
              have i0 : (0 : Int) < (rows.length : Int) := by omega
              clear hk hr hp hbw hcell rz
              go_wp2
              refine plain_regionN (fun W' => W'.cell? ⟨b, off, none⟩ = some (.int .i64 r.1)) [] (by kernel_rfl) ?_
              have hS : (fun W' : World => W'.cell? ⟨b, off, none⟩ = some (.int .i64 r.1)) wz.drew := e0
              refine anyX_takeN 0 (v := ?va0) rfl rfl (by kernel_rfl) (by kernel_rfl) (by kernel_rfl) (by kernel_rfl) (by kernel_rfl) (fun _ _ _ h => h) rfl ?ya0 hS ?ra0
              case ya0 =>
                intro W' hW'
                obtain hW' := hW'
                all_goals (go_simp; first | done | rfl)
              intro tm' htm
              simp only [List.setIfInBounds_toArray, List.set_cons_succ, List.set_cons_zero] at htm
              subst htm
              refine anyX_takeN 1 (v := ?va1) rfl rfl (by kernel_rfl) (by kernel_rfl) (by kernel_rfl) (by kernel_rfl) (by kernel_rfl) (fun _ _ _ h => h) rfl ?ya1 hS ?ra1
              case ya1 =>
                intro W' hW'
                obtain hW' := hW'
                all_goals (go_simp; first | done | rfl)
              intro tm' htm
              simp only [List.setIfInBounds_toArray, List.set_cons_succ, List.set_cons_zero] at htm
              subst htm
              refine anyX_takeN 2 (v := ?va2) rfl rfl (by kernel_rfl) (by kernel_rfl) (by kernel_rfl) (by kernel_rfl) (by kernel_rfl) (fun _ _ _ h => h) rfl ?ya2 hS ?ra2
              case ya2 =>
                intro W' hW'
                obtain hW' := hW'
                all_goals (go_simp; first | done | rfl)
              intro tm' htm
              simp only [List.setIfInBounds_toArray, List.set_cons_succ, List.set_cons_zero] at htm
              subst htm
              refine anyX_takeU 3 rfl rfl (by kernel_rfl) (by kernel_rfl) (by kernel_rfl) (by kernel_rfl) (by kernel_rfl) (fun _ _ _ h => h) (by rfl) hS ?_
              intro tm' htm
              simp only [List.setIfInBounds_toArray, List.set_cons_succ, List.set_cons_zero] at htm
              subst htm
              refine anyX_takeU 4 rfl rfl (by kernel_rfl) (by kernel_rfl) (by kernel_rfl) (by kernel_rfl) (by kernel_rfl) (fun _ _ _ h => h) (by rfl) hS ?_
              intro tm' htm
              simp only [List.setIfInBounds_toArray, List.set_cons_succ, List.set_cons_zero] at htm
              subst htm
              refine anyX_takeU 5 rfl rfl (by kernel_rfl) (by kernel_rfl) (by kernel_rfl) (by kernel_rfl) (by kernel_rfl) (fun _ _ _ h => h) (by rfl) hS ?_
              intro tm' htm
              simp only [List.setIfInBounds_toArray, List.set_cons_succ, List.set_cons_zero] at htm
              subst htm
              refine anyX_takeU 6 rfl rfl (by kernel_rfl) (by kernel_rfl) (by kernel_rfl) (by kernel_rfl) (by kernel_rfl) (fun _ _ _ h => h) (by rfl) hS ?_
              intro tm' htm
              simp only [List.setIfInBounds_toArray, List.set_cons_succ, List.set_cons_zero] at htm
              subst htm
              refine anyX_takeU 7 rfl rfl (by kernel_rfl) (by kernel_rfl) (by kernel_rfl) (by kernel_rfl) (by kernel_rfl) (fun _ _ _ h => h) (by rfl) hS ?_
              intro tm' htm
              simp only [List.setIfInBounds_toArray, List.set_cons_succ, List.set_cons_zero] at htm
              subst htm
              refine anyX_takeU 8 rfl rfl (by kernel_rfl) (by kernel_rfl) (by kernel_rfl) (by kernel_rfl) (by kernel_rfl) (fun _ _ _ h => h) (by rfl) hS ?_
              intro tm' htm
              simp only [List.setIfInBounds_toArray, List.set_cons_succ, List.set_cons_zero] at htm
              subst htm
              refine anyX_takeU 9 rfl rfl (by kernel_rfl) (by kernel_rfl) (by kernel_rfl) (by kernel_rfl) (by kernel_rfl) (fun _ _ _ h => h) (by rfl) hS ?_
              intro tm' htm
              simp only [List.setIfInBounds_toArray, List.set_cons_succ, List.set_cons_zero] at htm
              subst htm
              refine anyX_takeU 10 rfl rfl (by kernel_rfl) (by kernel_rfl) (by kernel_rfl) (by kernel_rfl) (by kernel_rfl) (fun _ _ _ h => h) (by rfl) hS ?_
              intro tm' htm
              simp only [List.setIfInBounds_toArray, List.set_cons_succ, List.set_cons_zero] at htm
              subst htm
              refine anyX_takeU 11 rfl rfl (by kernel_rfl) (by kernel_rfl) (by kernel_rfl) (by kernel_rfl) (by kernel_rfl) (fun _ _ _ h => h) (by rfl) hS ?_
              intro tm' htm
              simp only [List.setIfInBounds_toArray, List.set_cons_succ, List.set_cons_zero] at htm
              subst htm
              refine anyX_takeU 12 rfl rfl (by kernel_rfl) (by kernel_rfl) (by kernel_rfl) (by kernel_rfl) (by kernel_rfl) (fun _ _ _ h => h) (by rfl) hS ?_
              intro tm' htm
              simp only [List.setIfInBounds_toArray, List.set_cons_succ, List.set_cons_zero] at htm
              subst htm
              refine anyX_takeN 13 (v := ?va13) rfl rfl (by kernel_rfl) (by kernel_rfl) (by kernel_rfl) (by kernel_rfl) (by kernel_rfl) (fun _ _ _ h => h) rfl ?ya13 hS ?ra13
              case ya13 =>
                intro W' hW'
                obtain hW' := hW'
                all_goals (go_simp; first | done | rfl)
              intro tm' htm
              simp only [List.setIfInBounds_toArray, List.set_cons_succ, List.set_cons_zero] at htm
              subst htm
              refine anyX_takeN 14 (v := ?va14) rfl rfl (by kernel_rfl) (by kernel_rfl) (by kernel_rfl) (by kernel_rfl) (by kernel_rfl) (fun _ _ _ h => h) rfl ?ya14 hS ?ra14
              case ya14 =>
                intro W' hW'
                obtain hW' := hW'
                all_goals (go_simp; first | done | rfl)
              intro tm' htm
              simp only [List.setIfInBounds_toArray, List.set_cons_succ, List.set_cons_zero] at htm
              subst htm
              refine anyX_takeW 15 (v := ?va15) rfl rfl (by kernel_rfl) (by kernel_rfl) (by kernel_rfl) (by kernel_rfl) (by kernel_rfl) (fun _ _ _ h => h) (by rfl) ?ya15 hS ?ra15
              case ya15 =>
                intro W' hW'
                obtain hW' := hW'
                all_goals (go_simp; first | done | rfl)
              intro tm' htm
              simp only [List.setIfInBounds_toArray, List.set_cons_succ, List.set_cons_zero] at htm
              subst htm
              refine anyX_takeW 16 (v := ?va16) rfl rfl (by kernel_rfl) (by kernel_rfl) (by kernel_rfl) (by kernel_rfl) (by kernel_rfl) (fun _ _ _ h => h) (by rfl) ?ya16 hS ?ra16
              case ya16 =>
                intro W' hW'
                obtain hW' := hW'
                all_goals (go_simp; first | done | rfl)
              intro tm' htm
              simp only [List.setIfInBounds_toArray, List.set_cons_succ, List.set_cons_zero] at htm
              subst htm
              refine anyX_takeW 17 (v := ?va17) rfl rfl (by kernel_rfl) (by kernel_rfl) (by kernel_rfl) (by kernel_rfl) (by kernel_rfl) (fun _ _ _ h => h) (by rfl) ?ya17 hS ?ra17
              case ya17 =>
                intro W' hW'
                obtain hW' := hW'
                all_goals (go_simp; first | done | rfl)
              intro tm' htm
              simp only [List.setIfInBounds_toArray, List.set_cons_succ, List.set_cons_zero] at htm
              subst htm
              refine anyX_takeW 18 (v := ?va18) rfl rfl (by kernel_rfl) (by kernel_rfl) (by kernel_rfl) (by kernel_rfl) (by kernel_rfl) (fun _ _ _ h => h) (by rfl) ?ya18 hS ?ra18
              case ya18 =>
                intro W' hW'
                obtain hW' := hW'
                all_goals (go_simp; first | done | rfl)
              intro tm' htm
              simp only [List.setIfInBounds_toArray, List.set_cons_succ, List.set_cons_zero] at htm
              subst htm
              refine anyX_takeW 20 (v := ?va20) rfl rfl (by kernel_rfl) (by kernel_rfl) (by kernel_rfl) (by kernel_rfl) (by kernel_rfl) (fun _ _ _ h => h) (by rfl) ?ya20 hS ?ra20
              case ya20 =>
                intro W' hW'
                obtain hW' := hW'
                all_goals (go_simp; first | done | rfl)
              intro tm' htm
              simp only [List.setIfInBounds_toArray, List.set_cons_succ, List.set_cons_zero] at htm
              subst htm
              refine anyX_oneW (i := 19) (by kernel_rfl) rfl (by rfl) fun K' hK' => ?_
              unfold Oper.wp
              go_simp
              refine Hbw.out.mono ?_
              rintro e w5 ⟨rfl, b5⟩
              have hS : (fun W' : World => W'.cell? ⟨b, off, none⟩ = some (.int .i64 r.1)) w5 := (b5.cell (p := ⟨b, off, none⟩) lb).trans e0
              refine hK' _ _ (fun _ => hS) ?_
              clear hK' K'
              refine anyX_takeW 21 (v := ?vb21) rfl rfl (by kernel_rfl) (by kernel_rfl) (by kernel_rfl) (by kernel_rfl) (by kernel_rfl) (fun _ _ _ h => h) (by rfl) ?yb21 hS ?rb21
              case yb21 =>
                intro W' hW'
                obtain hW' := hW'
                all_goals (go_simp; first | done | rfl)
              intro tm' htm
              simp only [List.setIfInBounds_toArray, List.set_cons_succ, List.set_cons_zero] at htm
              subst htm
              refine anyX_takeN 22 (v := ?vb22) rfl rfl (by kernel_rfl) (by kernel_rfl) (by kernel_rfl) (by kernel_rfl) (by kernel_rfl) (fun _ _ _ h => h) rfl ?yb22 hS ?rb22
              case yb22 =>
                intro W' hW'
                obtain hW' := hW'
                all_goals (go_simp; first | done | rfl)
              intro tm' htm
              simp only [List.setIfInBounds_toArray, List.set_cons_succ, List.set_cons_zero] at htm
              subst htm
              refine anyX_done (by kernel_rfl) ?_ _
              refine NoPanic.normal ?_
              have hb5 : Below w3.heap.size w3 w5 := hb.trans ((⟨b5.os, b5.tape, b5.output, b5.size, b5.block⟩ : Below wz.heap.size wz w5).mono hb.size)
              go_wp2
              exact ⟨⟨1, by omega, by simp, hb5⟩, by simp only [intOf]; omega⟩
            | succ j =>
              obtain ⟨q, hq⟩ : ∃ q, rows[j]? = some q := ⟨_, List.getElem?_eq_getElem (by omega)⟩
              have hk2 : (rows.map (·.1))[j]? = some q.1 := by rw [List.getElem?_map, hq]; rfl
              have e1 := hcell (j * 1 + 0) _ (EInt.css_at _ j q.1 hk2 0 _ rfl (by omega))
              simp only [Nat.mul_one, Nat.add_zero] at e1
              have hqr : q.1 < r.1 := by
                have h4 := List.pairwise_iff_getElem.1 hR j (j + 1) (by omega) hlt2 (by omega)
                have h5 : rows[j] = q := (List.getElem?_eq_some_iff.1 hq).2
                have h6 : rows[j + 1] = r := (List.getElem?_eq_some_iff.1 hr).2
                rw [h5, h6] at h4
                exact h4
              have hle : decide (r.1 ≤ q.1) = false := decide_eq_false (by omega)
              have i0 : (j : Int) + 1 < (rows.length : Int) := by omega
              have i1 : (j : Int) < (rows.length : Int) := by omega
              have i2 : decide ((0 : Int) < (j : Int) + 1) = true := decide_eq_true (by omega)
              have i3 : (0 : Int) ≤ (j : Int) + 1 := by omega
              have ht1 : ((j : Int) + 1).toNat = j + 1 := by omega
              have hwr : IntKind.i64.wrap ((j : Int) + 1 - 1) = (j : Int) := by rw [IntKind.wrap_i64]; omega
              have hwr' : IntKind.i64.wrap (j : Int) = (j : Int) := by rw [IntKind.wrap_i64]; omega
              have Hqr := Lib.hid hqr
              clear hk hk2 hr hq hp hbw hcell rz hqr
              go_wp2_with fail
              refine plain_regionN (fun W' => W'.cell? ⟨b, off + (j + 1), none⟩ = some (.int .i64 r.1) ∧ W'.cell? ⟨b, off + j, none⟩ = some (.int .i64 q.1)) [] (by kernel_rfl) ?_
              have hS : (fun W' : World => W'.cell? ⟨b, off + (j + 1), none⟩ = some (.int .i64 r.1) ∧ W'.cell? ⟨b, off + j, none⟩ = some (.int .i64 q.1)) wz.drew := ⟨e0, e1⟩
              refine anyX_takeN 0 (v := ?vc0) rfl rfl (by kernel_rfl) (by kernel_rfl) (by kernel_rfl) (by kernel_rfl) (by kernel_rfl) (fun _ _ _ h => h) rfl ?yc0 hS ?rc0
              case yc0 =>
                intro W' hW'
                obtain ⟨s0, s1⟩ := hW'
                all_goals (go_simp; first | done | rfl)
              intro tm' htm
              simp only [List.setIfInBounds_toArray, List.set_cons_succ, List.set_cons_zero] at htm
              subst htm
              refine anyX_takeN 1 (v := ?vc1) rfl rfl (by kernel_rfl) (by kernel_rfl) (by kernel_rfl) (by kernel_rfl) (by kernel_rfl) (fun _ _ _ h => h) rfl ?yc1 hS ?rc1
              case yc1 =>
                intro W' hW'
                obtain ⟨s0, s1⟩ := hW'
                all_goals (go_simp; first | done | rfl)
              intro tm' htm
              simp only [List.setIfInBounds_toArray, List.set_cons_succ, List.set_cons_zero] at htm
              subst htm
              refine anyX_takeN 2 (v := ?vc2) rfl rfl (by kernel_rfl) (by kernel_rfl) (by kernel_rfl) (by kernel_rfl) (by kernel_rfl) (fun _ _ _ h => h) rfl ?yc2 hS ?rc2
              case yc2 =>
                intro W' hW'
                obtain ⟨s0, s1⟩ := hW'
                all_goals (go_simp; first | done | rfl)
              intro tm' htm
              simp only [List.setIfInBounds_toArray, List.set_cons_succ, List.set_cons_zero] at htm
              subst htm
              refine anyX_takeW 3 (v := ?vc3) rfl rfl (by kernel_rfl) (by kernel_rfl) (by kernel_rfl) (by kernel_rfl) (by kernel_rfl) (fun _ _ _ h => h) (by rfl) ?yc3 hS ?rc3
              case yc3 =>
                intro W' hW'
                obtain ⟨s0, s1⟩ := hW'
                all_goals (go_simp; first | done | rfl)
              intro tm' htm
              simp only [List.setIfInBounds_toArray, List.set_cons_succ, List.set_cons_zero] at htm
              subst htm
              refine anyX_takeW 4 (v := ?vc4) rfl rfl (by kernel_rfl) (by kernel_rfl) (by kernel_rfl) (by kernel_rfl) (by kernel_rfl) (fun _ _ _ h => h) (by rfl) ?yc4 hS ?rc4
              case yc4 =>
                intro W' hW'
                obtain ⟨s0, s1⟩ := hW'
                all_goals (go_simp; first | done | rfl)
              intro tm' htm
              simp only [List.setIfInBounds_toArray, List.set_cons_succ, List.set_cons_zero] at htm
              subst htm
              refine anyX_takeW 5 (v := ?vc5) rfl rfl (by kernel_rfl) (by kernel_rfl) (by kernel_rfl) (by kernel_rfl) (by kernel_rfl) (fun _ _ _ h => h) (by rfl) ?yc5 hS ?rc5
              case yc5 =>
                intro W' hW'
                obtain ⟨s0, s1⟩ := hW'
                all_goals (go_simp; first | done | rfl)
              intro tm' htm
              simp only [List.setIfInBounds_toArray, List.set_cons_succ, List.set_cons_zero] at htm
              subst htm
              refine anyX_takeW 6 (v := ?vc6) rfl rfl (by kernel_rfl) (by kernel_rfl) (by kernel_rfl) (by kernel_rfl) (by kernel_rfl) (fun _ _ _ h => h) (by rfl) ?yc6 hS ?rc6
              case yc6 =>
                intro W' hW'
                obtain ⟨s0, s1⟩ := hW'
                all_goals (go_simp; first | done | rfl)
              intro tm' htm
              simp only [List.setIfInBounds_toArray, List.set_cons_succ, List.set_cons_zero] at htm
              subst htm
              refine anyX_takeW 7 (v := ?vc7) rfl rfl (by kernel_rfl) (by kernel_rfl) (by kernel_rfl) (by kernel_rfl) (by kernel_rfl) (fun _ _ _ h => h) (by rfl) ?yc7 hS ?rc7
              case yc7 =>
                intro W' hW'
                obtain ⟨s0, s1⟩ := hW'
                all_goals (go_simp; first | done | rfl)
              intro tm' htm
              simp only [List.setIfInBounds_toArray, List.set_cons_succ, List.set_cons_zero] at htm
              subst htm
              refine anyX_takeW 8 (v := ?vc8) rfl rfl (by kernel_rfl) (by kernel_rfl) (by kernel_rfl) (by kernel_rfl) (by kernel_rfl) (fun _ _ _ h => h) (by rfl) ?yc8 hS ?rc8
              case yc8 =>
                intro W' hW'
                obtain ⟨s0, s1⟩ := hW'
                all_goals (go_simp; first | done | rfl)
              intro tm' htm
              simp only [List.setIfInBounds_toArray, List.set_cons_succ, List.set_cons_zero] at htm
              subst htm
              refine anyX_takeW 9 (v := ?vc9) rfl rfl (by kernel_rfl) (by kernel_rfl) (by kernel_rfl) (by kernel_rfl) (by kernel_rfl) (fun _ _ _ h => h) (by rfl) ?yc9 hS ?rc9
              case yc9 =>
                intro W' hW'
                obtain ⟨s0, s1⟩ := hW'
                all_goals (go_simp; first | done | rfl)
              intro tm' htm
              simp only [List.setIfInBounds_toArray, List.set_cons_succ, List.set_cons_zero] at htm
              subst htm
              refine anyX_takeW 10 (v := ?vc10) rfl rfl (by kernel_rfl) (by kernel_rfl) (by kernel_rfl) (by kernel_rfl) (by kernel_rfl) (fun _ _ _ h => h) (by rfl) ?yc10 hS ?rc10
              case yc10 =>
                intro W' hW'
                obtain ⟨s0, s1⟩ := hW'
                all_goals (go_simp; first | done | rfl)
              intro tm' htm
              simp only [List.setIfInBounds_toArray, List.set_cons_succ, List.set_cons_zero] at htm
              subst htm
              refine anyX_takeW 11 (v := ?vc11) rfl rfl (by kernel_rfl) (by kernel_rfl) (by kernel_rfl) (by kernel_rfl) (by kernel_rfl) (fun _ _ _ h => h) (by rfl) ?yc11 hS ?rc11
              case yc11 =>
                intro W' hW'
                obtain ⟨s0, s1⟩ := hW'
                all_goals (go_simp; first | done | rfl)
              intro tm' htm
              simp only [List.setIfInBounds_toArray, List.set_cons_succ, List.set_cons_zero] at htm
              subst htm
              refine anyX_takeW 12 (v := ?vc12) rfl rfl (by kernel_rfl) (by kernel_rfl) (by kernel_rfl) (by kernel_rfl) (by kernel_rfl) (fun _ _ _ h => h) (by rfl) ?yc12 hS ?rc12
              case yc12 =>
                intro W' hW'
                obtain ⟨s0, s1⟩ := hW'
                all_goals (go_simp; first | done | rfl)
              intro tm' htm
              simp only [List.setIfInBounds_toArray, List.set_cons_succ, List.set_cons_zero] at htm
              subst htm
              refine anyX_takeN 13 (v := ?vc13) rfl rfl (by kernel_rfl) (by kernel_rfl) (by kernel_rfl) (by kernel_rfl) (by kernel_rfl) (fun _ _ _ h => h) rfl ?yc13 hS ?rc13
              case yc13 =>
                intro W' hW'
                obtain ⟨s0, s1⟩ := hW'
                all_goals (go_simp; first | done | rfl)
              intro tm' htm
              simp only [List.setIfInBounds_toArray, List.set_cons_succ, List.set_cons_zero] at htm
              subst htm
              refine anyX_takeN 14 (v := ?vc14) rfl rfl (by kernel_rfl) (by kernel_rfl) (by kernel_rfl) (by kernel_rfl) (by kernel_rfl) (fun _ _ _ h => h) rfl ?yc14 hS ?rc14
              case yc14 =>
                intro W' hW'
                obtain ⟨s0, s1⟩ := hW'
                all_goals (go_simp; first | done | rfl)
              intro tm' htm
              simp only [List.setIfInBounds_toArray, List.set_cons_succ, List.set_cons_zero] at htm
              subst htm
              refine anyX_takeW 15 (v := ?vc15) rfl rfl (by kernel_rfl) (by kernel_rfl) (by kernel_rfl) (by kernel_rfl) (by kernel_rfl) (fun _ _ _ h => h) (by rfl) ?yc15 hS ?rc15
              case yc15 =>
                intro W' hW'
                obtain ⟨s0, s1⟩ := hW'
                all_goals (go_simp; first | done | rfl)
              intro tm' htm
              simp only [List.setIfInBounds_toArray, List.set_cons_succ, List.set_cons_zero] at htm
              subst htm
              refine anyX_takeW 16 (v := ?vc16) rfl rfl (by kernel_rfl) (by kernel_rfl) (by kernel_rfl) (by kernel_rfl) (by kernel_rfl) (fun _ _ _ h => h) (by rfl) ?yc16 hS ?rc16
              case yc16 =>
                intro W' hW'
                obtain ⟨s0, s1⟩ := hW'
                all_goals (go_simp; first | done | rfl)
              intro tm' htm
              simp only [List.setIfInBounds_toArray, List.set_cons_succ, List.set_cons_zero] at htm
              subst htm
              refine anyX_takeW 17 (v := ?vc17) rfl rfl (by kernel_rfl) (by kernel_rfl) (by kernel_rfl) (by kernel_rfl) (by kernel_rfl) (fun _ _ _ h => h) (by rfl) ?yc17 hS ?rc17
              case yc17 =>
                intro W' hW'
                obtain ⟨s0, s1⟩ := hW'
                all_goals (go_simp; first | done | rfl)
              intro tm' htm
              simp only [List.setIfInBounds_toArray, List.set_cons_succ, List.set_cons_zero] at htm
              subst htm
              refine anyX_takeW 18 (v := ?vc18) rfl rfl (by kernel_rfl) (by kernel_rfl) (by kernel_rfl) (by kernel_rfl) (by kernel_rfl) (fun _ _ _ h => h) (by rfl) ?yc18 hS ?rc18
              case yc18 =>
                intro W' hW'
                obtain ⟨s0, s1⟩ := hW'
                all_goals (go_simp; first | done | rfl)
              intro tm' htm
              simp only [List.setIfInBounds_toArray, List.set_cons_succ, List.set_cons_zero] at htm
              subst htm
              refine anyX_takeW 20 (v := ?vc20) rfl rfl (by kernel_rfl) (by kernel_rfl) (by kernel_rfl) (by kernel_rfl) (by kernel_rfl) (fun _ _ _ h => h) (by rfl) ?yc20 hS ?rc20
              case yc20 =>
                intro W' hW'
                obtain ⟨s0, s1⟩ := hW'
                all_goals (go_simp; first | done | rfl)
              intro tm' htm
              simp only [List.setIfInBounds_toArray, List.set_cons_succ, List.set_cons_zero] at htm
              subst htm
              refine anyX_oneW (i := 19) (by kernel_rfl) rfl (by rfl) fun K' hK' => ?_
              unfold Oper.wp
              go_simp
              refine Hbw.out.mono ?_
              rintro e w5 ⟨rfl, b5⟩
              have hS : (fun W' : World => W'.cell? ⟨b, off + (j + 1), none⟩ = some (.int .i64 r.1) ∧ W'.cell? ⟨b, off + j, none⟩ = some (.int .i64 q.1)) w5 := ⟨(b5.cell (p := ⟨b, off + (j + 1), none⟩) lb).trans e0, (b5.cell (p := ⟨b, off + j, none⟩) lb).trans e1⟩
              refine hK' _ _ (fun _ => hS) ?_
              clear hK' K'
              refine anyX_takeW 21 (v := ?vd21) rfl rfl (by kernel_rfl) (by kernel_rfl) (by kernel_rfl) (by kernel_rfl) (by kernel_rfl) (fun _ _ _ h => h) (by rfl) ?yd21 hS ?rd21
              case yd21 =>
                intro W' hW'
                obtain ⟨s0, s1⟩ := hW'
                all_goals (go_simp; first | done | rfl)
              intro tm' htm
              simp only [List.setIfInBounds_toArray, List.set_cons_succ, List.set_cons_zero] at htm
              subst htm
              refine anyX_takeN 22 (v := ?vd22) rfl rfl (by kernel_rfl) (by kernel_rfl) (by kernel_rfl) (by kernel_rfl) (by kernel_rfl) (fun _ _ _ h => h) rfl ?yd22 hS ?rd22
              case yd22 =>
                intro W' hW'
                obtain ⟨s0, s1⟩ := hW'
                all_goals (go_simp; first | done | rfl)
              intro tm' htm
              simp only [List.setIfInBounds_toArray, List.set_cons_succ, List.set_cons_zero] at htm
              subst htm
              refine anyX_done (by kernel_rfl) ?_ _
              refine NoPanic.normal ?_
              have hb5 : Below w3.heap.size w3 w5 := hb.trans ((⟨b5.os, b5.tape, b5.output, b5.size, b5.block⟩ : Below wz.heap.size wz w5).mono hb.size)
              go_wp2
              exact ⟨⟨j + 1 + 1, by omega, by go_num, hb5⟩, by simp only [intOf]; omega⟩
          · obtain rfl : m = rows.length := by omega
            have hby := hb
            obtain ⟨wa, rfl⟩ : ∃ wa : World, wa = wz := ⟨_, rfl⟩
            have ht4 := ht3.new_ (hby.nw OW2)
            have r4 := r3.new_ (hby.nw OW2)
            have t4 := t3.trans ((hby.nw OW2).turn _)
            clear ht3 r3 t3 hb hby
            go_wp2
            go_loopw [8] (fun i wr => lookS wa ys.length i wr) (fun i _ => ys.length - (intOf i).toNat)
            case atStart => exact ⟨0, Nat.zero_le _, rfl, Below.refl _ _⟩
            case round =>
              obtain ⟨wz, rfl⟩ : ∃ wz : World, wz = wr := ⟨_, rfl⟩
              obtain ⟨m, hm, rfl, hb⟩ := hrel
              by_cases hlt3 : m < ys.length
              · obtain ⟨x, hx⟩ : ∃ x, ys[m]? = some x := ⟨_, List.getElem?_eq_getElem hlt3⟩
                obtain ⟨bl, ofl, rfl, c0⟩ := (Hc.out.new_ ((t4.new_ ow0 [1]).below.trans (hb.mono (t4.new_ ow0 [1]).below.size))).at m x hx
                obtain ⟨r, hr, hrx⟩ := foundB_some (Hall.out m hlt3 x hx)
                have hpl : posN x rows < rows.length := (List.getElem?_eq_some_iff.1 hr).1
                have hbw := belowQ wz OW2 [1, 0] g 0 rows x (ht4.new_ (hb.nw OW2)) hR (by omega)
                have rz := r4.new_ (hb.nw OW2)
                obtain ⟨b, off, cp, hv, -⟩ := rz.at (by omega)
                simp only [Value.slice.injEq] at hv
                obtain ⟨rfl, -, rfl⟩ := hv
                obtain ⟨-, -, -, hcell⟩ := rz.open_
                have hk : (rows.map (·.1))[posN x rows]? = some x := by rw [List.getElem?_map, hr, ← hrx]; rfl
                have e0 := hcell (posN x rows * 1 + 0) _ (EInt.css_at _ _ x hk 0 _ rfl (by omega))
                simp only [Nat.mul_one, Nat.add_zero] at e0
                have lb := World.block_lt_of_cell? wz _ e0
                have lc := World.block_lt_of_cell? wz _ c0
                simp only at lb lc
                have Hbw := Lib.hid hbw
                generalize posN x rows = pn at *
                have i0 : (m : Int) < (ys.length : Int) := by omega
                have i1 : (pn : Int) < (rows.length : Int) := by omega
                have i2 : decide ((rows.length : Int) ≤ (pn : Int)) = false := decide_eq_false (by omega)
                clear hk hr hrx hbw hcell rz hx
                go_wp2_with fail
                refine Hbw.out.mono ?_
                rintro e w5 ⟨rfl, b5⟩
                have e0 := (b5.cell (p := ⟨b, off + pn, none⟩) lb).trans e0
                have c0 := (b5.cell (p := ⟨bl, ofl + m, none⟩) lc).trans c0
                have hb5 : Below wa.heap.size wa w5 := hb.trans (b5.mono hb.size)
                go_wp2
                go_quiet (fail)
                go_wp2
                refine ⟨⟨m + 1, by omega, by go_num, ?_⟩, by simp only [intOf]; omega⟩
                first | exact hb5 | exact bdN hb5 _ | exact hb5.drew
              · obtain rfl : m = ys.length := by omega
                have bz := (t4.new_ ow0 [1]).below
                have bz := bz.trans (hb.mono bz.size)
                go_wp2_with fail
                refine (runs wz).mono ?_
                rintro e wy ⟨rfl, by_⟩
                have fin := bz.trans (by_.mono bz.size)
                go_wp2
                go_ret
                exact ⟨rfl, fin⟩

end SH
end Go.Proofs.Ytppikbdeopagkaa
