/-
  KEELREF5: Begins, New. KEELBOOK: Roomy, Intact.
-/
import Derived.Test.YtefagdbdimpcdaaRT2
import Derived.Test.YtefagdbdimpcdaaU7
import Derived.Test.YtefagdbdimpcdaaTab0
import Derived.Test.YtefagdbdimpcdaaEIntS2
import Derived.Test.YtefagdbdimpcdaaUB
set_option linter.unusedVariables false
set_option linter.unusedSimpArgs false
namespace Go.Proofs.Ytefagdbdimpcdaa
open Go Go.RowKit

namespace RT5
open UN

set_option maxHeartbeats 2000000 in
theorem rbegins (w : World) (A : Option Addr) (c : Nat) (us : List Int) (h : EInt.Cov w A (EInt.css us)) (hn : us.length ≤ 1000000) : Calls Try.prog 41 #[.slice A us.length c] w fun e w' => e = .returned (.int .i64 (newE us)) ∧ w' = w := by
  have hE : newE us = if 16 < us.length then 4 else if ∀ u ∈ us, okU u then 0 else 1 := rfl
  have HE := Lib.hid hE
  generalize newE us = E at *
  clear hE
  have Hr := Lib.hid h
  clear h
  by_cases h16 : 16 < us.length
  · have hE := HE.out
    rw [if_pos h16] at hE
    subst hE
    have h17 : (16 : Int) < (us.length : Int) := by omega
    go_enter Try.func41, Try.ntmps41
    go_wp2
    go_ret
    exact ⟨rfl, rfl⟩
  · have hE := HE.out
    rw [if_neg h16] at hE
    clear HE
    have HE := Lib.hid hE
    clear hE
    have h17 : ¬ (16 : Int) < (us.length : Int) := by omega
    go_enter Try.func41, Try.ntmps41
    go_wp2
    go_loopg [3] us.length (fun gn i wr => ∃ k : Nat, gn = us.length - k ∧ k ≤ us.length ∧ i = .int .i64 (k : Int) ∧ (∀ (j : Nat) (u : Int), j < k → us[j]? = some u → okU u) ∧ wr = w)
    case atStart => exact ⟨0, rfl, Nat.zero_le _, rfl, fun j u hj => by omega, rfl⟩
    case round =>
      obtain ⟨k, hgk, hk, rfl, hok, rfl⟩ := hrel
      have Hgk := Lib.hid hgk
      have Hok := Lib.hid hok
      clear hgk hok
      by_cases hlt : k < us.length
      · obtain ⟨x, hx⟩ : ∃ x, us[k]? = some x := ⟨_, List.getElem?_eq_getElem hlt⟩
        obtain ⟨b, off, rfl, e0⟩ := Hr.out.at k x hx
        have i0 : (k : Int) < (us.length : Int) := by omega
        have Hx := Lib.hid hx
        clear hx
        by_cases o1 : x < 1
        · have hE : E = 1 := by rw [HE.out, if_neg (fun h => by have := (h x (List.mem_of_getElem? Hx.out)).1; omega)]
          subst hE
          go_wp2
          go_ret
          exact ⟨rfl, rfl⟩
        · by_cases o2 : 255 < x
          · have hE : E = 1 := by rw [HE.out, if_neg (fun h => by have := (h x (List.mem_of_getElem? Hx.out)).2; omega)]
            subst hE
            go_wp2
            go_ret
            exact ⟨rfl, rfl⟩
          · go_wp2
            go_roundg (us.length - (k + 1))
            case measure => have := Hgk.out; omega
            case rel => exact ⟨k + 1, rfl, by omega, by go_num, fun j u hj hu => by
              by_cases e : j = k
              · subst e
                have := Hx.out
                rw [hu] at this
                rw [Option.some.inj this]
                exact ⟨by omega, by omega⟩
              · exact Hok.out j u (by omega) hu, rfl⟩
      · obtain rfl : k = us.length := by omega
        have hE : E = 0 := by rw [HE.out, if_pos (fun u hu => by
          obtain ⟨j, hj⟩ := List.getElem?_of_mem hu
          exact Hok.out j u (List.getElem?_eq_some_iff.1 hj).1 hj)]
        subst hE
        clear hlt Hgk
        go_wp2
        go_ret
        exact ⟨rfl, rfl⟩

set_option maxRecDepth 100000 in
set_option maxHeartbeats 4000000 in
theorem rnew (w : World) (ow : Ow) (q : List Nat) (A : Option Addr) (c : Nat) (us : List Int) (h : EInt.Cov w A (EInt.css us)) (hl : us.length ≤ 16) (hu : ∀ u ∈ us, okU u) : Calls Try.prog 43 #[.slice A us.length c] w fun e w' => ∃ g ow', e = .returned (.pointer (some ⟨g, 0, none⟩)) ∧ RT w' ow' q g us (List.replicate us.length 0) [] ∧ New w ow w' ow' := by
  have Hu := Lib.hid hu
  have Hr := Lib.hid h
  clear hu h
  go_enter Try.func43, Try.ntmps43
  go_wp2_with fail
  refine plain_regionN (fun _ => True) [] (by kernel_rfl) ?_
  have t := (New.refl w ow0).drew.turn [1]
  have hS : (fun _ : World => True) w.drew := trivial
  generalize w.drew = w1 at *
  refine anyX_takeNL 1 (v := ?_) rfl rfl (by as_aux_lemma => kernel_rfl) (by as_aux_lemma => kernel_rfl) (by as_aux_lemma => kernel_rfl) (by as_aux_lemma => kernel_rfl) (by as_aux_lemma => kernel_rfl) (fun _ _ _ h => h) rfl ?_ hS ?_
  rotate_left
  · intro W' hW'
    obtain - := hW'
    all_goals (go_simp; first | done | rfl)
  intro l' hl
  dsimp only [List.set_cons_succ, List.set_cons_zero] at hl
  subst hl
  refine anyX_takeNL 3 (v := ?_) rfl rfl (by as_aux_lemma => kernel_rfl) (by as_aux_lemma => kernel_rfl) (by as_aux_lemma => kernel_rfl) (by as_aux_lemma => kernel_rfl) (by as_aux_lemma => kernel_rfl) (fun _ _ _ h => h) rfl ?_ hS ?_
  rotate_left
  · intro W' hW'
    obtain - := hW'
    all_goals (go_simp; first | done | rfl)
  intro l' hl
  dsimp only [List.set_cons_succ, List.set_cons_zero] at hl
  subst hl
  refine anyX_takeNL 4 (v := ?_) rfl rfl (by as_aux_lemma => kernel_rfl) (by as_aux_lemma => kernel_rfl) (by as_aux_lemma => kernel_rfl) (by as_aux_lemma => kernel_rfl) (by as_aux_lemma => kernel_rfl) (fun _ _ _ h => h) rfl ?_ hS ?_
  rotate_left
  · intro W' hW'
    obtain - := hW'
    all_goals (go_simp; first | done | rfl)
  intro l' hl
  dsimp only [List.set_cons_succ, List.set_cons_zero] at hl
  subst hl
  clear hS
  refine anyX_two (i := 0) (j := 5) (by kernel_rfl) rfl rfl rfl rfl (fun K' hK' => ?_) (fun K' hK' => ?_)
  · unfold Oper.wp
    go_simp
    refine hK' _ _ (fun _ => trivial) ?_
    clear hK' K'
    have hr1 := Row.new0 w1 ow0 [1, 1] 3 1
    replace t := t.alloc (.cells #[] 3) [1, 1]
    refine anyX_two (i := 2) (j := 5) (by kernel_rfl) rfl rfl rfl rfl (fun K' hK' => ?_) (fun K' hK' => ?_)
    · refine wp_append_row (.tmp 3) (.tmp 4) 38 38 rfl 3 _ 1 8 Try.underlying38 EInt.info rfl rfl hr1 rfl ((Hr.out.new_ (t.new_ ow [1]).below).src Try.underlying38 c) (by unfold maxLen; omega) (by omega) ?_
      intro v1 wa owa hr2 tt
      simp only [Nat.zero_add, List.nil_append] at hr2
      replace t := t.trans (tt.up (by simp))
      clear hr1 tt
      change K' (Act.put _ (some 5) _) _
      refine hK' _ _ (fun _ => trivial) ?_
      clear hK' K'
      simp only [Act.put, List.setIfInBounds_toArray, List.set_cons_succ, List.set_cons_zero]
      refine anyX_one (i := 5) (by kernel_rfl) rfl rfl fun K' hK' => ?_
      refine wp_make_row [1, 3] owa _ _ 38 rfl 3 _ 1 8 Try.underlying38 EInt.info rfl _ _ _ _ us.length us.length rfl rfl rfl rfl (Nat.le_refl _) (by omega) (by unfold maxLen; omega) ?_
      intro v3 wb owb hr3 nx
      replace hr2 := hr2.new_ nx
      replace t := t.trans (nx.turn [1])
      clear nx
      change K' (Act.put _ (some 8) _) _
      refine hK' _ _ (fun _ => trivial) ?_
      clear hK' K'
      simp only [Act.put, List.setIfInBounds_toArray, List.set_cons_succ, List.set_cons_zero]
      obtain ⟨A1, c1, rfl, -⟩ := hr2.slice
      obtain ⟨A3, c3, rfl, -⟩ := hr3.slice
      have hS : (fun _ : World => True) wb := trivial
      refine anyX_takeNL 6 (v := ?_) rfl rfl (by as_aux_lemma => kernel_rfl) (by as_aux_lemma => kernel_rfl) (by as_aux_lemma => kernel_rfl) (by as_aux_lemma => kernel_rfl) (by as_aux_lemma => kernel_rfl) (fun _ _ _ h => h) rfl ?_ hS ?_
      rotate_left
      · intro W' hW'
        obtain - := hW'
        all_goals (go_simp; first | done | rfl)
      intro l' hl
      dsimp only [List.set_cons_succ, List.set_cons_zero] at hl
      subst hl
      refine anyX_one (i := 7) (by kernel_rfl) rfl rfl fun K' hK' => ?_
      unfold Oper.wp
      go_simp
      refine hK' _ _ (fun _ => trivial) ?_
      clear hK' K' hS
      obtain ⟨ob, hB, nb, -⟩ := SH.add_cells wb owb [1, 0] [.slice A1 us.length c1, .slice none 0 0, .slice A3 us.length c3] 116
      replace hr2 := hr2.new_ nb
      replace hr3 := hr3.new_ nb
      replace t := t.trans (nb.turn [1])
      clear nb
      generalize wb.alloc (.cells #[.slice A1 us.length c1, .slice none 0 0, .slice A3 us.length c3] 116) = wz at *
      generalize wb.heap.size = g at *
      have hS : (fun _ : World => True) wz := trivial
      refine anyX_takeNL 8 (v := ?_) rfl rfl (by as_aux_lemma => kernel_rfl) (by as_aux_lemma => kernel_rfl) (by as_aux_lemma => kernel_rfl) (by as_aux_lemma => kernel_rfl) (by as_aux_lemma => kernel_rfl) (fun _ _ _ h => h) rfl ?_ hS ?_
      rotate_left
      · intro W' hW'
        obtain - := hW'
        all_goals (go_simp; first | done | rfl)
      intro l' hl
      dsimp only [List.set_cons_succ, List.set_cons_zero] at hl
      subst hl
      refine anyX_done (by kernel_rfl) ?_ _
      refine NoPanic.normal ?_
      clear hS
      go_wp2
      go_ret
      have e3 : (madeCells (Value.int .i64 0).cells (us.length * 1)).toList = EInt.css (List.replicate us.length 0) := zeros us.length
      rw [e3] at hr3
      exact ⟨g, ow.ren w.heap.size ob q, rfl, ⟨Inv.start us hl Hu.out, _, _, _, hB.ren t ow q, hr2.ren t ow q, Row.nil _ _ _ _ _, by rw [List.length_replicate]; exact hr3.ren t ow q⟩, t.new_ ow q⟩
    · refine wp_make_row [1, 3] (ow0.set w1.heap.size [1, 1]) _ _ 38 rfl 3 _ 1 8 Try.underlying38 EInt.info rfl _ _ _ _ us.length us.length rfl rfl rfl rfl (Nat.le_refl _) (by omega) (by unfold maxLen; omega) ?_
      intro v3 wb owb hr3 nx
      replace hr1 := hr1.new_ nx
      replace t := t.trans (nx.turn [1])
      clear nx
      change K' (Act.put _ (some 8) _) _
      refine hK' _ _ (fun _ => trivial) ?_
      clear hK' K'
      simp only [Act.put, List.setIfInBounds_toArray, List.set_cons_succ, List.set_cons_zero]
      refine anyX_one (i := 2) (by kernel_rfl) rfl rfl fun K' hK' => ?_
      refine wp_append_row (.tmp 3) (.tmp 4) 38 38 rfl 3 _ 1 8 Try.underlying38 EInt.info rfl rfl hr1 rfl ((Hr.out.new_ (t.new_ ow [1]).below).src Try.underlying38 c) (by unfold maxLen; omega) (by omega) ?_
      intro v1 wa owa hr2 tt
      simp only [Nat.zero_add, List.nil_append] at hr2
      replace hr3 := hr3.keep tt (by simp)
      replace t := t.trans (tt.up (by simp))
      clear hr1 tt
      change K' (Act.put _ (some 5) _) _
      refine hK' _ _ (fun _ => trivial) ?_
      clear hK' K'
      simp only [Act.put, List.setIfInBounds_toArray, List.set_cons_succ, List.set_cons_zero]
      obtain ⟨A1, c1, rfl, -⟩ := hr2.slice
      obtain ⟨A3, c3, rfl, -⟩ := hr3.slice
      have hS : (fun _ : World => True) wa := trivial
      refine anyX_takeNL 6 (v := ?_) rfl rfl (by as_aux_lemma => kernel_rfl) (by as_aux_lemma => kernel_rfl) (by as_aux_lemma => kernel_rfl) (by as_aux_lemma => kernel_rfl) (by as_aux_lemma => kernel_rfl) (fun _ _ _ h => h) rfl ?_ hS ?_
      rotate_left
      · intro W' hW'
        obtain - := hW'
        all_goals (go_simp; first | done | rfl)
      intro l' hl
      dsimp only [List.set_cons_succ, List.set_cons_zero] at hl
      subst hl
      refine anyX_one (i := 7) (by kernel_rfl) rfl rfl fun K' hK' => ?_
      unfold Oper.wp
      go_simp
      refine hK' _ _ (fun _ => trivial) ?_
      clear hK' K' hS
      obtain ⟨ob, hB, nb, -⟩ := SH.add_cells wa owa [1, 0] [.slice A1 us.length c1, .slice none 0 0, .slice A3 us.length c3] 116
      replace hr2 := hr2.new_ nb
      replace hr3 := hr3.new_ nb
      replace t := t.trans (nb.turn [1])
      clear nb
      generalize wa.alloc (.cells #[.slice A1 us.length c1, .slice none 0 0, .slice A3 us.length c3] 116) = wz at *
      generalize wa.heap.size = g at *
      have hS : (fun _ : World => True) wz := trivial
      refine anyX_takeNL 8 (v := ?_) rfl rfl (by as_aux_lemma => kernel_rfl) (by as_aux_lemma => kernel_rfl) (by as_aux_lemma => kernel_rfl) (by as_aux_lemma => kernel_rfl) (by as_aux_lemma => kernel_rfl) (fun _ _ _ h => h) rfl ?_ hS ?_
      rotate_left
      · intro W' hW'
        obtain - := hW'
        all_goals (go_simp; first | done | rfl)
      intro l' hl
      dsimp only [List.set_cons_succ, List.set_cons_zero] at hl
      subst hl
      refine anyX_done (by kernel_rfl) ?_ _
      refine NoPanic.normal ?_
      clear hS
      go_wp2
      go_ret
      have e3 : (madeCells (Value.int .i64 0).cells (us.length * 1)).toList = EInt.css (List.replicate us.length 0) := zeros us.length
      rw [e3] at hr3
      exact ⟨g, ow.ren w.heap.size ob q, rfl, ⟨Inv.start us hl Hu.out, _, _, _, hB.ren t ow q, hr2.ren t ow q, Row.nil _ _ _ _ _, by rw [List.length_replicate]; exact hr3.ren t ow q⟩, t.new_ ow q⟩
  · refine wp_make_row [1, 3] ow0 _ _ 38 rfl 3 _ 1 8 Try.underlying38 EInt.info rfl _ _ _ _ us.length us.length rfl rfl rfl rfl (Nat.le_refl _) (by omega) (by unfold maxLen; omega) ?_
    intro v3 wb owb hr3 nx
    replace t := t.trans (nx.turn [1])
    clear nx
    change K' (Act.put _ (some 8) _) _
    refine hK' _ _ (fun _ => trivial) ?_
    clear hK' K'
    simp only [Act.put, List.setIfInBounds_toArray, List.set_cons_succ, List.set_cons_zero]
    refine anyX_one (i := 0) (by kernel_rfl) rfl rfl fun K' hK' => ?_
    unfold Oper.wp
    go_simp
    refine hK' _ _ (fun _ => trivial) ?_
    clear hK' K'
    have hr1 := Row.new0 wb owb [1, 1] 3 1
    replace hr3 := hr3.alloc (.cells #[] 3) [1, 1]
    replace t := t.alloc (.cells #[] 3) [1, 1]
    refine anyX_one (i := 2) (by kernel_rfl) rfl rfl fun K' hK' => ?_
    refine wp_append_row (.tmp 3) (.tmp 4) 38 38 rfl 3 _ 1 8 Try.underlying38 EInt.info rfl rfl hr1 rfl ((Hr.out.new_ (t.new_ ow [1]).below).src Try.underlying38 c) (by unfold maxLen; omega) (by omega) ?_
    intro v1 wa owa hr2 tt
    simp only [Nat.zero_add, List.nil_append] at hr2
    replace hr3 := hr3.keep tt (by simp)
    replace t := t.trans (tt.up (by simp))
    clear hr1 tt
    change K' (Act.put _ (some 5) _) _
    refine hK' _ _ (fun _ => trivial) ?_
    clear hK' K'
    simp only [Act.put, List.setIfInBounds_toArray, List.set_cons_succ, List.set_cons_zero]
    obtain ⟨A1, c1, rfl, -⟩ := hr2.slice
    obtain ⟨A3, c3, rfl, -⟩ := hr3.slice
    have hS : (fun _ : World => True) wa := trivial
    refine anyX_takeNL 6 (v := ?_) rfl rfl (by as_aux_lemma => kernel_rfl) (by as_aux_lemma => kernel_rfl) (by as_aux_lemma => kernel_rfl) (by as_aux_lemma => kernel_rfl) (by as_aux_lemma => kernel_rfl) (fun _ _ _ h => h) rfl ?_ hS ?_
    rotate_left
    · intro W' hW'
      obtain - := hW'
      all_goals (go_simp; first | done | rfl)
    intro l' hl
    dsimp only [List.set_cons_succ, List.set_cons_zero] at hl
    subst hl
    refine anyX_one (i := 7) (by kernel_rfl) rfl rfl fun K' hK' => ?_
    unfold Oper.wp
    go_simp
    refine hK' _ _ (fun _ => trivial) ?_
    clear hK' K' hS
    obtain ⟨ob, hB, nb, -⟩ := SH.add_cells wa owa [1, 0] [.slice A1 us.length c1, .slice none 0 0, .slice A3 us.length c3] 116
    replace hr2 := hr2.new_ nb
    replace hr3 := hr3.new_ nb
    replace t := t.trans (nb.turn [1])
    clear nb
    generalize wa.alloc (.cells #[.slice A1 us.length c1, .slice none 0 0, .slice A3 us.length c3] 116) = wz at *
    generalize wa.heap.size = g at *
    have hS : (fun _ : World => True) wz := trivial
    refine anyX_takeNL 8 (v := ?_) rfl rfl (by as_aux_lemma => kernel_rfl) (by as_aux_lemma => kernel_rfl) (by as_aux_lemma => kernel_rfl) (by as_aux_lemma => kernel_rfl) (by as_aux_lemma => kernel_rfl) (fun _ _ _ h => h) rfl ?_ hS ?_
    rotate_left
    · intro W' hW'
      obtain - := hW'
      all_goals (go_simp; first | done | rfl)
    intro l' hl
    dsimp only [List.set_cons_succ, List.set_cons_zero] at hl
    subst hl
    refine anyX_done (by kernel_rfl) ?_ _
    refine NoPanic.normal ?_
    clear hS
    go_wp2
    go_ret
    have e3 : (madeCells (Value.int .i64 0).cells (us.length * 1)).toList = EInt.css (List.replicate us.length 0) := zeros us.length
    rw [e3] at hr3
    exact ⟨g, ow.ren w.heap.size ob q, rfl, ⟨Inv.start us hl Hu.out, _, _, _, hB.ren t ow q, hr2.ren t ow q, Row.nil _ _ _ _ _, by rw [List.length_replicate]; exact hr3.ren t ow q⟩, t.new_ ow q⟩

/-- The list with 80 marks behind it. -/
theorem fill_at (xs : List Int) (mk : Int) (ys : List Int) (h1 : ys.length = xs.length + 80) (h2 : ys.take xs.length = xs) (h3 : ∀ j, xs.length ≤ j → j < xs.length + 80 → ys[j]? = some mk) : ys = xs ++ List.replicate 80 mk := by
  apply List.ext_getElem?
  intro j
  by_cases c1 : j < xs.length
  · rw [List.getElem?_append_left c1]
    conv => rhs; rw [← h2]
    rw [List.getElem?_take_of_lt c1]
  · by_cases c2 : j < xs.length + 80
    · rw [h3 j (by omega) c2, List.getElem?_append_right (by omega), List.getElem?_replicate, if_pos (by omega)]
    · rw [List.getElem?_eq_none (by omega), List.getElem?_eq_none (by simp; omega)]

def rmR (w : World) (v : Value) (xs : List Int) (mk : Int) (gn : Nat) (i : Value) (wr : World) : Prop :=
  ∃ (k : Nat) (ys : List Int) (OW : Ow), gn = xs.length + 80 - k ∧ xs.length ≤ k ∧ k ≤ xs.length + 80 ∧ i = .int .i64 (k : Int) ∧ ys.length = xs.length + 80 ∧ ys.take xs.length = xs ∧ (∀ j, xs.length ≤ j → j < k → ys[j]? = some mk) ∧ Row wr OW [1] 3 1 v (xs.length + 80) (EInt.css ys) ∧ Turn [1] w ow0 wr OW

set_option maxRecDepth 100000 in
set_option maxHeartbeats 4000000 in
theorem roomy (w : World) (ow : Ow) (q : List Nat) (A : Option Addr) (c : Nat) (xs : List Int) (mk : Int) (h : EInt.Cov w A (EInt.css xs)) (hn : xs.length ≤ 1000000) : Calls Try.prog 40 #[.slice A xs.length c, .int .i64 mk] w fun e w' => ∃ v' ow', e = .returned v' ∧ Row w' ow' q 3 1 v' (xs.length + 80) (EInt.css (xs ++ List.replicate 80 mk)) ∧ New w ow w' ow' := by
  have Hr := Lib.hid h
  clear h
  have wr1 : IntKind.i64.wrap ((xs.length : Int) + 80) = (xs.length : Int) + 80 := by rw [IntKind.wrap_i64]; omega
  go_enter Try.func40, Try.ntmps40
  go_wp2_with (at_make; refine wpList_make_row [1] ow0 rfl _ _ 38 rfl 3 _ 1 8 Try.underlying38 EInt.info rfl _ _ _ _ (xs.length + 80) (xs.length + 80) rfl (by omega) rfl (by omega) (Nat.le_refl _) (by omega) (by unfold maxLen; omega) ?_)
  intro v1 w1 ow1 hr nx
  have e3 : (madeCells #[Value.int .i64 0] (xs.length + 80)).toList = EInt.css (List.replicate (xs.length + 80) 0) := by have := zeros (xs.length + 80); rw [Nat.mul_one] at this; exact this
  rw [e3] at hr
  have t := nx.turn [1]
  have hrd := Hr.out.new_ nx.below
  clear nx e3
  obtain ⟨b, off, cap, rfl, hc1, hc2, hb, -⟩ := hr.at (by omega)
  have hcopy : ∃ w2, (Builtin.copy_ #[38, 38] 3 #[.slice (some ⟨b, off, none⟩) (xs.length + 80) cap, .slice A xs.length c]).run Try.prog w1 = .ok (goInt xs.length) w2 ∧ Row w2 ow1 [1] 3 1 (.slice (some ⟨b, off, none⟩) (xs.length + 80) cap) (xs.length + 80) (EInt.css (xs ++ List.replicate 80 0)) ∧ Turn [1] w ow0 w2 ow1 := by
    by_cases h0 : xs.length = 0
    · obtain rfl : xs = [] := List.length_eq_zero_iff.1 h0
      exact ⟨w1, run_copy_none w1 _ _ _ 3 (some ⟨b, off, none⟩) A _ _ _ _ Try.underlying38 (by kernel_rfl) (Nat.min_eq_left (Nat.zero_le _)), by simpa using hr, t⟩
    · obtain ⟨g, xo, rfl, hx⟩ := hrd (by rw [EInt.css_length]; omega)
      have hrun := run_copy_row (P := Try.prog) w1 ow1 [1] 38 38 3 3 1 (xs.length + 80) cap b off _ Try.underlying38 (by kernel_rfl) hr 0 (Nat.zero_le _) xs.length (EInt.css xs) (xb := g) (xo := xo) (xc := c) hx (EInt.css_length xs) (by omega) (EInt.css_one xs) xs.length (xs.length + 80) (Nat.min_eq_left (by omega)) cap
      have hset := hr.sets 0 (EInt.css xs) (by rw [EInt.css_length, EInt.css_length, List.length_replicate]; omega)
      have hst := hr.setsTurn off (EInt.css xs)
      simp only [Nat.zero_mul, Nat.add_zero] at hrun hset
      refine ⟨_, hrun, ?_, t.trans hst⟩
      have he : (EInt.css (List.replicate (xs.length + 80) 0)).take 0 ++ EInt.css xs ++ (EInt.css (List.replicate (xs.length + 80) 0)).drop (0 + (EInt.css xs).length) = EInt.css (xs ++ List.replicate 80 0) := by
        rw [List.take_zero, List.nil_append, Nat.zero_add, EInt.css_length, ← EInt.css_drop, EInt.css_append, List.drop_replicate]
        congr 3
        omega
      rw [he] at hset
      exact hset
  obtain ⟨w2, hrun, hr2, t2⟩ := hcopy
  clear hr t hrd
  go_wp2_with (at_builtin; refine wpList_copy_run rfl (.tmp 11) (.tmp 12) 38 38 rfl _ _ rfl rfl hrun ?_)
  clear hrun
  go_wp2_with fail
  go_loopg [6] 80 (fun gn i wr => rmR w (.slice (some ⟨b, off, none⟩) (xs.length + 80) cap) xs mk gn i wr)
  case atStart => exact ⟨xs.length, xs ++ List.replicate 80 0, ow1, by omega, Nat.le_refl _, by omega, rfl, by simp, by simp, fun j h1 h2 => by omega, hr2, t2⟩
  case round =>
    clear hr2 t2
    obtain ⟨k, ys, OW, hgk, hk0, hk, rfl, hyl, hyt, hym, hr, t⟩ := hrel
    have Hgk := Lib.hid hgk
    have Hyl := Lib.hid hyl
    have Hyt := Lib.hid hyt
    have Hym := Lib.hid hym
    clear hgk hyl hyt hym
    by_cases hlt : k < xs.length + 80
    · have i0 : (k : Int) < (xs.length : Int) + 80 := by omega
      have i1 : (k : Int) < ((xs.length + 80 : Nat) : Int) := by omega
      obtain ⟨x, hx⟩ : ∃ x, ys[k]? = some x := ⟨_, List.getElem?_eq_getElem (by rw [Hyl.out]; exact hlt)⟩
      obtain ⟨b', off', cap', hv', lb, eu, hfz⟩ := row_at hr Hyl.out k x hx
      simp only [Value.slice.injEq, Option.some.injEq, Addr.mk.injEq, and_true, true_and] at hv'
      obtain ⟨⟨rfl, rfl⟩, rfl⟩ := hv'
      have f0 := hfz (off + k)
      have tk := hr.turn (off + k) (.int .i64 mk)
      have hr' := hr.set k (.int .i64 mk)
      rw [css_cells1 ys 0 mk k] at hr'
      have t' := t.trans tk
      clear hx hr t tk hfz
      go_wp2
      go_roundg (xs.length + 80 - (k + 1))
      case measure => have := Hgk.out; omega
      case rel => exact ⟨k + 1, ys.set k mk, OW, rfl, by omega, by omega, by go_num, by rw [List.length_set]; exact Hyl.out, by rw [List.take_set_of_le (by omega)]; exact Hyt.out, fun j h1 h2 => by
        by_cases e : j = k
        · subst e; rw [List.getElem?_set_self (by rw [Hyl.out]; exact hlt)]
        · rw [List.getElem?_set_ne (fun h => e h.symm)]; exact Hym.out j h1 (by omega), hr', t'⟩
    · obtain rfl : k = xs.length + 80 := by omega
      have hys := fill_at xs mk ys Hyl.out Hyt.out Hym.out
      subst hys
      clear hlt Hgk Hyl Hyt Hym hk0 hk
      go_wp2
      go_ret
      exact ⟨_, ow.ren w.heap.size OW q, rfl, by simpa using hr.ren t ow q, t.new_ ow q⟩

set_option maxHeartbeats 1000000 in
theorem same_no (w : World) (A1 A2 : Option Addr) (c1 c2 : Nat) : Calls Try.prog 26 #[.slice A1 0 c1, .slice A2 0 c2] w fun e w' => e = .returned (.bool true) ∧ ∃ k, w' = w.drewN k := by
  go_enter Try.func26, Try.ntmps26
  go_wp2_with fail
  go_loopg [5] 0 (fun gn i wr => i = .int .i64 0 ∧ wr = w)
  case atStart => exact ⟨rfl, rfl⟩
  case round =>
    obtain ⟨rfl, rfl⟩ := hrel
    go_wp2
    go_ret
    exact ⟨rfl, 0, rfl⟩
theorem sameC (w : World) (v1 : Value) (A : Option Addr) (c : Nat) (xs : List Int) (hn : xs.length ≤ 1000000) (hc : xs.length ≤ c) (h1 : Reads w v1 xs.length (EInt.css xs)) (h2 : EInt.Cov w A (EInt.css xs)) : Calls Try.prog 26 #[v1, .slice A xs.length c] w fun e w' => e = .returned (.bool true) ∧ ∃ k, w' = w.drewN k := by
  by_cases h0 : xs.length = 0
  · obtain ⟨A1, c1, rfl, -⟩ := h1.slice
    rw [h0]
    exact same_no w A1 A c1 c
  · exact EInt.same_yes w v1 _ xs (by omega) h1 (h2.reads (by rw [EInt.css_length]; omega) hc)
set_option maxRecDepth 100000 in
set_option maxHeartbeats 4000000 in
theorem intact (w : World) (ow : Ow) (p : List Nat) (vf : Value) (A : Option Addr) (c : Nat) (xs : List Int) (mk : Int) (hf : Row w ow p 3 1 vf (xs.length + 80) (EInt.css (xs ++ List.replicate 80 mk))) (h : EInt.Cov w A (EInt.css xs)) (hn : xs.length ≤ 1000000) (hc : xs.length ≤ c) : Calls Try.prog 42 #[vf, .slice A xs.length c, .int .i64 mk] w fun e w' => e = .returned (.bool true) ∧ ∃ k, w' = w.drewN k := by
  obtain ⟨b, off, cap, rfl, hc1, hc2, hb, -⟩ := hf.at (by omega)
  obtain ⟨-, -, -, hcell⟩ := hf.open_
  have hrt := hf.readsTo xs.length (by omega)
  rw [← EInt.css_take, List.take_left] at hrt
  have hm : ∀ j, xs.length ≤ j → j < xs.length + 80 → w.cell? ⟨b, off + j, none⟩ = some (.int .i64 mk) := fun j h1 h2 => by
    have := hcell (j * 1 + 0) _ (EInt.css_at _ j mk (by rw [List.getElem?_append_right h1, List.getElem?_replicate, if_pos (by omega)]) 0 _ rfl (by omega))
    simpa using this
  have wr1 : IntKind.i64.wrap ((xs.length : Int) + 80) = (xs.length : Int) + 80 := by rw [IntKind.wrap_i64]; omega
  have hle : (xs.length : Int) ≤ (cap : Int) := by omega
  have Hm := Lib.hid hm
  have Hrt := Lib.hid hrt
  have Hr := Lib.hid h
  clear hm hcell hf hrt h
  go_enter Try.func42, Try.ntmps42
  go_wp2_with fail
  refine (sameC w _ A c xs hn hc Hrt.out Hr.out).mono ?_
  rintro e w1 ⟨rfl, k0, hw1⟩
  have hm1 : ∀ j, xs.length ≤ j → j < xs.length + 80 → w1.cell? ⟨b, off + j, none⟩ = some (.int .i64 mk) := fun j h1 h2 => by rw [hw1]; exact Hm.out j h1 h2
  have Hm1 := Lib.hid hm1
  have Hw1 := Lib.hid hw1
  clear hm1 hw1
  go_wp2_with fail
  go_loopg [7] 80 (fun gn i wr => ∃ k : Nat, gn = xs.length + 80 - k ∧ xs.length ≤ k ∧ k ≤ xs.length + 80 ∧ i = .int .i64 (k : Int) ∧ wr = w1)
  case atStart => exact ⟨xs.length, by omega, Nat.le_refl _, by omega, rfl, rfl⟩
  case round =>
    obtain ⟨k, hgk, hk0, hk, rfl, rfl⟩ := hrel
    have Hgk := Lib.hid hgk
    clear hgk
    by_cases hlt : k < xs.length + 80
    · have i0 : (k : Int) < (xs.length : Int) + 80 := by omega
      have i1 : (k : Int) < ((xs.length + 80 : Nat) : Int) := by omega
      have e0 := Hm1.out k hk0 hlt
      have b1 : (mk == mk) = true := beq_self_eq_true _
      have b2 : (mk != mk) = false := by simp
      go_wp2
      go_roundg (xs.length + 80 - (k + 1))
      case measure => have := Hgk.out; omega
      case rel => exact ⟨k + 1, rfl, by omega, by omega, by go_num, rfl⟩
    · obtain rfl : k = xs.length + 80 := by omega
      clear hlt Hgk hk0 hk
      go_wp2
      go_ret
      exact ⟨rfl, k0, Hw1.out⟩
end RT5
end Go.Proofs.Ytefagdbdimpcdaa
