/-
  KEELREF1.LEVELS: Front and Take.
-/
import Derived.Test.YtppikbdeopagkaaRL
set_option linter.unusedVariables false
set_option linter.unusedSimpArgs false
namespace Go.Proofs.Ytppikbdeopagkaa
open Go Go.RowKit
namespace RL
open EInt

theorem css_erase (xs : List Int) (k : Nat) : (css xs).take (k * 1) ++ (css xs).drop ((k + 1) * 1) = css (xs.eraseIdx k) := by
  rw [← css_take, ← css_drop, ← css_append, List.eraseIdx_eq_take_drop_succ]
theorem map_erase {α β : Type} (f : α → β) (xs : List α) (k : Nat) : (xs.map f).eraseIdx k = (xs.eraseIdx k).map f := by
  rw [List.eraseIdx_eq_take_drop_succ, List.eraseIdx_eq_take_drop_succ, List.map_append, List.map_take, List.map_drop]

set_option maxRecDepth 100000 in
set_option maxHeartbeats 2000000 in
theorem front_none (w : World) (ow : Ow) (p : List Nat) (g n : Nat) (h : Lv w ow p g n []) :
    Calls Try.prog 93 #[.pointer (some ⟨g, 0, none⟩)] w fun e w' => e = .returned (.tuple #[.int .i64 0, .int .i64 0, .bool false]) ∧ Below w.heap.size w w' := by
  have hf := front w ow p g n [] h (by simp)
  have Hf := Lib.hid hf
  clear hf h
  go_enter Try.func93, Try.ntmps93
  go_wp2_with fail
  refine Hf.out.mono ?_
  rintro e w1 ⟨⟨-, rfl⟩ | ⟨b, rfl, hb⟩, bd⟩
  · go_wp2
    refine bodyPost_ret (v := .tuple #[.int .i64 0, .int .i64 0, .bool false]) (by simp [results, Try.results93, go_sem]) rfl ⟨rfl, bd⟩
  · exact absurd hb.1 (by simp)

def FrontP (w : World) (ys : List (Int × Int)) (e : Ending) (w' : World) : Prop := ∃ (b : Nat) (x : Int × Int), ys[b]? = some x ∧ FrTo ys ys.length b ∧ e = .returned (.tuple #[.int .i64 x.1, .int .i64 x.2, .bool true]) ∧ Below w.heap.size w w'
set_option maxRecDepth 100000 in
set_option maxHeartbeats 2000000 in
theorem front_some (w : World) (ow : Ow) (p : List Nat) (g n : Nat) (ys : List (Int × Int)) (h : Lv w ow p g n ys) (h0 : ys ≠ []) (hn : ys.length ≤ 1099511627776) :
    Calls Try.prog 93 #[.pointer (some ⟨g, 0, none⟩)] w (FrontP w ys) := by
  have hf := front w ow p g n ys h hn
  have Hf := Lib.hid hf
  have H := Lib.hid h
  clear hf h
  go_enter Try.func93, Try.ntmps93
  go_wp2_with fail
  refine Hf.out.mono ?_
  rintro e w1 ⟨⟨hy, -⟩ | ⟨b, rfl, hb⟩, bd⟩
  · exact absurd hy h0
  · have hbl := hb.1
    obtain ⟨x, hx⟩ : ∃ x, ys[b]? = some x := ⟨_, List.getElem?_eq_getElem hbl⟩
    obtain ⟨vl, vx, hc, hr1, hr2⟩ := H.out.new_ (bd.nw ow)
    obtain ⟨g1, off1, cap1, rfl, -, -, -, -⟩ := hr1.at (by omega)
    obtain ⟨-, -, -, hcell1⟩ := hr1.open_
    obtain ⟨g2, off2, cap2, rfl, -, -, -, -⟩ := hr2.at (by omega)
    obtain ⟨-, -, -, hcell2⟩ := hr2.open_
    have e1 := hcell1 (b * 1 + 0) _ (css_at _ b x.1 (by rw [List.getElem?_map, hx]; rfl) 0 _ rfl (by omega))
    have e2 := hcell2 (b * 1 + 0) _ (css_at _ b x.2 (by rw [List.getElem?_map, hx]; rfl) 0 _ rfl (by omega))
    simp only [Nat.mul_one, Nat.add_zero] at e1 e2
    have c1 := hc.get 1 rfl
    have c2 := hc.get 2 rfl
    simp only [Nat.zero_add] at c1 c2
    have i0 : ¬ (b : Int) < 0 := by omega
    have i1 : (b : Int) < (ys.length : Int) := by omega
    have Hb := Lib.hid hb
    have Hx := Lib.hid hx
    clear hcell1 hcell2 hr1 hr2 hc hb hx Hf
    go_wp2_with fail
    refine plain_regionN (fun W' => W'.cell? ⟨g, 1, none⟩ = some (.slice (some ⟨g1, off1, none⟩) ys.length cap1) ∧ W'.cell? ⟨g, 2, none⟩ = some (.slice (some ⟨g2, off2, none⟩) ys.length cap2) ∧ W'.cell? ⟨g1, off1 + b, none⟩ = some (.int .i64 x.1) ∧ W'.cell? ⟨g2, off2 + b, none⟩ = some (.int .i64 x.2)) [] (by kernel_rfl) ?_
    have hS : (fun W' : World => W'.cell? ⟨g, 1, none⟩ = some (.slice (some ⟨g1, off1, none⟩) ys.length cap1) ∧ W'.cell? ⟨g, 2, none⟩ = some (.slice (some ⟨g2, off2, none⟩) ys.length cap2) ∧ W'.cell? ⟨g1, off1 + b, none⟩ = some (.int .i64 x.1) ∧ W'.cell? ⟨g2, off2 + b, none⟩ = some (.int .i64 x.2)) w1.drew := ⟨c1, c2, e1, e2⟩
    refine anyX_takeNL 0 (v := ?_) rfl rfl (by as_aux_lemma => kernel_rfl) (by as_aux_lemma => kernel_rfl) (by as_aux_lemma => kernel_rfl) (by as_aux_lemma => kernel_rfl) (by as_aux_lemma => kernel_rfl) (fun _ _ _ h => h) rfl ?_ hS ?_
    rotate_left
    · intro W' hW'
      obtain ⟨s0, s1, s2, s3⟩ := hW'
      all_goals (go_simp; first | done | rfl)
    intro l' hl
    dsimp only [List.set_cons_succ, List.set_cons_zero] at hl
    subst hl
    refine anyX_takeNL 1 (v := ?_) rfl rfl (by as_aux_lemma => kernel_rfl) (by as_aux_lemma => kernel_rfl) (by as_aux_lemma => kernel_rfl) (by as_aux_lemma => kernel_rfl) (by as_aux_lemma => kernel_rfl) (fun _ _ _ h => h) rfl ?_ hS ?_
    rotate_left
    · intro W' hW'
      obtain ⟨s0, s1, s2, s3⟩ := hW'
      all_goals (go_simp; first | done | rfl)
    intro l' hl
    dsimp only [List.set_cons_succ, List.set_cons_zero] at hl
    subst hl
    refine anyX_takeNL 2 (v := ?_) rfl rfl (by as_aux_lemma => kernel_rfl) (by as_aux_lemma => kernel_rfl) (by as_aux_lemma => kernel_rfl) (by as_aux_lemma => kernel_rfl) (by as_aux_lemma => kernel_rfl) (fun _ _ _ h => h) rfl ?_ hS ?_
    rotate_left
    · intro W' hW'
      obtain ⟨s0, s1, s2, s3⟩ := hW'
      all_goals (go_simp; first | done | rfl)
    intro l' hl
    dsimp only [List.set_cons_succ, List.set_cons_zero] at hl
    subst hl
    refine anyX_takeNL 3 (v := ?_) rfl rfl (by as_aux_lemma => kernel_rfl) (by as_aux_lemma => kernel_rfl) (by as_aux_lemma => kernel_rfl) (by as_aux_lemma => kernel_rfl) (by as_aux_lemma => kernel_rfl) (fun _ _ _ h => h) rfl ?_ hS ?_
    rotate_left
    · intro W' hW'
      obtain ⟨s0, s1, s2, s3⟩ := hW'
      all_goals (go_simp; first | done | rfl)
    intro l' hl
    dsimp only [List.set_cons_succ, List.set_cons_zero] at hl
    subst hl
    refine anyX_takeNL 4 (v := ?_) rfl rfl (by as_aux_lemma => kernel_rfl) (by as_aux_lemma => kernel_rfl) (by as_aux_lemma => kernel_rfl) (by as_aux_lemma => kernel_rfl) (by as_aux_lemma => kernel_rfl) (fun _ _ _ h => h) rfl ?_ hS ?_
    rotate_left
    · intro W' hW'
      obtain ⟨s0, s1, s2, s3⟩ := hW'
      all_goals (go_simp; first | done | rfl)
    intro l' hl
    dsimp only [List.set_cons_succ, List.set_cons_zero] at hl
    subst hl
    refine anyX_takeNL 5 (v := ?_) rfl rfl (by as_aux_lemma => kernel_rfl) (by as_aux_lemma => kernel_rfl) (by as_aux_lemma => kernel_rfl) (by as_aux_lemma => kernel_rfl) (by as_aux_lemma => kernel_rfl) (fun _ _ _ h => h) rfl ?_ hS ?_
    rotate_left
    · intro W' hW'
      obtain ⟨s0, s1, s2, s3⟩ := hW'
      all_goals (go_simp; first | done | rfl)
    intro l' hl
    dsimp only [List.set_cons_succ, List.set_cons_zero] at hl
    subst hl
    refine anyX_takeNL 6 (v := ?_) rfl rfl (by as_aux_lemma => kernel_rfl) (by as_aux_lemma => kernel_rfl) (by as_aux_lemma => kernel_rfl) (by as_aux_lemma => kernel_rfl) (by as_aux_lemma => kernel_rfl) (fun _ _ _ h => h) rfl ?_ hS ?_
    rotate_left
    · intro W' hW'
      obtain ⟨s0, s1, s2, s3⟩ := hW'
      all_goals (go_simp; first | done | rfl)
    intro l' hl
    dsimp only [List.set_cons_succ, List.set_cons_zero] at hl
    subst hl
    refine anyX_takeNL 7 (v := ?_) rfl rfl (by as_aux_lemma => kernel_rfl) (by as_aux_lemma => kernel_rfl) (by as_aux_lemma => kernel_rfl) (by as_aux_lemma => kernel_rfl) (by as_aux_lemma => kernel_rfl) (fun _ _ _ h => h) rfl ?_ hS ?_
    rotate_left
    · intro W' hW'
      obtain ⟨s0, s1, s2, s3⟩ := hW'
      all_goals (go_simp; first | done | rfl)
    intro l' hl
    dsimp only [List.set_cons_succ, List.set_cons_zero] at hl
    subst hl
    refine anyX_takeNL 8 (v := ?_) rfl rfl (by as_aux_lemma => kernel_rfl) (by as_aux_lemma => kernel_rfl) (by as_aux_lemma => kernel_rfl) (by as_aux_lemma => kernel_rfl) (by as_aux_lemma => kernel_rfl) (fun _ _ _ h => h) rfl ?_ hS ?_
    rotate_left
    · intro W' hW'
      obtain ⟨s0, s1, s2, s3⟩ := hW'
      all_goals (go_simp; first | done | rfl)
    intro l' hl
    dsimp only [List.set_cons_succ, List.set_cons_zero] at hl
    subst hl
    refine anyX_takeNL 9 (v := ?_) rfl rfl (by as_aux_lemma => kernel_rfl) (by as_aux_lemma => kernel_rfl) (by as_aux_lemma => kernel_rfl) (by as_aux_lemma => kernel_rfl) (by as_aux_lemma => kernel_rfl) (fun _ _ _ h => h) rfl ?_ hS ?_
    rotate_left
    · intro W' hW'
      obtain ⟨s0, s1, s2, s3⟩ := hW'
      all_goals (go_simp; first | done | rfl)
    intro l' hl
    dsimp only [List.set_cons_succ, List.set_cons_zero] at hl
    subst hl
    refine anyX_takeNL 10 (v := ?_) rfl rfl (by as_aux_lemma => kernel_rfl) (by as_aux_lemma => kernel_rfl) (by as_aux_lemma => kernel_rfl) (by as_aux_lemma => kernel_rfl) (by as_aux_lemma => kernel_rfl) (fun _ _ _ h => h) rfl ?_ hS ?_
    rotate_left
    · intro W' hW'
      obtain ⟨s0, s1, s2, s3⟩ := hW'
      all_goals (go_simp; first | done | rfl)
    intro l' hl
    dsimp only [List.set_cons_succ, List.set_cons_zero] at hl
    subst hl
    refine anyX_takeNL 11 (v := ?_) rfl rfl (by as_aux_lemma => kernel_rfl) (by as_aux_lemma => kernel_rfl) (by as_aux_lemma => kernel_rfl) (by as_aux_lemma => kernel_rfl) (by as_aux_lemma => kernel_rfl) (fun _ _ _ h => h) rfl ?_ hS ?_
    rotate_left
    · intro W' hW'
      obtain ⟨s0, s1, s2, s3⟩ := hW'
      all_goals (go_simp; first | done | rfl)
    intro l' hl
    dsimp only [List.set_cons_succ, List.set_cons_zero] at hl
    subst hl
    refine anyX_takeNL 12 (v := ?_) rfl rfl (by as_aux_lemma => kernel_rfl) (by as_aux_lemma => kernel_rfl) (by as_aux_lemma => kernel_rfl) (by as_aux_lemma => kernel_rfl) (by as_aux_lemma => kernel_rfl) (fun _ _ _ h => h) rfl ?_ hS ?_
    rotate_left
    · intro W' hW'
      obtain ⟨s0, s1, s2, s3⟩ := hW'
      all_goals (go_simp; first | done | rfl)
    intro l' hl
    dsimp only [List.set_cons_succ, List.set_cons_zero] at hl
    subst hl
    refine anyX_takeNL 13 (v := ?_) rfl rfl (by as_aux_lemma => kernel_rfl) (by as_aux_lemma => kernel_rfl) (by as_aux_lemma => kernel_rfl) (by as_aux_lemma => kernel_rfl) (by as_aux_lemma => kernel_rfl) (fun _ _ _ h => h) rfl ?_ hS ?_
    rotate_left
    · intro W' hW'
      obtain ⟨s0, s1, s2, s3⟩ := hW'
      all_goals (go_simp; first | done | rfl)
    intro l' hl
    dsimp only [List.set_cons_succ, List.set_cons_zero] at hl
    subst hl
    refine anyX_takeNL 14 (v := ?_) rfl rfl (by as_aux_lemma => kernel_rfl) (by as_aux_lemma => kernel_rfl) (by as_aux_lemma => kernel_rfl) (by as_aux_lemma => kernel_rfl) (by as_aux_lemma => kernel_rfl) (fun _ _ _ h => h) rfl ?_ hS ?_
    rotate_left
    · intro W' hW'
      obtain ⟨s0, s1, s2, s3⟩ := hW'
      all_goals (go_simp; first | done | rfl)
    intro l' hl
    dsimp only [List.set_cons_succ, List.set_cons_zero] at hl
    subst hl
    refine anyX_takeNL 15 (v := ?_) rfl rfl (by as_aux_lemma => kernel_rfl) (by as_aux_lemma => kernel_rfl) (by as_aux_lemma => kernel_rfl) (by as_aux_lemma => kernel_rfl) (by as_aux_lemma => kernel_rfl) (fun _ _ _ h => h) rfl ?_ hS ?_
    rotate_left
    · intro W' hW'
      obtain ⟨s0, s1, s2, s3⟩ := hW'
      all_goals (go_simp; first | done | rfl)
    intro l' hl
    dsimp only [List.set_cons_succ, List.set_cons_zero] at hl
    subst hl
    refine anyX_takeNL 16 (v := ?_) rfl rfl (by as_aux_lemma => kernel_rfl) (by as_aux_lemma => kernel_rfl) (by as_aux_lemma => kernel_rfl) (by as_aux_lemma => kernel_rfl) (by as_aux_lemma => kernel_rfl) (fun _ _ _ h => h) rfl ?_ hS ?_
    rotate_left
    · intro W' hW'
      obtain ⟨s0, s1, s2, s3⟩ := hW'
      all_goals (go_simp; first | done | rfl)
    intro l' hl
    dsimp only [List.set_cons_succ, List.set_cons_zero] at hl
    subst hl
    refine anyX_done (by kernel_rfl) ?_ _
    refine NoPanic.normal ?_
    clear hS
    go_wp2
    refine bodyPost_ret (v := .tuple #[.int .i64 x.1, .int .i64 x.2, .bool true]) (by simp [results, Try.results93, go_sem]) rfl ⟨b, x, Hx.out, Hb.out, rfl, bd.drew⟩

set_option maxRecDepth 100000 in
set_option maxHeartbeats 2000000 in
theorem take_none (w : World) (ow : Ow) (p : List Nat) (g n : Nat) (h : Lv w ow p g n []) :
    Calls Try.prog 91 #[.pointer (some ⟨g, 0, none⟩)] w fun e w' => e = .returned (.tuple #[.int .i64 0, .int .i64 0, .bool false]) ∧ Below w.heap.size w w' := by
  have hf := front w ow p g n [] h (by simp)
  have Hf := Lib.hid hf
  clear hf h
  go_enter Try.func91, Try.ntmps91
  go_wp2_with fail
  refine Hf.out.mono ?_
  rintro e w1 ⟨⟨-, rfl⟩ | ⟨b, rfl, hb⟩, bd⟩
  · go_wp2
    refine bodyPost_ret (v := .tuple #[.int .i64 0, .int .i64 0, .bool false]) (by simp [results, Try.results91, go_sem]) rfl ⟨rfl, bd⟩
  · exact absurd hb.1 (by simp)

def TakeP (w : World) (ow : Ow) (p : List Nat) (g n : Nat) (ys : List (Int × Int)) (e : Ending) (w' : World) : Prop := ∃ (b : Nat) (x : Int × Int) (ow' : Ow), ys[b]? = some x ∧ FrTo ys ys.length b ∧ e = .returned (.tuple #[.int .i64 x.1, .int .i64 x.2, .bool true]) ∧ Lv w' ow' p g n (ys.eraseIdx b) ∧ Turn p w ow w' ow'
set_option maxRecDepth 100000 in
set_option maxHeartbeats 4000000 in
theorem take_some (w : World) (ow : Ow) (p : List Nat) (g n : Nat) (ys : List (Int × Int)) (h : Lv w ow p g n ys) (h0 : ys ≠ []) (hn : ys.length ≤ 1099511627776) :
    Calls Try.prog 91 #[.pointer (some ⟨g, 0, none⟩)] w (TakeP w ow p g n ys) := by
  have hf := front w ow p g n ys h hn
  have Hf := Lib.hid hf
  have H := Lib.hid h
  clear hf h
  go_enter Try.func91, Try.ntmps91
  go_wp2_with fail
  refine Hf.out.mono ?_
  rintro e w1 ⟨⟨hy, -⟩ | ⟨b, rfl, hb⟩, bd⟩
  · exact absurd hy h0
  · have hbl := hb.1
    obtain ⟨x, hx⟩ : ∃ x, ys[b]? = some x := ⟨_, List.getElem?_eq_getElem hbl⟩
    obtain ⟨vl, vx, hc, hr1, hr2⟩ := H.out.new_ (bd.nw ow)
    have t := (bd.nw ow).turn p
    obtain ⟨g1, off1, cap1, rfl, hcl1, hcm1, hbl1, -⟩ := hr1.at (by omega)
    obtain ⟨-, -, -, hcell1⟩ := hr1.open_
    obtain ⟨g2, off2, cap2, rfl, hcl2, hcm2, hbl2, -⟩ := hr2.at (by omega)
    obtain ⟨-, -, -, hcell2⟩ := hr2.open_
    have e1 := hcell1 (b * 1 + 0) _ (css_at _ b x.1 (by rw [List.getElem?_map, hx]; rfl) 0 _ rfl (by omega))
    have e2 := hcell2 (b * 1 + 0) _ (css_at _ b x.2 (by rw [List.getElem?_map, hx]; rfl) 0 _ rfl (by omega))
    simp only [Nat.mul_one, Nat.add_zero] at e1 e2
    have c1 := hc.get 1 rfl
    have c2 := hc.get 2 rfl
    simp only [Nat.zero_add] at c1 c2
    have i0 : ¬ (b : Int) < 0 := by omega
    have i1 : (b : Int) < (ys.length : Int) := by omega
    have hk1 : (b : Int) + 1 ≤ (ys.length : Int) := by omega
    have hk2 : (0 : Int) ≤ (b : Int) + 1 := by omega
    have hj1 : (b : Int) ≤ (cap1 : Int) := by omega
    have hj2 : (b : Int) ≤ (cap2 : Int) := by omega
    have ht1 : ((b : Int) + 1).toNat = b + 1 := by omega
    have hwr : IntKind.i64.wrap ((b : Int) + 1) = (b : Int) + 1 := by rw [IntKind.wrap_i64]; omega
    have hel : b + (ys.length - (b + 1)) = (ys.eraseIdx b).length := by rw [List.length_eraseIdx, if_pos hbl]; omega
    have Hel := Lib.hid hel
    have Hb := Lib.hid hb
    have Hx := Lib.hid hx
    clear hcell1 hcell2 hb hx Hf hel H
    go_upto_region 6 with fail
    clear c1 c2 e1 e2
    obtain ⟨A', hA, hrd⟩ := hr1.readsFrom_ (b + 1) (by omega)
    rw [Nat.mul_one (b + 1)] at hA
    have hrt := hr1.readsTo b (by omega)
    have c0 := hc.get 1 rfl
    simp only [Nat.zero_add] at c0
    refine plain_regionN (fun W' : World => W'.cell? ⟨g, 1, none⟩ = some (.slice (some ⟨g1, off1, none⟩) ys.length cap1)) [19] (by kernel_rfl) ?_
    have hS : (fun W' : World => W'.cell? ⟨g, 1, none⟩ = some (.slice (some ⟨g1, off1, none⟩) ys.length cap1)) w1.drew := c0
    refine anyX_takeNL 0 (v := ?_) rfl rfl (by as_aux_lemma => kernel_rfl) (by as_aux_lemma => kernel_rfl) (by as_aux_lemma => kernel_rfl) (by as_aux_lemma => kernel_rfl) (by as_aux_lemma => kernel_rfl) (fun _ _ _ h => h) rfl ?_ hS ?_
    rotate_left
    · intro W' hW'
      obtain hW' := hW'
      all_goals (go_simp; first | done | rfl)
    intro l' hl
    dsimp only [List.set_cons_succ, List.set_cons_zero] at hl
    subst hl
    refine anyX_takeNL 2 (v := ?_) rfl rfl (by as_aux_lemma => kernel_rfl) (by as_aux_lemma => kernel_rfl) (by as_aux_lemma => kernel_rfl) (by as_aux_lemma => kernel_rfl) (by as_aux_lemma => kernel_rfl) (fun _ _ _ h => h) rfl ?_ hS ?_
    rotate_left
    · intro W' hW'
      obtain hW' := hW'
      all_goals (go_simp; first | done | rfl)
    intro l' hl
    dsimp only [List.set_cons_succ, List.set_cons_zero] at hl
    subst hl
    refine anyX_takeNL 3 (v := ?_) rfl rfl (by as_aux_lemma => kernel_rfl) (by as_aux_lemma => kernel_rfl) (by as_aux_lemma => kernel_rfl) (by as_aux_lemma => kernel_rfl) (by as_aux_lemma => kernel_rfl) (fun _ _ _ h => h) rfl ?_ hS ?_
    rotate_left
    · intro W' hW'
      obtain hW' := hW'
      all_goals (go_simp; first | done | rfl)
    intro l' hl
    dsimp only [List.set_cons_succ, List.set_cons_zero] at hl
    subst hl
    refine anyX_takeNL 4 (v := ?_) rfl rfl (by as_aux_lemma => kernel_rfl) (by as_aux_lemma => kernel_rfl) (by as_aux_lemma => kernel_rfl) (by as_aux_lemma => kernel_rfl) (by as_aux_lemma => kernel_rfl) (fun _ _ _ h => h) rfl ?_ hS ?_
    rotate_left
    · intro W' hW'
      obtain hW' := hW'
      all_goals (go_simp; first | done | rfl)
    intro l' hl
    dsimp only [List.set_cons_succ, List.set_cons_zero] at hl
    subst hl
    refine anyX_takeNL 5 (v := ?_) rfl rfl (by as_aux_lemma => kernel_rfl) (by as_aux_lemma => kernel_rfl) (by as_aux_lemma => kernel_rfl) (by as_aux_lemma => kernel_rfl) (by as_aux_lemma => kernel_rfl) (fun _ _ _ h => h) rfl ?_ hS ?_
    rotate_left
    · intro W' hW'
      obtain hW' := hW'
      all_goals (go_simp; first | done | rfl)
    intro l' hl
    dsimp only [List.set_cons_succ, List.set_cons_zero] at hl
    subst hl
    refine anyX_takeNL 6 (v := ?_) rfl rfl (by as_aux_lemma => kernel_rfl) (by as_aux_lemma => kernel_rfl) (by as_aux_lemma => kernel_rfl) (by as_aux_lemma => kernel_rfl) (by as_aux_lemma => kernel_rfl) (fun _ _ _ h => h) rfl ?_ hS ?_
    rotate_left
    · intro W' hW'
      obtain hW' := hW'
      all_goals (go_simp; first | done | rfl)
    intro l' hl
    dsimp only [List.set_cons_succ, List.set_cons_zero] at hl
    subst hl
    refine anyX_takeNL 7 (v := ?_) rfl rfl (by as_aux_lemma => kernel_rfl) (by as_aux_lemma => kernel_rfl) (by as_aux_lemma => kernel_rfl) (by as_aux_lemma => kernel_rfl) (by as_aux_lemma => kernel_rfl) (fun _ _ _ h => h) rfl ?_ hS ?_
    rotate_left
    · intro W' hW'
      obtain hW' := hW'
      all_goals (go_simp; first | done | rfl)
    intro l' hl
    dsimp only [List.set_cons_succ, List.set_cons_zero] at hl
    subst hl
    refine anyX_takeNL 9 (v := ?_) rfl rfl (by as_aux_lemma => kernel_rfl) (by as_aux_lemma => kernel_rfl) (by as_aux_lemma => kernel_rfl) (by as_aux_lemma => kernel_rfl) (by as_aux_lemma => kernel_rfl) (fun _ _ _ h => h) rfl ?_ hS ?_
    rotate_left
    · intro W' hW'
      obtain hW' := hW'
      all_goals (go_simp; first | done | rfl)
    intro l' hl
    dsimp only [List.set_cons_succ, List.set_cons_zero] at hl
    subst hl
    refine anyX_takeNL 10 (v := ?_) rfl rfl (by as_aux_lemma => kernel_rfl) (by as_aux_lemma => kernel_rfl) (by as_aux_lemma => kernel_rfl) (by as_aux_lemma => kernel_rfl) (by as_aux_lemma => kernel_rfl) (fun _ _ _ h => h) rfl ?_ hS ?_
    rotate_left
    · intro W' hW'
      obtain hW' := hW'
      all_goals (go_simp; first | done | rfl)
    intro l' hl
    dsimp only [List.set_cons_succ, List.set_cons_zero] at hl
    subst hl
    refine anyX_takeNL 11 (v := ?_) rfl rfl (by as_aux_lemma => kernel_rfl) (by as_aux_lemma => kernel_rfl) (by as_aux_lemma => kernel_rfl) (by as_aux_lemma => kernel_rfl) (by as_aux_lemma => kernel_rfl) (fun _ _ _ h => h) rfl ?_ hS ?_
    rotate_left
    · intro W' hW'
      obtain hW' := hW'
      all_goals (go_simp; first | done | rfl)
    intro l' hl
    dsimp only [List.set_cons_succ, List.set_cons_zero] at hl
    subst hl
    refine anyX_takeNL 12 (v := ?_) rfl rfl (by as_aux_lemma => kernel_rfl) (by as_aux_lemma => kernel_rfl) (by as_aux_lemma => kernel_rfl) (by as_aux_lemma => kernel_rfl) (by as_aux_lemma => kernel_rfl) (fun _ _ _ h => h) rfl ?_ hS ?_
    rotate_left
    · intro W' hW'
      obtain hW' := hW'
      all_goals (go_simp; first | done | rfl)
    intro l' hl
    dsimp only [List.set_cons_succ, List.set_cons_zero] at hl
    subst hl
    refine anyX_takeNL 13 (v := ?_) rfl rfl (by as_aux_lemma => kernel_rfl) (by as_aux_lemma => kernel_rfl) (by as_aux_lemma => kernel_rfl) (by as_aux_lemma => kernel_rfl) (by as_aux_lemma => kernel_rfl) (fun _ _ _ h => h) rfl ?_ hS ?_
    rotate_left
    · intro W' hW'
      obtain hW' := hW'
      all_goals (go_simp; first | done | rfl)
    intro l' hl
    dsimp only [List.set_cons_succ, List.set_cons_zero] at hl
    subst hl
    refine anyX_takeNL 14 (v := ?_) rfl rfl (by as_aux_lemma => kernel_rfl) (by as_aux_lemma => kernel_rfl) (by as_aux_lemma => kernel_rfl) (by as_aux_lemma => kernel_rfl) (by as_aux_lemma => kernel_rfl) (fun _ _ _ h => h) rfl ?_ hS ?_
    rotate_left
    · intro W' hW'
      obtain hW' := hW'
      all_goals (go_simp; first | done | rfl)
    intro l' hl
    dsimp only [List.set_cons_succ, List.set_cons_zero] at hl
    subst hl
    refine anyX_takeNL 15 (v := ?_) rfl rfl (by as_aux_lemma => kernel_rfl) (by as_aux_lemma => kernel_rfl) (by as_aux_lemma => kernel_rfl) (by as_aux_lemma => kernel_rfl) (by as_aux_lemma => kernel_rfl) (fun _ _ _ h => h) rfl ?_ hS ?_
    rotate_left
    · intro W' hW'
      obtain hW' := hW'
      all_goals (go_simp; first | done | rfl)
    intro l' hl
    dsimp only [List.set_cons_succ, List.set_cons_zero] at hl
    subst hl
    refine anyX_one (i := 1) (by kernel_rfl) rfl rfl fun K' hK' => ?_
    unfold Oper.wp
    go_simp
    refine hK' _ _ (fun _ => cell_alloc hS _) ?_
    clear hK' K'
    refine anyX_one (i := 8) (by kernel_rfl) rfl rfl fun K' hK' => ?_
    refine wp_append_row (.tmp 27) (.tmp 33) 22 22 rfl 3 _ 1 8 Try.underlying22 info rfl rfl (Row.new0 w1.drew ow0 [1] 3 1) rfl ((hrt.drew.new_ ((Below.refl _ _).alloc (Nat.le_refl _) _)).src Try.underlying22 (by rw [← css_take, css_length, List.length_take, List.length_map]; omega) (fun u hu => css_one (ys.map (·.1)) u (List.mem_of_mem_take hu))) (by unfold maxLen; omega) (by omega) ?_
    intro v3 w3 ow3 hr3 t3
    have t3 := ((Turn.refl [1] w1.drew ow0).alloc (.cells #[] 3) [1]).trans t3
    have n3 := t3.new_ ow [1]
    simp only [Nat.zero_add, List.nil_append] at hr3
    obtain ⟨A3, c3, rfl, hnc3⟩ := hr3.slice
    have hS3 : (fun W' : World => W'.cell? ⟨g, 1, none⟩ = some (.slice (some ⟨g1, off1, none⟩) ys.length cap1)) w3 := by have := (hc.drew.new_ n3).get 1 rfl; simpa only [Nat.zero_add] using this
    change K' (Act.put _ (some 34) _) _
    refine hK' _ _ (fun _ => hS3) ?_
    clear hK' K'
    simp only [Act.put, List.setIfInBounds_toArray, List.set_cons_succ, List.set_cons_zero]
    refine anyX_one (i := 16) (by kernel_rfl) rfl rfl fun K' hK' => ?_
    refine wp_append_row (.tmp 34) (.tmp 41) 22 22 rfl 3 _ 1 8 Try.underlying22 info rfl rfl hr3 rfl ((hrd.drew.new_ n3.below).src Try.underlying22 (by rw [← css_drop, css_length, List.length_drop, List.length_map]) (fun u hu => css_one (ys.map (·.1)) u (List.mem_of_mem_drop hu))) (by unfold maxLen; omega) (by omega) ?_
    intro v4 w4 ow4 hr4 t4
    have t4 := t3.trans t4
    have n4 := t4.new_ ow (p ++ [1])
    have hr5 := hr4.ren t4 ow (p ++ [1])
    generalize ow.ren w1.drew.heap.size ow4 (p ++ [1]) = ow5 at *
    rw [css_erase, map_erase, List.append_nil, Hel.out] at hr5
    clear hr4 t3 hr3 hrd hrt n3 hS3 hS
    obtain ⟨A4, c4, rfl, -⟩ := hr5.slice
    have hc4 := hc.drew.new_ n4
    have hS : (fun W' : World => W'.cell? ⟨g, 1, none⟩ = some (.slice (some ⟨g1, off1, none⟩) ys.length cap1)) w4 := by have := hc4.get 1 rfl; simpa only [Nat.zero_add] using this
    change K' (Act.put _ (some 42) _) _
    refine hK' _ _ (fun _ => hS) ?_
    clear hK' K'
    simp only [Act.put, List.setIfInBounds_toArray, List.set_cons_succ, List.set_cons_zero]
    refine anyX_one (i := 17) (by kernel_rfl) rfl rfl fun K' hK' => ?_
    unfold Oper.wp
    go_simp
    refine hK' _ _ (fun _ => hS) ?_
    clear hK' K'
    refine anyX_one (i := 18) (by kernel_rfl) rfl rfl fun K' hK' => ?_
    unfold Oper.wp
    go_simp
    refine hK' _ _ (fun _ => hS) ?_
    clear hK' K'
    have c0' := hc4.get 1 rfl
    have f0 := hc4.free 1
    have lg4 := hc4.lt
    simp only [Nat.zero_add] at c0'
    refine anyX_one (i := 19) (by kernel_rfl) rfl rfl fun K' hK' => ?_
    unfold Oper.wp
    go_simp
    refine hK' _ _ (fun hf => by cases hf) (anyX_done (by kernel_rfl) ?_ _)
    refine NoPanic.normal ?_
    clear hK' K'
    have tb := hc4.turn 1 (.slice A4 (ys.eraseIdx b).length c4) (by simp)
    have hc5 := hc4.set 1 (.slice A4 (ys.eraseIdx b).length c4) (by simp)
    have hr6 := hr5.keep tb (by simp)
    have ho6 := (hr2.drew.new_ n4).keep tb (by simp)
    have t6 := (t.drew.trans (n4.turn p)).trans (tb.up (by simp))
    simp only [Nat.zero_add] at tb hc5 hr6 ho6 t6
    generalize w4.setCell ⟨g, 1, none⟩ (.slice A4 (ys.eraseIdx b).length c4) = w6 at *
    clear hc4 c0' f0 lg4 tb hr5 n4 t4 hS hc t c0 hr1 hr2 hA
    have hc := hc5
    have t := t6
    have hr1 := hr6
    have hr2 := ho6
    clear hc5 t6 hr6 ho6
    go_upto_region 7 with fail
    obtain ⟨A', hA, hrd⟩ := hr2.readsFrom_ (b + 1) (by omega)
    rw [Nat.mul_one (b + 1)] at hA
    have hrt := hr2.readsTo b (by omega)
    have c0 := hc.get 2 rfl
    simp only [Nat.zero_add] at c0
    refine plain_regionN (fun W' : World => W'.cell? ⟨g, 2, none⟩ = some (.slice (some ⟨g2, off2, none⟩) ys.length cap2)) [19] (by kernel_rfl) ?_
    have hS : (fun W' : World => W'.cell? ⟨g, 2, none⟩ = some (.slice (some ⟨g2, off2, none⟩) ys.length cap2)) w6.drew := c0
    refine anyX_takeNL 0 (v := ?_) rfl rfl (by as_aux_lemma => kernel_rfl) (by as_aux_lemma => kernel_rfl) (by as_aux_lemma => kernel_rfl) (by as_aux_lemma => kernel_rfl) (by as_aux_lemma => kernel_rfl) (fun _ _ _ h => h) rfl ?_ hS ?_
    rotate_left
    · intro W' hW'
      obtain hW' := hW'
      all_goals (go_simp; first | done | rfl)
    intro l' hl
    dsimp only [List.set_cons_succ, List.set_cons_zero] at hl
    subst hl
    refine anyX_takeNL 2 (v := ?_) rfl rfl (by as_aux_lemma => kernel_rfl) (by as_aux_lemma => kernel_rfl) (by as_aux_lemma => kernel_rfl) (by as_aux_lemma => kernel_rfl) (by as_aux_lemma => kernel_rfl) (fun _ _ _ h => h) rfl ?_ hS ?_
    rotate_left
    · intro W' hW'
      obtain hW' := hW'
      all_goals (go_simp; first | done | rfl)
    intro l' hl
    dsimp only [List.set_cons_succ, List.set_cons_zero] at hl
    subst hl
    refine anyX_takeNL 3 (v := ?_) rfl rfl (by as_aux_lemma => kernel_rfl) (by as_aux_lemma => kernel_rfl) (by as_aux_lemma => kernel_rfl) (by as_aux_lemma => kernel_rfl) (by as_aux_lemma => kernel_rfl) (fun _ _ _ h => h) rfl ?_ hS ?_
    rotate_left
    · intro W' hW'
      obtain hW' := hW'
      all_goals (go_simp; first | done | rfl)
    intro l' hl
    dsimp only [List.set_cons_succ, List.set_cons_zero] at hl
    subst hl
    refine anyX_takeNL 4 (v := ?_) rfl rfl (by as_aux_lemma => kernel_rfl) (by as_aux_lemma => kernel_rfl) (by as_aux_lemma => kernel_rfl) (by as_aux_lemma => kernel_rfl) (by as_aux_lemma => kernel_rfl) (fun _ _ _ h => h) rfl ?_ hS ?_
    rotate_left
    · intro W' hW'
      obtain hW' := hW'
      all_goals (go_simp; first | done | rfl)
    intro l' hl
    dsimp only [List.set_cons_succ, List.set_cons_zero] at hl
    subst hl
    refine anyX_takeNL 5 (v := ?_) rfl rfl (by as_aux_lemma => kernel_rfl) (by as_aux_lemma => kernel_rfl) (by as_aux_lemma => kernel_rfl) (by as_aux_lemma => kernel_rfl) (by as_aux_lemma => kernel_rfl) (fun _ _ _ h => h) rfl ?_ hS ?_
    rotate_left
    · intro W' hW'
      obtain hW' := hW'
      all_goals (go_simp; first | done | rfl)
    intro l' hl
    dsimp only [List.set_cons_succ, List.set_cons_zero] at hl
    subst hl
    refine anyX_takeNL 6 (v := ?_) rfl rfl (by as_aux_lemma => kernel_rfl) (by as_aux_lemma => kernel_rfl) (by as_aux_lemma => kernel_rfl) (by as_aux_lemma => kernel_rfl) (by as_aux_lemma => kernel_rfl) (fun _ _ _ h => h) rfl ?_ hS ?_
    rotate_left
    · intro W' hW'
      obtain hW' := hW'
      all_goals (go_simp; first | done | rfl)
    intro l' hl
    dsimp only [List.set_cons_succ, List.set_cons_zero] at hl
    subst hl
    refine anyX_takeNL 7 (v := ?_) rfl rfl (by as_aux_lemma => kernel_rfl) (by as_aux_lemma => kernel_rfl) (by as_aux_lemma => kernel_rfl) (by as_aux_lemma => kernel_rfl) (by as_aux_lemma => kernel_rfl) (fun _ _ _ h => h) rfl ?_ hS ?_
    rotate_left
    · intro W' hW'
      obtain hW' := hW'
      all_goals (go_simp; first | done | rfl)
    intro l' hl
    dsimp only [List.set_cons_succ, List.set_cons_zero] at hl
    subst hl
    refine anyX_takeNL 9 (v := ?_) rfl rfl (by as_aux_lemma => kernel_rfl) (by as_aux_lemma => kernel_rfl) (by as_aux_lemma => kernel_rfl) (by as_aux_lemma => kernel_rfl) (by as_aux_lemma => kernel_rfl) (fun _ _ _ h => h) rfl ?_ hS ?_
    rotate_left
    · intro W' hW'
      obtain hW' := hW'
      all_goals (go_simp; first | done | rfl)
    intro l' hl
    dsimp only [List.set_cons_succ, List.set_cons_zero] at hl
    subst hl
    refine anyX_takeNL 10 (v := ?_) rfl rfl (by as_aux_lemma => kernel_rfl) (by as_aux_lemma => kernel_rfl) (by as_aux_lemma => kernel_rfl) (by as_aux_lemma => kernel_rfl) (by as_aux_lemma => kernel_rfl) (fun _ _ _ h => h) rfl ?_ hS ?_
    rotate_left
    · intro W' hW'
      obtain hW' := hW'
      all_goals (go_simp; first | done | rfl)
    intro l' hl
    dsimp only [List.set_cons_succ, List.set_cons_zero] at hl
    subst hl
    refine anyX_takeNL 11 (v := ?_) rfl rfl (by as_aux_lemma => kernel_rfl) (by as_aux_lemma => kernel_rfl) (by as_aux_lemma => kernel_rfl) (by as_aux_lemma => kernel_rfl) (by as_aux_lemma => kernel_rfl) (fun _ _ _ h => h) rfl ?_ hS ?_
    rotate_left
    · intro W' hW'
      obtain hW' := hW'
      all_goals (go_simp; first | done | rfl)
    intro l' hl
    dsimp only [List.set_cons_succ, List.set_cons_zero] at hl
    subst hl
    refine anyX_takeNL 12 (v := ?_) rfl rfl (by as_aux_lemma => kernel_rfl) (by as_aux_lemma => kernel_rfl) (by as_aux_lemma => kernel_rfl) (by as_aux_lemma => kernel_rfl) (by as_aux_lemma => kernel_rfl) (fun _ _ _ h => h) rfl ?_ hS ?_
    rotate_left
    · intro W' hW'
      obtain hW' := hW'
      all_goals (go_simp; first | done | rfl)
    intro l' hl
    dsimp only [List.set_cons_succ, List.set_cons_zero] at hl
    subst hl
    refine anyX_takeNL 13 (v := ?_) rfl rfl (by as_aux_lemma => kernel_rfl) (by as_aux_lemma => kernel_rfl) (by as_aux_lemma => kernel_rfl) (by as_aux_lemma => kernel_rfl) (by as_aux_lemma => kernel_rfl) (fun _ _ _ h => h) rfl ?_ hS ?_
    rotate_left
    · intro W' hW'
      obtain hW' := hW'
      all_goals (go_simp; first | done | rfl)
    intro l' hl
    dsimp only [List.set_cons_succ, List.set_cons_zero] at hl
    subst hl
    refine anyX_takeNL 14 (v := ?_) rfl rfl (by as_aux_lemma => kernel_rfl) (by as_aux_lemma => kernel_rfl) (by as_aux_lemma => kernel_rfl) (by as_aux_lemma => kernel_rfl) (by as_aux_lemma => kernel_rfl) (fun _ _ _ h => h) rfl ?_ hS ?_
    rotate_left
    · intro W' hW'
      obtain hW' := hW'
      all_goals (go_simp; first | done | rfl)
    intro l' hl
    dsimp only [List.set_cons_succ, List.set_cons_zero] at hl
    subst hl
    refine anyX_takeNL 15 (v := ?_) rfl rfl (by as_aux_lemma => kernel_rfl) (by as_aux_lemma => kernel_rfl) (by as_aux_lemma => kernel_rfl) (by as_aux_lemma => kernel_rfl) (by as_aux_lemma => kernel_rfl) (fun _ _ _ h => h) rfl ?_ hS ?_
    rotate_left
    · intro W' hW'
      obtain hW' := hW'
      all_goals (go_simp; first | done | rfl)
    intro l' hl
    dsimp only [List.set_cons_succ, List.set_cons_zero] at hl
    subst hl
    refine anyX_one (i := 1) (by kernel_rfl) rfl rfl fun K' hK' => ?_
    unfold Oper.wp
    go_simp
    refine hK' _ _ (fun _ => cell_alloc hS _) ?_
    clear hK' K'
    refine anyX_one (i := 8) (by kernel_rfl) rfl rfl fun K' hK' => ?_
    refine wp_append_row (.tmp 46) (.tmp 52) 22 22 rfl 3 _ 1 8 Try.underlying22 info rfl rfl (Row.new0 w6.drew ow0 [1] 3 1) rfl ((hrt.drew.new_ ((Below.refl _ _).alloc (Nat.le_refl _) _)).src Try.underlying22 (by rw [← css_take, css_length, List.length_take, List.length_map]; omega) (fun u hu => css_one (ys.map (·.2)) u (List.mem_of_mem_take hu))) (by unfold maxLen; omega) (by omega) ?_
    intro v3 w3 ow3 hr3 t3
    have t3 := ((Turn.refl [1] w6.drew ow0).alloc (.cells #[] 3) [1]).trans t3
    have n3 := t3.new_ ow5 [1]
    simp only [Nat.zero_add, List.nil_append] at hr3
    obtain ⟨A3, c3, rfl, hnc3⟩ := hr3.slice
    have hS3 : (fun W' : World => W'.cell? ⟨g, 2, none⟩ = some (.slice (some ⟨g2, off2, none⟩) ys.length cap2)) w3 := by have := (hc.drew.new_ n3).get 2 rfl; simpa only [Nat.zero_add] using this
    change K' (Act.put _ (some 53) _) _
    refine hK' _ _ (fun _ => hS3) ?_
    clear hK' K'
    simp only [Act.put, List.setIfInBounds_toArray, List.set_cons_succ, List.set_cons_zero]
    refine anyX_one (i := 16) (by kernel_rfl) rfl rfl fun K' hK' => ?_
    refine wp_append_row (.tmp 53) (.tmp 60) 22 22 rfl 3 _ 1 8 Try.underlying22 info rfl rfl hr3 rfl ((hrd.drew.new_ n3.below).src Try.underlying22 (by rw [← css_drop, css_length, List.length_drop, List.length_map]) (fun u hu => css_one (ys.map (·.2)) u (List.mem_of_mem_drop hu))) (by unfold maxLen; omega) (by omega) ?_
    intro v4 w4 ow4 hr4 t4
    have t4 := t3.trans t4
    have n4 := t4.new_ ow5 (p ++ [2])
    have hr5 := hr4.ren t4 ow5 (p ++ [2])
    generalize ow5.ren w6.drew.heap.size ow4 (p ++ [2]) = ow6 at *
    rw [css_erase, map_erase, List.append_nil, Hel.out] at hr5
    clear hr4 t3 hr3 hrd hrt n3 hS3 hS
    obtain ⟨A4, c4, rfl, -⟩ := hr5.slice
    have hc4 := hc.drew.new_ n4
    have hS : (fun W' : World => W'.cell? ⟨g, 2, none⟩ = some (.slice (some ⟨g2, off2, none⟩) ys.length cap2)) w4 := by have := hc4.get 2 rfl; simpa only [Nat.zero_add] using this
    change K' (Act.put _ (some 61) _) _
    refine hK' _ _ (fun _ => hS) ?_
    clear hK' K'
    simp only [Act.put, List.setIfInBounds_toArray, List.set_cons_succ, List.set_cons_zero]
    refine anyX_one (i := 17) (by kernel_rfl) rfl rfl fun K' hK' => ?_
    unfold Oper.wp
    go_simp
    refine hK' _ _ (fun _ => hS) ?_
    clear hK' K'
    refine anyX_one (i := 18) (by kernel_rfl) rfl rfl fun K' hK' => ?_
    unfold Oper.wp
    go_simp
    refine hK' _ _ (fun _ => hS) ?_
    clear hK' K'
    have c0' := hc4.get 2 rfl
    have f0 := hc4.free 2
    have lg4 := hc4.lt
    simp only [Nat.zero_add] at c0'
    refine anyX_one (i := 19) (by kernel_rfl) rfl rfl fun K' hK' => ?_
    unfold Oper.wp
    go_simp
    refine hK' _ _ (fun hf => by cases hf) (anyX_done (by kernel_rfl) ?_ _)
    refine NoPanic.normal ?_
    clear hK' K'
    have tb := hc4.turn 2 (.slice A4 (ys.eraseIdx b).length c4) (by simp)
    have hc5 := hc4.set 2 (.slice A4 (ys.eraseIdx b).length c4) (by simp)
    have hr6 := hr5.keep tb (by simp)
    have ho6 := (hr1.drew.new_ n4).keep tb (by simp)
    have t6 := (t.drew.trans (n4.turn p)).trans (tb.up (by simp))
    simp only [Nat.zero_add] at tb hc5 hr6 ho6 t6
    generalize w4.setCell ⟨g, 2, none⟩ (.slice A4 (ys.eraseIdx b).length c4) = w7 at *
    clear hc4 c0' f0 lg4 tb hr5 n4 t4 hS hc t c0 hr2 hr1 hA
    go_wp2
    refine bodyPost_ret (v := .tuple #[.int .i64 x.1, .int .i64 x.2, .bool true]) (by simp [results, Try.results91, go_sem]) rfl ⟨b, x, _, Hx.out, Hb.out, rfl, ⟨_, _, hc5, ho6, hr6⟩, t6⟩

end RL
end Go.Proofs.Ytppikbdeopagkaa
