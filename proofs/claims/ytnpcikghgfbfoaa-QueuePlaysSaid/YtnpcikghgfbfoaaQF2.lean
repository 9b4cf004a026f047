/-
  KEELREF7: Take, Level, List.
-/
import Derived.Test.YtnpcikghgfbfoaaQF
import Derived.Test.YtnpcikghgfbfoaaMore
namespace Go.Proofs.Ytnpcikghgfbfoaa
open Go Go.RowKit
namespace EQ
open EWt

set_option maxHeartbeats 4000000 in
theorem r_take (w : World) (ow : Ow) (p : List Nat) (g : Nat) (l : List Wt) (h : RQ w ow p g l) (hl : l.length ≤ 512) :
    Calls Try.prog 17 #[.pointer (some ⟨g, 0, none⟩)] w (LeftR w ow p g (firstV l) (takeL l)) := by
  have hcall := fun W (hW : Below w.heap.size w W) => r_next W ow p g l (h.new_ (hW.nw ow)) hl
  have H := Lib.hid h
  obtain ⟨A, c, c0, lg, hc, -, -, hat⟩ := h.at
  cases hf : first l with
  | none =>
    rw [hf] at hcall
    have Hcall := Lib.hid hcall
    have hv : firstV l = .tuple #[.agg #[.int .i64 0, .int .i64 0, .int .i64 0], .bool false] := by simp [firstV, hf, wt]
    have ht : takeL l = l := by simp [takeL, hf]
    rw [hv, ht]
    clear hat h hcall hf hv ht
    go_enter Try.func17, Try.ntmps17
    go_wp2_with fail
    refine (Hcall.out _ (by repeat (first | (with_reducible assumption) | (with_reducible exact Below.refl _ _) | (with_reducible refine Below.drew ?_) | (with_reducible refine bdN ?_ _) | ((with_reducible refine bdS ?_ ?_ _); · first | (simp; done) | omega | (simp; omega)) | ((with_reducible refine bdA ?_ ?_ _); · first | (simp; done) | omega | (simp; omega))))).mono ?_
    rintro e w1 ⟨rfl, k, rfl⟩
    simp only [nxI]
    go_wp2
    have hb : Below w.heap.size w (((w.alloc (.cells #[.int .i64 0, .int .i64 0, .int .i64 0] 27)).drewN k)) := by repeat (first | (with_reducible assumption) | (with_reducible exact Below.refl _ _) | (with_reducible refine Below.drew ?_) | (with_reducible refine bdN ?_ _) | ((with_reducible refine bdS ?_ ?_ _); · first | (simp; done) | omega | (simp; omega)) | ((with_reducible refine bdA ?_ ?_ _); · first | (simp; done) | omega | (simp; omega)))
    refine bodyPost_ret (v := .tuple #[.agg #[.int .i64 0, .int .i64 0, .int .i64 0], .bool false]) (by simp [results, Try.results17, go_sem]) rfl ⟨ow, rfl, H.out.new_ ?_, ?_⟩
    · refine Below.nw ?_ ow
      repeat (first | (with_reducible assumption) | (with_reducible exact Below.refl _ _) | (with_reducible refine Below.drew ?_) | (with_reducible refine bdN ?_ _) | ((with_reducible refine bdS ?_ ?_ _); · first | (simp; done) | omega | (simp; omega)) | ((with_reducible refine bdA ?_ ?_ _); · first | (simp; done) | omega | (simp; omega)))
    · refine New.turn (Below.nw ?_ ow) p
      repeat (first | (with_reducible assumption) | (with_reducible exact Below.refl _ _) | (with_reducible refine Below.drew ?_) | (with_reducible refine bdN ?_ _) | ((with_reducible refine bdS ?_ ?_ _); · first | (simp; done) | omega | (simp; omega)) | ((with_reducible refine bdA ?_ ?_ _); · first | (simp; done) | omega | (simp; omega)))
  | some j =>
    rw [hf] at hcall
    have Hcall := Lib.hid hcall
    obtain ⟨hj, -, -⟩ := nx_some l l.length j hf
    obtain ⟨y, hy⟩ : ∃ y, l[j]? = some y := ⟨_, List.getElem?_eq_getElem (by omega)⟩
    obtain ⟨b, off, rfl, hcell⟩ := hat (by omega)
    obtain ⟨d0, d1, d2⟩ := hcell j y hy
    have j0 : (j : Int) < (l.length : Int) := by omega
    have j1 : ¬ (j : Int) < 0 := by omega
    have lb := World.block_lt_of_cell? w _ d0
    simp only at lb
    have hv : firstV l = .tuple #[.agg #[.int .i64 y.job, .int .i64 y.task, .int .i64 y.level], .bool true] := by simp [firstV, hf, hy, wt]
    have ht : takeL l = l.eraseIdx j := by simp [takeL, hf]
    rw [hv, ht]
    have hcs : css (l.eraseIdx j) = (css l).take (j * 3) ++ (css l).drop ((j + 1) * 3) := by rw [List.eraseIdx_eq_take_drop_succ, css_append, css_take, css_drop]
    have Hcs := Lib.hid hcs
    clear hat h hcall hf hv hcell hy ht hcs
    go_enter Try.func17, Try.ntmps17
    go_wp2_with fail
    refine (Hcall.out _ (by repeat (first | (with_reducible assumption) | (with_reducible exact Below.refl _ _) | (with_reducible refine Below.drew ?_) | (with_reducible refine bdN ?_ _) | ((with_reducible refine bdS ?_ ?_ _); · first | (simp; done) | omega | (simp; omega)) | ((with_reducible refine bdA ?_ ?_ _); · first | (simp; done) | omega | (simp; omega))))).mono ?_
    rintro e w1 ⟨rfl, k, rfl⟩
    simp only [nxI]
    go_wp2
    refine gen_world (fun W => Below w.heap.size w W ∧ Loc W w.heap.size [.int .i64 0, .int .i64 0, .int .i64 0] ∧ Loc W (w.heap.size + 1) [.int .i64 y.job, .int .i64 y.task, .int .i64 y.level]) ?_ ?_
    · refine ⟨?_, ?_, ?_⟩
      · repeat (first | (with_reducible assumption) | (with_reducible exact Below.refl _ _) | (with_reducible refine Below.drew ?_) | (with_reducible refine bdN ?_ _) | ((with_reducible refine bdS ?_ ?_ _); · first | (simp; done) | omega | (simp; omega)) | ((with_reducible refine bdA ?_ ?_ _); · first | (simp; done) | omega | (simp; omega)))
      · repeat (first | (with_reducible refine Loc.drew ?_) | (with_reducible refine Loc.drewN ?_ _) | ((with_reducible refine Loc.far ?_ ?_ _); · first | assumption | omega | (simp; done) | (simp; omega)) | (exact Loc.make (by first | rfl | (simp; done) | (simp; omega)) rfl) | (with_reducible refine Loc.alloc_ ?_ _))
      · repeat (first | (with_reducible refine Loc.drew ?_) | (with_reducible refine Loc.drewN ?_ _) | ((with_reducible refine Loc.far ?_ ?_ _); · first | assumption | omega | (simp; done) | (simp; omega)) | (exact Loc.make (by first | rfl | (simp; done) | (simp; omega)) rfl) | (with_reducible refine Loc.alloc_ ?_ _))
    clear Hcall c0 d0 d1 d2
    rintro w2 ⟨hb2, hR, hX2⟩
    obtain ⟨A, c', c0, lg2, -, hr, hce, -⟩ := (H.out.new_ (hb2.nw ow)).at
    obtain ⟨b2, off2, capl, hv, hcl, hcm, hb2l, -⟩ := hr.at (by omega)
    simp only [Value.slice.injEq] at hv
    obtain ⟨rfl, -, rfl⟩ := hv
    obtain ⟨A', hA, hrd⟩ := hr.readsFrom_ (j + 1) (by omega)
    have hrt := hr.readsTo j (by omega)
    have hk1 : (j : Int) + 1 ≤ (l.length : Int) := by omega
    have hk2 : (0 : Int) ≤ (j : Int) + 1 := by omega
    have hjc : (j : Int) ≤ (c' : Int) := by omega
    have ht1 : ((j : Int) + 1).toNat = j + 1 := by omega
    have hwr : IntKind.i64.wrap ((j : Int) + 1) = (j : Int) + 1 := by rw [IntKind.wrap_i64]; omega
    have Hhl := Lib.hid hl
    have rg : ¬ w.heap.size = g := by omega
    have rx : ¬ w.heap.size + 1 = g := by omega
    clear hcl hcm hb2l lb lg
    refine plain_regionN (fun W' => W'.cell? ⟨g, 0, none⟩ = some (.slice (some ⟨b2, off2, none⟩) l.length c')) [19] (by kernel_rfl) ?_
    have hS : (fun W' : World => W'.cell? ⟨g, 0, none⟩ = some (.slice (some ⟨b2, off2, none⟩) l.length c')) w2.drew := c0
    refine anyX_takeN 0 (v := ?v0) rfl rfl (by kernel_rfl) (by kernel_rfl) (by kernel_rfl) (by kernel_rfl) (by kernel_rfl) (fun _ _ _ h => h) rfl ?y0 hS ?r0
    case y0 =>
      intro W' hW'
      obtain hW' := hW'
      all_goals (go_simp; first | done | rfl)
    intro tm' htm
    simp only [List.setIfInBounds_toArray, List.set_cons_succ, List.set_cons_zero] at htm
    subst htm
    refine anyX_takeN 2 (v := ?v2) rfl rfl (by kernel_rfl) (by kernel_rfl) (by kernel_rfl) (by kernel_rfl) (by kernel_rfl) (fun _ _ _ h => h) rfl ?y2 hS ?r2
    case y2 =>
      intro W' hW'
      obtain hW' := hW'
      all_goals (go_simp; first | done | rfl)
    intro tm' htm
    simp only [List.setIfInBounds_toArray, List.set_cons_succ, List.set_cons_zero] at htm
    subst htm
    refine anyX_takeN 3 (v := ?v3) rfl rfl (by kernel_rfl) (by kernel_rfl) (by kernel_rfl) (by kernel_rfl) (by kernel_rfl) (fun _ _ _ h => h) rfl ?y3 hS ?r3
    case y3 =>
      intro W' hW'
      obtain hW' := hW'
      all_goals (go_simp; first | done | rfl)
    intro tm' htm
    simp only [List.setIfInBounds_toArray, List.set_cons_succ, List.set_cons_zero] at htm
    subst htm
    refine anyX_takeN 4 (v := ?v4) rfl rfl (by kernel_rfl) (by kernel_rfl) (by kernel_rfl) (by kernel_rfl) (by kernel_rfl) (fun _ _ _ h => h) rfl ?y4 hS ?r4
    case y4 =>
      intro W' hW'
      obtain hW' := hW'
      all_goals (go_simp; first | done | rfl)
    intro tm' htm
    simp only [List.setIfInBounds_toArray, List.set_cons_succ, List.set_cons_zero] at htm
    subst htm
    refine anyX_takeN 5 (v := ?v5) rfl rfl (by kernel_rfl) (by kernel_rfl) (by kernel_rfl) (by kernel_rfl) (by kernel_rfl) (fun _ _ _ h => h) rfl ?y5 hS ?r5
    case y5 =>
      intro W' hW'
      obtain hW' := hW'
      all_goals (go_simp; first | done | rfl)
    intro tm' htm
    simp only [List.setIfInBounds_toArray, List.set_cons_succ, List.set_cons_zero] at htm
    subst htm
    refine anyX_takeN 6 (v := ?v6) rfl rfl (by kernel_rfl) (by kernel_rfl) (by kernel_rfl) (by kernel_rfl) (by kernel_rfl) (fun _ _ _ h => h) rfl ?y6 hS ?r6
    case y6 =>
      intro W' hW'
      obtain hW' := hW'
      all_goals (go_simp; first | done | rfl)
    intro tm' htm
    simp only [List.setIfInBounds_toArray, List.set_cons_succ, List.set_cons_zero] at htm
    subst htm
    refine anyX_takeN 7 (v := ?v7) rfl rfl (by kernel_rfl) (by kernel_rfl) (by kernel_rfl) (by kernel_rfl) (by kernel_rfl) (fun _ _ _ h => h) rfl ?y7 hS ?r7
    case y7 =>
      intro W' hW'
      obtain hW' := hW'
      all_goals (go_simp; first | done | rfl)
    intro tm' htm
    simp only [List.setIfInBounds_toArray, List.set_cons_succ, List.set_cons_zero] at htm
    subst htm
    refine anyX_takeN 9 (v := ?v9) rfl rfl (by kernel_rfl) (by kernel_rfl) (by kernel_rfl) (by kernel_rfl) (by kernel_rfl) (fun _ _ _ h => h) rfl ?y9 hS ?r9
    case y9 =>
      intro W' hW'
      obtain hW' := hW'
      all_goals (go_simp; first | done | rfl)
    intro tm' htm
    simp only [List.setIfInBounds_toArray, List.set_cons_succ, List.set_cons_zero] at htm
    subst htm
    refine anyX_takeN 10 (v := ?v10) rfl rfl (by kernel_rfl) (by kernel_rfl) (by kernel_rfl) (by kernel_rfl) (by kernel_rfl) (fun _ _ _ h => h) rfl ?y10 hS ?r10
    case y10 =>
      intro W' hW'
      obtain hW' := hW'
      all_goals (go_simp; first | done | rfl)
    intro tm' htm
    simp only [List.setIfInBounds_toArray, List.set_cons_succ, List.set_cons_zero] at htm
    subst htm
    refine anyX_takeN 11 (v := ?v11) rfl rfl (by kernel_rfl) (by kernel_rfl) (by kernel_rfl) (by kernel_rfl) (by kernel_rfl) (fun _ _ _ h => h) rfl ?y11 hS ?r11
    case y11 =>
      intro W' hW'
      obtain hW' := hW'
      all_goals (go_simp; first | done | rfl)
    intro tm' htm
    simp only [List.setIfInBounds_toArray, List.set_cons_succ, List.set_cons_zero] at htm
    subst htm
    refine anyX_takeN 12 (v := ?v12) rfl rfl (by kernel_rfl) (by kernel_rfl) (by kernel_rfl) (by kernel_rfl) (by kernel_rfl) (fun _ _ _ h => h) rfl ?y12 hS ?r12
    case y12 =>
      intro W' hW'
      obtain hW' := hW'
      all_goals (go_simp; first | done | rfl)
    intro tm' htm
    simp only [List.setIfInBounds_toArray, List.set_cons_succ, List.set_cons_zero] at htm
    subst htm
    refine anyX_takeN 13 (v := ?v13) rfl rfl (by kernel_rfl) (by kernel_rfl) (by kernel_rfl) (by kernel_rfl) (by kernel_rfl) (fun _ _ _ h => h) rfl ?y13 hS ?r13
    case y13 =>
      intro W' hW'
      obtain hW' := hW'
      all_goals (go_simp; first | done | rfl)
    intro tm' htm
    simp only [List.setIfInBounds_toArray, List.set_cons_succ, List.set_cons_zero] at htm
    subst htm
    refine anyX_takeN 14 (v := ?v14) rfl rfl (by kernel_rfl) (by kernel_rfl) (by kernel_rfl) (by kernel_rfl) (by kernel_rfl) (fun _ _ _ h => h) rfl ?y14 hS ?r14
    case y14 =>
      intro W' hW'
      obtain hW' := hW'
      all_goals (go_simp; first | done | rfl)
    intro tm' htm
    simp only [List.setIfInBounds_toArray, List.set_cons_succ, List.set_cons_zero] at htm
    subst htm
    refine anyX_takeN 15 (v := ?v15) rfl rfl (by kernel_rfl) (by kernel_rfl) (by kernel_rfl) (by kernel_rfl) (by kernel_rfl) (fun _ _ _ h => h) rfl ?y15 hS ?r15
    case y15 =>
      intro W' hW'
      obtain hW' := hW'
      all_goals (go_simp; first | done | rfl)
    intro tm' htm
    simp only [List.setIfInBounds_toArray, List.set_cons_succ, List.set_cons_zero] at htm
    subst htm
    refine anyX_one (i := 1) (by kernel_rfl) rfl rfl fun K' hK' => ?_
    unfold Oper.wp
    go_simp
    refine hK' _ _ (fun _ => cell_alloc hS _) ?_
    clear hK' K'
    refine anyX_one (i := 8) (by kernel_rfl) rfl rfl fun K' hK' => ?_
    refine wp_append_row (.tmp 19) (.tmp 25) 30 30 rfl 27 _ 3 24 Try.underlying30 info rfl rfl (Row.new0 w2.drew ow0 [1] 27 3) rfl ((hrt.drew.new_ ((Below.refl _ _).alloc (Nat.le_refl _) _)).src Try.underlying30 (by rw [← css_take, css_length, List.length_take]; omega) (fun u hu => css_one l u (List.mem_of_mem_take hu))) (by unfold maxLen; omega) (by omega) ?_
    intro v3 w3 ow3 hr3 t3
    have t3 := ((Turn.refl [1] w2.drew ow0).alloc (.cells #[] 27) [1]).trans t3
    have n3 := t3.new_ ow [1]
    simp only [Nat.zero_add, List.nil_append] at hr3
    obtain ⟨A3, c3, rfl, hnc3⟩ := hr3.slice
    have hS3 : (fun W' : World => W'.cell? ⟨g, 0, none⟩ = some (.slice (some ⟨b2, off2, none⟩) l.length c')) w3 := (hce.drew.new_ n3).get0
    change K' (Act.put _ (some 26) _) _
    refine hK' _ _ (fun _ => hS3) ?_
    clear hK' K'
    simp only [Act.put, List.setIfInBounds_toArray, List.set_cons_succ, List.set_cons_zero]
    refine anyX_one (i := 16) (by kernel_rfl) rfl rfl fun K' hK' => ?_
    refine wp_append_row (.tmp 26) (.tmp 33) 30 30 rfl 27 _ 3 24 Try.underlying30 info rfl rfl hr3 rfl ((hrd.drew.new_ n3.below).src Try.underlying30 (by rw [← css_drop, css_length, List.length_drop]) (fun u hu => css_one l u (List.mem_of_mem_drop hu))) (by unfold maxLen; omega) (by omega) ?_
    intro v4 w4 ow4 hr4 t4
    have t4 := t3.trans t4
    have n4 := t4.new_ ow (p ++ [1])
    have hr5 := hr4.ren t4 ow (p ++ [1])
    have hfr := hr4.fresh t4
    have lR2 : w.heap.size < w2.drew.heap.size := hR.lt
    generalize ow.ren w2.drew.heap.size ow4 (p ++ [1]) = ow5 at *
    rw [← Hcs.out, List.append_nil, show j + (l.length - (j + 1)) = (l.eraseIdx j).length by rw [List.length_eraseIdx, if_pos (by omega)]; omega] at hr5
    rw [show j + (l.length - (j + 1)) = (l.eraseIdx j).length by rw [List.length_eraseIdx, if_pos (by omega)]; omega] at hr4
    clear hr4 t3 hr3 hrd hrt n3 hS3 hS
    obtain ⟨A4, c4, rfl, -⟩ := hr5.slice
    have hS : (fun W' : World => W'.cell? ⟨g, 0, none⟩ = some (.slice (some ⟨b2, off2, none⟩) l.length c')) w4 := (hce.drew.new_ n4).get0
    change K' (Act.put _ (some 34) _) _
    refine hK' _ _ (fun _ => hS) ?_
    clear hK' K'
    simp only [Act.put, List.setIfInBounds_toArray, List.set_cons_succ, List.set_cons_zero]
    refine anyX_one (i := 17) (by kernel_rfl) rfl rfl fun K' hK' => ?_
    unfold Oper.wp
    go_simp
    refine hK' _ _ (fun _ => hS) ?_
    clear hK' K'
    refine anyX_one (i := 18) (by kernel_rfl) rfl rfl fun K' hK' => ?_
    unfold Oper.wp
    go_simp
    refine hK' _ _ (fun _ => hS) ?_
    clear hK' K'
    have hc4 := hce.drew.new_ n4
    have c0' := hc4.get0
    have f0 := hc4.free 0
    have lg4 := hc4.lt
    refine anyX_one (i := 19) (by kernel_rfl) rfl rfl fun K' hK' => ?_
    unfold Oper.wp
    go_simp
    refine hK' _ _ (fun hf => by cases hf) (anyX_done (by kernel_rfl) ?_ _)
    refine NoPanic.normal ?_
    clear hK' K'
    have tb := hc4.turn 0 (.slice A4 (l.eraseIdx j).length c4) (by simp)
    have hc5 := hc4.set0 (.slice A4 (l.eraseIdx j).length c4)
    have hr6 := hr5.keep tb (by simp)
    have hR5 : Loc (w4.setCell ⟨g, 0, none⟩ (.slice A4 (l.eraseIdx j).length c4)) w.heap.size [.int .i64 0, .int .i64 0, .int .i64 0] := Loc.far (Ne.symm rg) (hR.drew.new_ n4.below) _
    have hX5 : Loc (w4.setCell ⟨g, 0, none⟩ (.slice A4 (l.eraseIdx j).length c4)) (w.heap.size + 1) [.int .i64 y.job, .int .i64 y.task, .int .i64 y.level] := Loc.far (Ne.symm rx) (hX2.drew.new_ n4.below) _
    have fin : Turn p w ow (w4.setCell ⟨g, 0, none⟩ (.slice A4 (l.eraseIdx j).length c4)) ow5 := (((hb2.nw ow).turn p).drew.trans (n4.turn p)).trans (tb.up (by simp))
    generalize (w4.setCell ⟨g, 0, none⟩ (.slice A4 (l.eraseIdx j).length c4)) = w6 at *
    clear hc4 c0' f0 lg4 tb hr5 n4 t4 hS hR hX2
    have z0 := hR5.get 0 rfl
    have z1 := hR5.get 1 rfl
    have z2 := hR5.get 2 rfl
    have x0 := hX5.get 0 rfl
    have x1 := hX5.get 1 rfl
    have x2 := hX5.get 2 rfl
    have fR := hR5.free
    have lR := hR5.lt
    have lX := hX5.lt
    have nRX : ¬ w.heap.size = w.heap.size + 1 := by omega
    go_wp2
    refine bodyPost_ret (v := .tuple #[.agg #[.int .i64 y.job, .int .i64 y.task, .int .i64 y.level], .bool true]) (by simp [results, Try.results17, go_sem, lR, z0, z1, z2]) rfl ⟨ow5, rfl, ⟨.slice A4 (l.eraseIdx j).length c4, ?_, ?_⟩, ?_⟩
    · repeat (first | (with_reducible exact hc5) | (with_reducible refine Cells.drew ?_) | (with_reducible refine Cells.drewN ?_ _) | (with_reducible refine Cells.alloc_ ?_ _) | ((with_reducible refine Cells.far ?_ ?_ _); · first | assumption | omega | (simp; done) | (simp; omega)))
    · repeat (first | (with_reducible exact hr6) | (with_reducible refine Row.drew ?_) | (with_reducible refine Row.drewN ?_ _) | (with_reducible refine Row.alloc_ ?_ _) | ((with_reducible refine Row.farF hfr ?_ ?_ _); · omega))
    · repeat (first | (with_reducible exact fin) | (with_reducible exact Turn.refl _ _ _) | (with_reducible refine Turn.drew ?_) | (with_reducible refine Turn.drewN ?_ _) | (with_reducible refine Turn.alloc_ ?_ _) | ((with_reducible refine Turn.setNew ?_ ?_ _); · first | (simp; done) | omega | (simp; omega)) | ((with_reducible refine Turn.setO ?_ ?_ _); · first | assumption | exact ob _ | (simp [*]; done)))

theorem levelA_step (l : List Wt) (lv : Int) (m : Nat) (x : Wt) (h : l[m]? = some x) : levelA (l.take (m + 1)) lv = levelA (l.take m) lv ++ if x.level = lv then [x] else [] := by
  rw [List.take_add_one, h, levelA, List.filter_append]
  by_cases e : x.level = lv <;> simp [levelA, e]
theorem levelA_le (l : List Wt) (lv : Int) : (levelA l lv).length ≤ l.length := List.length_filter_le _ _

/-- What the loop of Level keeps. -/
def levRel (w : World) (l : List Wt) (lv : Int) (out i : Value) (wr : World) : Prop :=
  ∃ (m : Nat) (OW : Ow), m ≤ l.length ∧ i = .int .i64 (m : Int) ∧ Row wr OW [1] 27 3 out (levelA (l.take m) lv).length (css (levelA (l.take m) lv)) ∧ Turn [1] w ow0 wr OW

set_option maxHeartbeats 2000000 in
theorem r_level (w : World) (ow : Ow) (p q : List Nat) (g : Nat) (l : List Wt) (h : RQ w ow p g l) (hl : l.length ≤ 512) (lv : Int) :
    Calls Try.prog 21 #[.pointer (some ⟨g, 0, none⟩), .int .i64 lv] w (MadeS w ow q (levelA l lv)) := by
  have H := Lib.hid h
  clear h
  go_enter Try.func21, Try.ntmps21
  go_wp2
  go_loopw [5, 6] (fun out i wr => levRel w l lv out i wr) (fun _ i _ => l.length - (intOf i).toNat)
  case atStart => exact ⟨0, ow0, Nat.zero_le _, rfl, Row.nil _ _ _ _ _, Turn.refl _ _ _⟩
  case round =>
    obtain ⟨m, OW, hm, rfl, hr, ht⟩ := hrel
    obtain ⟨A, c, c0, lg, hc, -, -, hat⟩ := (H.out.new_ (ht.new_ ow [1])).at
    have Hat := Lib.hid hat
    clear hat
    by_cases hlt : m < l.length
    · obtain ⟨x, hx⟩ : ∃ x, l[m]? = some x := ⟨_, List.getElem?_eq_getElem hlt⟩
      obtain ⟨b, off, rfl, hcell⟩ := Hat.out (by omega)
      obtain ⟨e0, e1, e2⟩ := hcell m x hx
      have i0 : (m : Int) < (l.length : Int) := by omega
      have Hs := Lib.hid (levelA_step l lv m x hx)
      have hle := levelA_le (l.take m) lv
      rw [List.length_take] at hle
      obtain ⟨Ar, cr, rfl, -⟩ := hr.slice
      clear hcell hx
      by_cases hv : x.level = lv
      · have hb1 : (x.level == lv) = true := beq_iff_eq.2 hv
        have Hv := Lib.hid hv
        clear hv
        go_wp2_with (at_builtin; refine wpList_append_row rfl (.tmp 26) (.tmp 34) 30 30 rfl 27 _ 3 24 Try.underlying30 info rfl rfl (hr.alloc_ _) rfl ((Reads.new _ (cs x) _ 1 1 (Nat.le_refl _)).src Try.underlying30 rfl (cs_one _)) (by unfold maxLen; omega) (by omega) ?_)
        intro v2 w2 ow2 hr2 t2
        have t3 := (ht.alloc_ (.cells (cs x).toArray 27)).trans t2
        rw [← css_snoc] at hr2
        go_wp2
        refine ⟨⟨m + 1, ow2, by omega, rfl, ?_, t3⟩, by simp only [intOf]; omega⟩
        rw [Hs.out, if_pos Hv.out, List.length_append]
        exact hr2
      · have hb1 : (x.level == lv) = false := beq_eq_false_iff_ne.2 hv
        have Hv := Lib.hid hv
        clear hv
        go_wp2
        refine ⟨⟨m + 1, OW, by omega, rfl, ?_, ht⟩, by simp only [intOf]; omega⟩
        rw [Hs.out, if_neg Hv.out, List.append_nil]
        exact hr
    · obtain rfl : m = l.length := by omega
      rw [List.take_length] at hr
      go_wp2
      go_ret
      exact ⟨_, _, rfl, by have := hr.ren ht ow q; simpa using this, ht.new_ ow q, hr.fresh ht⟩

/-- The levels from 32 down to m + 1. -/
def lists (l : List Wt) (m : Nat) : List Wt := ((List.range 32).drop m).reverse.flatMap (lev l)
theorem lists_top (l : List Wt) : lists l 32 = [] := by rw [lists, List.drop_of_length_le (by simp)]; rfl
theorem lists_step (l : List Wt) (m : Nat) (hm : m < 32) : lists l m = lists l (m + 1) ++ lev l m := by
  rw [lists, List.drop_eq_getElem_cons (by simpa using hm), List.reverse_cons, List.flatMap_append]
  simp [lists]
theorem lists_zero (l : List Wt) : lists l 0 = listA l := rfl
theorem lev_level (l : List Wt) (m : Nat) : lev l m = levelA l ((m : Int) + 1) := rfl
theorem lists_pre (l : List Wt) : ∀ m, m ≤ 32 → (lists l m).length ≤ (listA l).length
  | 0, _ => by rw [lists_zero]; exact Nat.le_refl _
  | m + 1, hm => by
    have := lists_pre l m (by omega)
    rw [lists_step l m (by omega), List.length_append] at this
    omega

/-- What the loop of List keeps. -/
def listRel (w : World) (l : List Wt) (out lv : Value) (wr : World) : Prop :=
  ∃ (m : Nat) (OW : Ow), m ≤ 32 ∧ lv = .int .i64 (m : Int) ∧ Row wr OW [1] 27 3 out (lists l m).length (css (lists l m)) ∧ Turn [1] w ow0 wr OW

set_option maxHeartbeats 2000000 in
theorem r_list (w : World) (ow : Ow) (p q : List Nat) (g : Nat) (l : List Wt) (h : RQ w ow p g l) (hl : l.length ≤ 512) (hla : (listA l).length ≤ 512) :
    Calls Try.prog 22 #[.pointer (some ⟨g, 0, none⟩)] w (MadeS w ow q (listA l)) := by
  have H := Lib.hid h
  clear h
  go_enter Try.func22, Try.ntmps22
  go_wp2
  go_loopw [3, 4] (fun out lv wr => listRel w l out lv wr) (fun _ i _ => (intOf i).toNat)
  case atStart => exact ⟨32, ow0, Nat.le_refl _, rfl, by rw [lists_top]; exact Row.nil _ _ _ _ _, Turn.refl _ _ _⟩
  case round =>
    obtain ⟨m, OW, hm, rfl, hr, ht⟩ := hrel
    have hb := lists_pre l m hm
    cases m with
    | zero =>
      rw [lists_zero] at hr
      go_wp2
      go_ret
      exact ⟨_, _, rfl, by have := hr.ren ht ow q; simpa using this, ht.new_ ow q, hr.fresh ht⟩
    | succ m =>
      have hq := H.out.new_ (ht.new_ ow [1])
      have hs := lists_step l m (by omega)
      have hb2 := lists_pre l m (by omega)
      rw [hs, List.length_append] at hb2
      have Hs := Lib.hid hs
      obtain ⟨Ar, cr, rfl, -⟩ := hr.slice
      have hlev := levelA_le l ((m : Int) + 1)
      have i1 : ¬ (m : Int) + 1 < 1 := by omega
      clear hs
      go_wp2_with fail
      refine (r_level wr _ p [2] g l hq hl ((m : Int) + 1)).mono ?_
      rintro e w1 ⟨v1, ow1, rfl, hr1, hn1, -⟩
      obtain ⟨A1, c1, rfl, -⟩ := hr1.slice
      have hr' := hr.new_ (hn1.below.nw OW)
      go_wp2_with (at_builtin; refine wpList_append_row rfl (.tmp 9) (.tmp 12) 30 30 rfl 27 _ 3 24 Try.underlying30 info rfl rfl hr' rfl (hr1.reads.src Try.underlying30 (css_length _) (css_one _)) (by unfold maxLen; omega) (by omega) ?_)
      intro v2 w2 ow2 hr2 t2
      have t3 := (ht.trans ((hn1.below.nw OW).turn _)).trans t2
      rw [← css_append, ← lev_level, ← List.length_append, ← Hs.out] at hr2
      go_wp2
      refine ⟨⟨m, ow2, by omega, ?_, hr2, t3⟩, ?_⟩
      · simp
      · simp only [intOf]; omega

end EQ
end Go.Proofs.Ytnpcikghgfbfoaa
