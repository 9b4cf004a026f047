import Derived.Test.YtnehiooioodkfaaDoorEOqS
import Derived.Test.YtnehiooioodkfaaDoorIter
/-
  KEELBOOK.BOOK of api.Op: Keep and Stays.
-/
set_option linter.unusedVariables false
set_option linter.unusedSimpArgs false
namespace Go.Proofs.YtnehiooioodkfaaDoor
open Go Go.RowKit
namespace EOq

theorem infoSl : (Tryd.prog.info? 22).map (fun i => (i.zero, i.size, i.bytes)) = some (some (.slice none 0 0), 1, 24) := by kernel_rfl

/-- The lists that are kept (k: the number under which each is kept; c: cells), and their copies. -/
def Its (w : World) (ow : Ow) (p : List Nat) (ls : List (Nat × Value × List Op4)) (ws : List Value) : Prop :=
  ∀ (i k : Nat) (v : Value) (xs : List Op4), ls[i]? = some (k, v, xs) → Row w ow (p ++ [3, k]) 32 4 v xs.length (css xs) ∧ xs.length ≤ 1099511627776 ∧ ∃ u, ws[i]? = some u ∧ Row w ow (p ++ [4, k]) 32 4 u xs.length (css xs)
theorem Its.keep {w w1 : World} {ow ow1 : Ow} {p q : List Nat} {ls : List (Nat × Value × List Op4)} {ws : List Value} (h : Its w ow p ls ws) (t : Turn q w ow w1 ow1) (hq : ∀ y ∈ ls, ¬ q <+: p ++ [3, y.1] ∧ ¬ q <+: p ++ [4, y.1]) : Its w1 ow1 p ls ws := fun i k v xs hi => by
  obtain ⟨h1, h2, u, h3, h4⟩ := h i k v xs hi
  obtain ⟨q1, q2⟩ := hq _ (List.mem_of_getElem? hi)
  exact ⟨h1.keep t q1, h2, u, h3, h4.keep t q2⟩
theorem Its.new_ {w w1 : World} {ow ow1 : Ow} {p : List Nat} {ls : List (Nat × Value × List Op4)} {ws : List Value} (h : Its w ow p ls ws) (t : New w ow w1 ow1) : Its w1 ow1 p ls ws := fun i k v xs hi => by
  obtain ⟨h1, h2, u, h3, h4⟩ := h i k v xs hi
  exact ⟨h1.new_ t, h2, u, h3, h4.new_ t⟩
theorem Its.snoc {w : World} {ow : Ow} {p : List Nat} {ls : List (Nat × Value × List Op4)} {ws : List Value} {k : Nat} {v u : Value} {xs : List Op4} (h : Its w ow p ls ws) (hl : ws.length = ls.length) (h1 : Row w ow (p ++ [3, k]) 32 4 v xs.length (css xs)) (h2 : xs.length ≤ 1099511627776) (h3 : Row w ow (p ++ [4, k]) 32 4 u xs.length (css xs)) : Its w ow p (ls ++ [(k, v, xs)]) (ws ++ [u]) := fun i k' v' xs' hi => by
  by_cases hlt : i < ls.length
  · rw [List.getElem?_append_left hlt] at hi
    rw [List.getElem?_append_left (by omega)]
    exact h i k' v' xs' hi
  · rw [List.getElem?_append_right (by omega)] at hi
    have : i - ls.length = 0 := by
      have := (List.getElem?_eq_some_iff.1 hi).1
      simp only [List.length_singleton] at this; omega
    rw [this] at hi
    simp only [List.getElem?_cons_zero, Option.some.injEq, Prod.mk.injEq] at hi
    obtain ⟨rfl, rfl, rfl⟩ := hi
    exact ⟨h1, h2, u, by rw [List.getElem?_append_right (by omega), show i - ws.length = 0 by omega]; rfl, h3⟩
theorem Its.tail {w : World} {ow : Ow} {p : List Nat} {ls : List (Nat × Value × List Op4)} {ws : List Value} (h : Its w ow p ls ws) : Its w ow p (ls.drop 1) (ws.drop 1) := fun i k v xs hi => by
  rw [List.getElem?_drop] at hi
  rw [List.getElem?_drop]
  exact h _ k v xs hi

/-- A book: numbers of what is kept rise, and lie below N. -/
def Bk (w : World) (ow : Ow) (p : List Nat) (g o N : Nat) (ls : List (Nat × Value × List Op4)) : Prop :=
  ∃ (vl vw : Value) (ws : List Value) (held : Int), Cells w ow (p ++ [0]) g o [vl, vw, .int .i64 held, .bool false] ∧ Row w ow (p ++ [1]) 22 1 vl ls.length (ls.map (·.2.1)) ∧ Row w ow (p ++ [2]) 22 1 vw ls.length ws ∧
    Its w ow p ls ws ∧ ls.Pairwise (fun a b => a.1 < b.1) ∧ ∀ y ∈ ls, y.1 < N
def Book (w : World) (ow : Ow) (p : List Nat) (g o N : Nat) : Prop := ∃ ls : List (Nat × Value × List Op4), ls.length ≤ 4000 ∧ Bk w ow p g o N ls
theorem Bk.keep {w w1 : World} {ow ow1 : Ow} {p q : List Nat} {g o N : Nat} {ls : List (Nat × Value × List Op4)} (h : Bk w ow p g o N ls) (t : Turn q w ow w1 ow1) (hq : ∀ s, ¬ q <+: p ++ s) : Bk w1 ow1 p g o N ls := by
  obtain ⟨vl, vw, ws, held, hc, hl, hw, hi, hp⟩ := h
  exact ⟨vl, vw, ws, held, hc.keep t (hq _), hl.keep t (hq _), hw.keep t (hq _), hi.keep t fun y _ => ⟨hq _, hq _⟩, hp⟩
theorem Book.keep {w w1 : World} {ow ow1 : Ow} {p q : List Nat} {g o N : Nat} (h : Book w ow p g o N) (t : Turn q w ow w1 ow1) (hq : ∀ s, ¬ q <+: p ++ s) : Book w1 ow1 p g o N := by
  obtain ⟨ls, h1, h2⟩ := h
  exact ⟨ls, h1, h2.keep t hq⟩
theorem Book.new_ {w w1 : World} {ow ow1 : Ow} {p : List Nat} {g o N : Nat} (h : Book w ow p g o N) (t : New w ow w1 ow1) : Book w1 ow1 p g o N := by
  obtain ⟨ls, h1, vl, vw, ws, held, hc, hl, hw, hi, hp⟩ := h
  exact ⟨ls, h1, vl, vw, ws, held, hc.new_ t, hl.new_ t, hw.new_ t, hi.new_ t, hp⟩
theorem Book.nil {w : World} {ow : Ow} {p : List Nat} {g o : Nat} (N : Nat) (h : Cells w ow (p ++ [0]) g o [.slice none 0 0, .slice none 0 0, .int .i64 0, .bool false]) : Book w ow p g o N :=
  ⟨[], Nat.zero_le _, _, _, [], 0, h, Row.nil _ _ _ _ _, Row.nil _ _ _ _ _, fun i k v xs hi => by simp at hi, List.Pairwise.nil, fun y hy => by cases hy⟩

/-- A row of one-cell elements, its first one left out. -/
theorem tail1 {w : World} {ow : Ow} {p : List Nat} {T b off n cap : Nat} {cs : List Value} (h : Row w ow p T 1 (.slice (some ⟨b, off, none⟩) n cap) n cs) (hn : 1 < n) : Row w ow p T 1 (.slice (some ⟨b, off + 1, none⟩) (n - 1) (cap - 1)) (n - 1) (cs.drop 1) := by
  refine ⟨by rw [List.length_drop, h.1]; omega, ?_⟩
  rcases h.2 with ⟨hv, _⟩ | ⟨g1, off1, cap1, c, hv, hg1, ho, hn1, hm, hs, hc⟩
  · simp at hv
  · simp only [Value.slice.injEq, Option.some.injEq, Addr.mk.injEq, and_true, true_and] at hv
    obtain ⟨⟨rfl, rfl⟩, rfl⟩ := hv
    refine .inr ⟨b, off + 1, cap - 1, c, rfl, hg1, ho, by omega, by omega, by omega, fun j u hj => ?_⟩
    rw [List.getElem?_drop] at hj
    rw [Nat.add_assoc]
    exact hc _ u hj

/-- What the loop of Keep keeps. -/
def keepRel (w : World) (ow : Ow) (p : List Nat) (g o N : Nat) (n : Nat) (wr : World) : Prop :=
  ∃ (OW : Ow) (ls : List (Nat × Value × List Op4)), ls.length = n ∧ ls.length ≤ 4001 ∧ Bk wr OW p g o N ls ∧ Turn p w ow wr OW

/-- What Keep leaves. -/
def KeptB (w : World) (ow : Ow) (p : List Nat) (g o N : Nat) (e : Ending) (w' : World) : Prop := ∃ ow', e = .returned (.tuple #[]) ∧ Book w' ow' p g o (N + 1) ∧ Turn p w ow w' ow'

set_option maxRecDepth 100000 in
set_option maxHeartbeats 8000000 in
theorem bk_keep (w : World) (ow : Ow) (p : List Nat) (g o N : Nat) (v : Value) (xs : List Op4) (h : Book w ow p g o N) (hv : Row w ow (p ++ [3, N]) 32 4 v xs.length (css xs)) (hx : xs.length ≤ 1099511627776) :
    Calls Tryd.prog 32 #[.pointer (some ⟨g, o, none⟩), v] w (KeptB w ow p g o N) := by
  obtain ⟨ls, hln, vl, vw, ws, held, hc, hl, hw, hi, hp, hN⟩ := h
  obtain ⟨A, c, rfl, hnc⟩ := hl.slice
  obtain ⟨Av, cv, rfl, hncv⟩ := hv.slice
  obtain ⟨Aw, cw, rfl, hncw⟩ := hw.slice
  have c0 := hc.get0
  have f0 := hc.free o
  have lg := hc.lt
  have Hi := Lib.hid hi
  have Hp := Lib.hid hp
  have HN := Lib.hid hN
  have hwl := hw.1
  have Hwl := Lib.hid hwl
  clear hi hp hN hwl
  go_enter Tryd.func32, Tryd.ntmps32
  go_wp2_with (at_builtin; refine wpList_append_row rfl (.tmp 8) (.tmp 10) 55 55 rfl 22 _ 1 24 Tryd.underlying55 infoSl rfl rfl (hl.alloc_ _) rfl ((Reads.new _ [.slice Av xs.length cv] _ 1 1 (Nat.le_refl _)).src Tryd.underlying55 rfl (by simp [Value.oneCell'])) (by unfold maxLen; omega) (by omega) ?_)
  intro v1 w1 ow1 hl1 t1
  obtain ⟨A1, c1, rfl, -⟩ := hl1.slice
  have ta := (Turn.refl (p ++ [1]) w ow).alloc_ (Obj.cells #[.slice Av xs.length cv] 22)
  have t1' := ta.trans t1
  have hc1 := hc.keep t1' (by simp)
  have hw1 := hw.keep t1' (by simp)
  have hv1 := hv.keep t1' (by simp)
  have hi1 := Hi.out.keep t1' (fun y _ => ⟨by simp, by simp⟩)
  have c0 := hc1.get0
  have f0 := hc1.free o
  have lg := hc1.lt
  have tb := hc1.turn 0 (.slice A1 (ls.length + 1) c1) (by simp)
  have hc2 := hc1.set0 (.slice A1 (ls.length + 1) c1)
  rw [Nat.add_zero] at tb
  have hl2 := hl1.keep tb (by simp)
  have hw2 := hw1.keep tb (by simp)
  have hv2 := hv1.keep tb (by simp)
  have hi2 := hi1.keep tb (fun y _ => ⟨by simp, by simp⟩)
  have t2 := (t1'.up (p := p) (by simp)).trans (tb.up (p := p) (by simp))
  have Hi2 := Lib.hid hi2
  have d1 := hc2.get 1 rfl
  have f1 := hc2.free (o + 1)
  have lg2 := hc2.lt
  clear hi1 hi2 ta t1 t1' hc hl hw hv hc1 hl1 hw1 hv1 tb Hi
  go_wp2_with fail
  generalize (w1.setCell ⟨g, o, none⟩ (.slice A1 (ls.length + 1) c1)) = w2 at *
  refine plain_regionN (fun W' => W'.cell? ⟨g, o + 1, none⟩ = some (.slice Aw ls.length cw)) [11] (by kernel_rfl) ?_
  have hS : (fun W' : World => W'.cell? ⟨g, o + 1, none⟩ = some (.slice Aw ls.length cw)) w2.drew := hc2.get 1 rfl
  refine anyX_takeN 0 (v := ?_) rfl rfl (by kernel_rfl) (by kernel_rfl) (by kernel_rfl) (by kernel_rfl) (by kernel_rfl) (fun _ _ _ h => h) rfl ?_ hS ?_
  rotate_left
  · intro W' hW'
    obtain hW' := hW'
    all_goals (go_simp; first | done | rfl)
  intro tm' htm
  simp only [List.setIfInBounds_toArray, List.set_cons_succ, List.set_cons_zero] at htm
  subst htm
  refine anyX_takeN 1 (v := ?_) rfl rfl (by kernel_rfl) (by kernel_rfl) (by kernel_rfl) (by kernel_rfl) (by kernel_rfl) (fun _ _ _ h => h) rfl ?_ hS ?_
  rotate_left
  · intro W' hW'
    obtain hW' := hW'
    all_goals (go_simp; first | done | rfl)
  intro tm' htm
  simp only [List.setIfInBounds_toArray, List.set_cons_succ, List.set_cons_zero] at htm
  subst htm
  refine anyX_takeN 2 (v := ?_) rfl rfl (by kernel_rfl) (by kernel_rfl) (by kernel_rfl) (by kernel_rfl) (by kernel_rfl) (fun _ _ _ h => h) rfl ?_ hS ?_
  rotate_left
  · intro W' hW'
    obtain hW' := hW'
    all_goals (go_simp; first | done | rfl)
  intro tm' htm
  simp only [List.setIfInBounds_toArray, List.set_cons_succ, List.set_cons_zero] at htm
  subst htm
  refine anyX_takeN 3 (v := ?_) rfl rfl (by kernel_rfl) (by kernel_rfl) (by kernel_rfl) (by kernel_rfl) (by kernel_rfl) (fun _ _ _ h => h) rfl ?_ hS ?_
  rotate_left
  · intro W' hW'
    obtain hW' := hW'
    all_goals (go_simp; first | done | rfl)
  intro tm' htm
  simp only [List.setIfInBounds_toArray, List.set_cons_succ, List.set_cons_zero] at htm
  subst htm
  refine anyX_takeN 4 (v := ?_) rfl rfl (by kernel_rfl) (by kernel_rfl) (by kernel_rfl) (by kernel_rfl) (by kernel_rfl) (fun _ _ _ h => h) rfl ?_ hS ?_
  rotate_left
  · intro W' hW'
    obtain hW' := hW'
    all_goals (go_simp; first | done | rfl)
  intro tm' htm
  simp only [List.setIfInBounds_toArray, List.set_cons_succ, List.set_cons_zero] at htm
  subst htm
  refine anyX_takeN 5 (v := ?_) rfl rfl (by kernel_rfl) (by kernel_rfl) (by kernel_rfl) (by kernel_rfl) (by kernel_rfl) (fun _ _ _ h => h) rfl ?_ hS ?_
  rotate_left
  · intro W' hW'
    obtain hW' := hW'
    all_goals (go_simp; first | done | rfl)
  intro tm' htm
  simp only [List.setIfInBounds_toArray, List.set_cons_succ, List.set_cons_zero] at htm
  subst htm
  refine anyX_one (i := 6) (by kernel_rfl) rfl rfl fun K' hK' => ?_
  refine wp_append_row (.const (.slice none 0 0)) (.tmp 19) 22 22 rfl 32 _ 4 32 Tryd.underlying22 info rfl rfl (Row.nil _ ow1 (p ++ [4, N]) _ _) rfl (hv2.drew.reads.src Tryd.underlying22 (css_length xs) (css_one xs)) (by unfold maxLen; omega) (by omega) ?_
  intro v3 w3 ow3 hr3 t3
  simp only [Nat.zero_add, List.nil_append] at hr3
  obtain ⟨A3, c3, rfl, hnc3⟩ := hr3.slice
  have hc3 := hc2.drew.keep t3 (by simp)
  have hw3 := hw2.drew.keep t3 (by simp)
  change K' (Act.put _ (some 20) _) _
  refine hK' _ _ (fun _ => hc3.get 1 rfl) ?_
  clear hK' K' hS
  simp only [Act.put, List.setIfInBounds_toArray, List.set_cons_succ, List.set_cons_zero]
  refine anyX_one (i := 7) (by kernel_rfl) rfl rfl fun K' hK' => ?_
  unfold Oper.wp
  go_simp
  refine hK' _ _ (fun _ => cell_alloc (hc3.get 1 rfl) _) ?_
  clear hK' K'
  refine anyX_one (i := 8) (by kernel_rfl) rfl rfl fun K' hK' => ?_
  refine wp_append_row (.tmp 18) (.tmp 21) 55 55 rfl 22 _ 1 24 Tryd.underlying55 infoSl rfl rfl (hw3.alloc_ _) rfl ((Reads.new _ [.slice A3 xs.length c3] _ 1 1 (Nat.le_refl _)).src Tryd.underlying55 rfl (by simp [Value.oneCell'])) (by unfold maxLen; omega) (by omega) ?_
  intro v4 w4 ow4 hr4 t4
  obtain ⟨A4, c4, rfl, hnc4⟩ := hr4.slice
  have hc4 := (hc3.alloc_ _).keep t4 (by simp)
  have f01 := hc4.free (o + 1)
  have hS : (fun W' : World => W'.cell? ⟨g, o + 1, none⟩ = some (.slice Aw ls.length cw)) w4 := hc4.get 1 rfl
  change K' (Act.put _ (some 22) _) _
  refine hK' _ _ (fun _ => hS) ?_
  clear hK' K'
  simp only [Act.put, List.setIfInBounds_toArray, List.set_cons_succ, List.set_cons_zero]
  refine anyX_one (i := 9) (by kernel_rfl) rfl rfl fun K' hK' => ?_
  unfold Oper.wp
  go_simp
  refine hK' _ _ (fun _ => hS) ?_
  clear hK' K'
  refine anyX_one (i := 10) (by kernel_rfl) rfl rfl fun K' hK' => ?_
  unfold Oper.wp
  go_simp
  refine hK' _ _ (fun _ => hS) ?_
  clear hK' K'
  refine anyX_one (i := 11) (by kernel_rfl) rfl rfl fun K' hK' => ?_
  unfold Oper.wp
  have c01 := hc4.get 1 rfl
  go_simp
  refine hK' _ _ (fun hf => by cases hf) (anyX_done (by kernel_rfl) ?_ _)
  refine NoPanic.normal ?_
  clear hK' K' hS
  have hl4 := ((hl2.drew.keep t3 (by simp)).alloc_ (Obj.cells #[.slice A3 xs.length c3] 22)).keep t4 (by simp)
  have hv4 := ((hv2.drew.keep t3 (by simp)).alloc_ (Obj.cells #[.slice A3 xs.length c3] 22)).keep t4 (by simp)
  have hr5 := (hr3.alloc_ (Obj.cells #[.slice A3 xs.length c3] 22)).keep t4 (by simp)
  have ta := ((Turn.refl (p ++ [4, N]) _ ow1).drew.trans t3).alloc_ (Obj.cells #[.slice A3 xs.length c3] 22)
  have hi4 := (Hi2.out.keep ta (fun y hy => ⟨by simp, by have := HN.out y hy; simp; omega⟩)).keep t4 (fun y _ => ⟨by simp, by simp⟩)
  have t5 := (t2.trans (ta.up (by simp))).trans (t4.up (by simp))
  have tb := hc4.turn 1 (.slice A4 (ls.length + 1) c4) (by simp)
  have hc5 := hc4.set 1 (.slice A4 (ls.length + 1) c4) (by simp)
  have hl5 := hl4.keep tb (by simp)
  have hr6 := hr4.keep tb (by simp)
  have hw5 := hr5.keep tb (by simp)
  have hv5 := hv4.keep tb (by simp)
  have hi5 := hi4.keep tb (fun y _ => ⟨by simp, by simp⟩)
  have t6 := t5.trans (tb.up (by simp))
  simp only [List.set_cons_succ, List.set_cons_zero] at hc5
  clear hl4 hv4 hr5 ta hi4 t5 tb hc4 hr4 hc3 hw3 hr3 t3 t4 hc2 hl2 hw2 hv2 t2 Hi2 d1 f1 lg2 c0 f0 lg
  have hi5 := hi5.snoc (by have := Hwl.out; omega) hv5 hx hw5
  have hw5 := hr6
  have t5 := t6
  clear hv5 hr6 t6
  generalize (w4.setCell ⟨g, o + 1, none⟩ (.slice A4 (ls.length + 1) c4)) = w5 at *
  have d2 := hc5.get 2 rfl
  have f2 := hc5.free (o + 2)
  have lg := hc5.lt
  have hpw : (ls ++ [(N, Value.slice Av xs.length cv, xs)]).Pairwise (fun a b => a.1 < b.1) := by
    rw [List.pairwise_append]
    refine ⟨Hp.out, List.pairwise_singleton _ _, fun a ha b hb => ?_⟩
    rw [List.mem_singleton.1 hb]
    exact HN.out a ha
  have hNw : ∀ y ∈ ls ++ [(N, Value.slice Av xs.length cv, xs)], y.1 < N + 1 := fun y hy => by
    rcases List.mem_append.1 hy with hy | hy
    · have := HN.out y hy; omega
    · rw [List.mem_singleton.1 hy]; simp
  have fin : ∀ u, keepRel w ow p g o (N + 1) (ls.length + 1) (w5.setCell ⟨g, o + 2, none⟩ (.int .i64 u)) := fun u => by
    have tb := hc5.turn 2 (.int .i64 u) (by simp)
    refine ⟨ow4, ls ++ [(N, Value.slice Av xs.length cv, xs)], by simp, by simp; omega, ⟨_, _, _, u, hc5.set 2 (.int .i64 u) (by simp), ?_, ?_, hi5.keep tb (fun y _ => ⟨by simp, by simp⟩), hpw, hNw⟩, t5.trans (tb.up (by simp))⟩
    · have := hl5.keep tb (by simp)
      simpa using this
    · have := hw5.keep tb (by simp)
      simpa using this
  have Fin := Lib.hid fin
  clear hpw hNw fin hi5 hl5 hw5 t5 Hp HN
  go_wp2
  go_loopg [] (ls.length + 1) (fun k wr => keepRel w ow p g o (N + 1) k wr)
  case atStart => exact Fin.out _
  case round =>
    clear d2 f2 lg Fin hc5
    obtain ⟨OW, ls', hlen, h41, ⟨vl, vw, ws', held', kc, kl, kw, ki, kp, kN⟩, kt⟩ := hrel
    obtain ⟨Al, cl, rfl, hncl⟩ := kl.slice
    obtain ⟨Ab, cb, rfl, hncb⟩ := kw.slice
    have c0 := kc.get0
    have c1' := kc.get 1 rfl
    have c2' := kc.get 2 rfl
    have c3' := kc.get 3 rfl
    have lg := kc.lt
    by_cases hmore : 1 < ls'.length ∧ (1000000 < held' ∨ ¬ 1000000 < held' ∧ 4000 < ls'.length)
    · obtain ⟨⟨k1, v1', xs1⟩, rest, rfl⟩ : ∃ y r, ls' = y :: r := List.exists_cons_of_length_pos (by omega)
      obtain ⟨r1, b1, u1, hu1, r2⟩ := ki 0 k1 v1' xs1 rfl
      have kt1 := ki.tail
      have kp1 := (List.pairwise_cons.1 kp).2
      have kN1 : ∀ y ∈ rest, y.1 < N + 1 := fun y hy => kN y (List.mem_cons_of_mem _ hy)
      simp only [List.length_cons, List.map_cons] at kl kw c0 c1' hlen h41 hmore hncl hncb
      obtain ⟨bl, ol, capl, hvl, -⟩ := kl.at (by omega)
      simp only [Value.slice.injEq] at hvl
      obtain ⟨rfl, -, rfl⟩ := hvl
      obtain ⟨bw, ow_, capw, hvw, -⟩ := kw.at (by omega)
      simp only [Value.slice.injEq] at hvw
      obtain ⟨rfl, -, rfl⟩ := hvw
      obtain ⟨-, -, -, hcl⟩ := kl.open_
      obtain ⟨-, -, -, hcw⟩ := kw.open_
      have e0 := hcl 0 v1' rfl
      have e1 := hcw 0 u1 hu1
      rw [Nat.add_zero] at e0 e1
      have gl : ¬ g = bl := kl.ne kc (by simp) (by simp)
      have gw : ¬ g = bw := kw.ne kc (by simp) (by simp)
      obtain ⟨A1', c1'', rfl, hnc1⟩ := r1.slice
      have hsame := fun W (hW : Below wr.heap.size wr W) => same_yes W _ _ xs1 b1 (r1.reads.new_ hW) (r2.reads.new_ hW)
      have Hsame := Lib.hid hsame
      have og0 : p ++ [0] <+: OW g o := kc.under0 (List.prefix_refl _)
      have og1 : p ++ [0] <+: OW g (o + 1) := kc.under 1 (by simp) (List.prefix_refl _)
      have og2 : p ++ [0] <+: OW g (o + 2) := kc.under 2 (by simp) (List.prefix_refl _)
      have og3 : p ++ [0] <+: OW g (o + 3) := kc.under 3 (by simp) (List.prefix_refl _)
      have hlt := tail1 kl (by omega)
      have hwt := tail1 kw (by omega)
      simp only [Nat.add_sub_cancel, List.drop_succ_cons, List.drop_zero] at hlt hwt kt1
      have cl1 : ¬ cl = 1 := by omega
      have cb1 : ¬ cb = 1 := by omega
      have fg := kc.free
      have Kt1 := Lib.hid kt1
      have Kp1 := Lib.hid kp1
      have KN1 := Lib.hid kN1
      have Hu := Lib.hid hu1
      have Hlen := Lib.hid hlen
      clear hsame ki kp kN hcl hcw kt1 kp1 kN1 hu1 r1 r2 hlen
      obtain ⟨h1, h2⟩ := hmore
      have h1' : (1 : Int) < (rest.length : Int) + 1 := by omega
      have h2' : 1000000 < held' ∨ ¬ 1000000 < held' ∧ (4000 : Int) < (rest.length : Int) + 1 := by omega
      clear h1 h2
      rcases h2' with h2 | ⟨h2, h3⟩
      · go_wp2_with fail
        refine plain_regionN (fun W' => ∃ k, W' = wr.drewN k ∨ W' = (wr.drewN k).setCell ⟨g, o + 3, none⟩ (.bool false)) [] (by kernel_rfl) ?_
        have hS : (fun W' : World => ∃ k, W' = wr.drewN k ∨ W' = (wr.drewN k).setCell ⟨g, o + 3, none⟩ (.bool false)) wr.drew := ⟨1, .inl rfl⟩
        refine anyX_takeN 0 (v := ?_) rfl rfl (by kernel_rfl) (by kernel_rfl) (by kernel_rfl) (by kernel_rfl) (by kernel_rfl) (fun _ _ _ h => h) rfl ?_ hS ?_
        rotate_left
        · intro W' hW'
          obtain ⟨kq, rfl | rfl⟩ := hW'
          all_goals (go_simp; first | done | rfl)
        intro tm' htm
        simp only [List.setIfInBounds_toArray, List.set_cons_succ, List.set_cons_zero] at htm
        subst htm
        refine anyX_takeN 1 (v := ?_) rfl rfl (by kernel_rfl) (by kernel_rfl) (by kernel_rfl) (by kernel_rfl) (by kernel_rfl) (fun _ _ _ h => h) rfl ?_ hS ?_
        rotate_left
        · intro W' hW'
          obtain ⟨kq, rfl | rfl⟩ := hW'
          all_goals (go_simp; first | done | rfl)
        intro tm' htm
        simp only [List.setIfInBounds_toArray, List.set_cons_succ, List.set_cons_zero] at htm
        subst htm
        refine anyX_takeN 2 (v := ?_) rfl rfl (by kernel_rfl) (by kernel_rfl) (by kernel_rfl) (by kernel_rfl) (by kernel_rfl) (fun _ _ _ h => h) rfl ?_ hS ?_
        rotate_left
        · intro W' hW'
          obtain ⟨kq, rfl | rfl⟩ := hW'
          all_goals (go_simp; first | done | rfl)
        intro tm' htm
        simp only [List.setIfInBounds_toArray, List.set_cons_succ, List.set_cons_zero] at htm
        subst htm
        refine anyX_takeN 3 (v := ?_) rfl rfl (by kernel_rfl) (by kernel_rfl) (by kernel_rfl) (by kernel_rfl) (by kernel_rfl) (fun _ _ _ h => h) rfl ?_ hS ?_
        rotate_left
        · intro W' hW'
          obtain ⟨kq, rfl | rfl⟩ := hW'
          all_goals (go_simp; first | done | rfl)
        intro tm' htm
        simp only [List.setIfInBounds_toArray, List.set_cons_succ, List.set_cons_zero] at htm
        subst htm
        refine anyX_takeN 4 (v := ?_) rfl rfl (by kernel_rfl) (by kernel_rfl) (by kernel_rfl) (by kernel_rfl) (by kernel_rfl) (fun _ _ _ h => h) rfl ?_ hS ?_
        rotate_left
        · intro W' hW'
          obtain ⟨kq, rfl | rfl⟩ := hW'
          all_goals (go_simp; first | done | rfl)
        intro tm' htm
        simp only [List.setIfInBounds_toArray, List.set_cons_succ, List.set_cons_zero] at htm
        subst htm
        refine anyX_takeN 5 (v := ?_) rfl rfl (by kernel_rfl) (by kernel_rfl) (by kernel_rfl) (by kernel_rfl) (by kernel_rfl) (fun _ _ _ h => h) rfl ?_ hS ?_
        rotate_left
        · intro W' hW'
          obtain ⟨kq, rfl | rfl⟩ := hW'
          all_goals (go_simp; first | done | rfl)
        intro tm' htm
        simp only [List.setIfInBounds_toArray, List.set_cons_succ, List.set_cons_zero] at htm
        subst htm
        refine anyX_takeW 6 (v := ?_) rfl rfl (by kernel_rfl) (by kernel_rfl) (by kernel_rfl) (by kernel_rfl) (by kernel_rfl) (fun _ _ _ h => h) (by rfl) ?_ hS ?_
        rotate_left
        · intro W' hW'
          obtain ⟨kq, rfl | rfl⟩ := hW'
          all_goals (go_simp; first | done | rfl)
        intro tm' htm
        simp only [List.setIfInBounds_toArray, List.set_cons_succ, List.set_cons_zero] at htm
        subst htm
        refine anyX_takeW 7 (v := ?_) rfl rfl (by kernel_rfl) (by kernel_rfl) (by kernel_rfl) (by kernel_rfl) (by kernel_rfl) (fun _ _ _ h => h) (by rfl) ?_ hS ?_
        rotate_left
        · intro W' hW'
          obtain ⟨kq, rfl | rfl⟩ := hW'
          all_goals (go_simp; first | done | rfl)
        intro tm' htm
        simp only [List.setIfInBounds_toArray, List.set_cons_succ, List.set_cons_zero] at htm
        subst htm
        refine anyX_takeW 8 (v := ?_) rfl rfl (by kernel_rfl) (by kernel_rfl) (by kernel_rfl) (by kernel_rfl) (by kernel_rfl) (fun _ _ _ h => h) (by rfl) ?_ hS ?_
        rotate_left
        · intro W' hW'
          obtain ⟨kq, rfl | rfl⟩ := hW'
          all_goals (go_simp; first | done | rfl)
        intro tm' htm
        simp only [List.setIfInBounds_toArray, List.set_cons_succ, List.set_cons_zero] at htm
        subst htm
        refine anyX_takeW 9 (v := ?_) rfl rfl (by kernel_rfl) (by kernel_rfl) (by kernel_rfl) (by kernel_rfl) (by kernel_rfl) (fun _ _ _ h => h) (by rfl) ?_ hS ?_
        rotate_left
        · intro W' hW'
          obtain ⟨kq, rfl | rfl⟩ := hW'
          all_goals (go_simp; first | done | rfl)
        intro tm' htm
        simp only [List.setIfInBounds_toArray, List.set_cons_succ, List.set_cons_zero] at htm
        subst htm
        refine anyX_takeW 10 (v := ?_) rfl rfl (by kernel_rfl) (by kernel_rfl) (by kernel_rfl) (by kernel_rfl) (by kernel_rfl) (fun _ _ _ h => h) (by rfl) ?_ hS ?_
        rotate_left
        · intro W' hW'
          obtain ⟨kq, rfl | rfl⟩ := hW'
          all_goals (go_simp; first | done | rfl)
        intro tm' htm
        simp only [List.setIfInBounds_toArray, List.set_cons_succ, List.set_cons_zero] at htm
        subst htm
        refine anyX_takeW 11 (v := ?_) rfl rfl (by kernel_rfl) (by kernel_rfl) (by kernel_rfl) (by kernel_rfl) (by kernel_rfl) (fun _ _ _ h => h) (by rfl) ?_ hS ?_
        rotate_left
        · intro W' hW'
          obtain ⟨kq, rfl | rfl⟩ := hW'
          all_goals (go_simp; first | done | rfl)
        intro tm' htm
        simp only [List.setIfInBounds_toArray, List.set_cons_succ, List.set_cons_zero] at htm
        subst htm
        refine anyX_takeW 12 (v := ?_) rfl rfl (by kernel_rfl) (by kernel_rfl) (by kernel_rfl) (by kernel_rfl) (by kernel_rfl) (fun _ _ _ h => h) (by rfl) ?_ hS ?_
        rotate_left
        · intro W' hW'
          obtain ⟨kq, rfl | rfl⟩ := hW'
          all_goals (go_simp; first | done | rfl)
        intro tm' htm
        simp only [List.setIfInBounds_toArray, List.set_cons_succ, List.set_cons_zero] at htm
        subst htm
        refine anyX_takeW 13 (v := ?_) rfl rfl (by kernel_rfl) (by kernel_rfl) (by kernel_rfl) (by kernel_rfl) (by kernel_rfl) (fun _ _ _ h => h) (by rfl) ?_ hS ?_
        rotate_left
        · intro W' hW'
          obtain ⟨kq, rfl | rfl⟩ := hW'
          all_goals (go_simp; first | done | rfl)
        intro tm' htm
        simp only [List.setIfInBounds_toArray, List.set_cons_succ, List.set_cons_zero] at htm
        subst htm
        refine anyX_takeW 14 (v := ?_) rfl rfl (by kernel_rfl) (by kernel_rfl) (by kernel_rfl) (by kernel_rfl) (by kernel_rfl) (fun _ _ _ h => h) (by rfl) ?_ hS ?_
        rotate_left
        · intro W' hW'
          obtain ⟨kq, rfl | rfl⟩ := hW'
          all_goals (go_simp; first | done | rfl)
        intro tm' htm
        simp only [List.setIfInBounds_toArray, List.set_cons_succ, List.set_cons_zero] at htm
        subst htm
        refine anyX_takeW 15 (v := ?_) rfl rfl (by kernel_rfl) (by kernel_rfl) (by kernel_rfl) (by kernel_rfl) (by kernel_rfl) (fun _ _ _ h => h) (by rfl) ?_ hS ?_
        rotate_left
        · intro W' hW'
          obtain ⟨kq, rfl | rfl⟩ := hW'
          all_goals (go_simp; first | done | rfl)
        intro tm' htm
        simp only [List.setIfInBounds_toArray, List.set_cons_succ, List.set_cons_zero] at htm
        subst htm
        refine anyX_takeW 16 (v := ?_) rfl rfl (by kernel_rfl) (by kernel_rfl) (by kernel_rfl) (by kernel_rfl) (by kernel_rfl) (fun _ _ _ h => h) (by rfl) ?_ hS ?_
        rotate_left
        · intro W' hW'
          obtain ⟨kq, rfl | rfl⟩ := hW'
          all_goals (go_simp; first | done | rfl)
        intro tm' htm
        simp only [List.setIfInBounds_toArray, List.set_cons_succ, List.set_cons_zero] at htm
        subst htm
        refine anyX_takeW 17 (v := ?_) rfl rfl (by kernel_rfl) (by kernel_rfl) (by kernel_rfl) (by kernel_rfl) (by kernel_rfl) (fun _ _ _ h => h) (by rfl) ?_ hS ?_
        rotate_left
        · intro W' hW'
          obtain ⟨kq, rfl | rfl⟩ := hW'
          all_goals (go_simp; first | done | rfl)
        intro tm' htm
        simp only [List.setIfInBounds_toArray, List.set_cons_succ, List.set_cons_zero] at htm
        subst htm
        refine anyX_oneW (i := 18) (by kernel_rfl) rfl (by rfl) fun K' hK' => ?_
        unfold Oper.wp
        go_simp
        refine (Hsame.out _ (by repeat (first | (with_reducible assumption) | (with_reducible exact Below.refl _ _) | (with_reducible refine Below.drew ?_) | (with_reducible refine bdN ?_ _) | ((with_reducible refine bdS ?_ ?_ _); · first | (simp; done) | omega | (simp; omega)) | ((with_reducible refine bdA ?_ ?_ _); · first | (simp; done) | omega | (simp; omega))))).mono ?_
        rintro e w6 ⟨rfl, k6, rfl⟩
        refine hK' _ _ (fun _ => ⟨1 + k6, .inl (World.drewN_drewN (w := wr) (n := 1) (m := k6))⟩) ?_
        clear hK' K'
        have hS : (fun W' : World => ∃ k, W' = wr.drewN k ∨ W' = (wr.drewN k).setCell ⟨g, o + 3, none⟩ (.bool false)) (wr.drew.drewN k6) := ⟨1 + k6, .inl (World.drewN_drewN (w := wr) (n := 1) (m := k6))⟩
        refine anyX_takeW 19 (v := ?_) rfl rfl (by kernel_rfl) (by kernel_rfl) (by kernel_rfl) (by kernel_rfl) (by kernel_rfl) (fun _ _ _ h => h) (by rfl) ?_ hS ?_
        rotate_left
        · intro W' hW'
          obtain ⟨kq, rfl | rfl⟩ := hW'
          all_goals (go_simp; first | done | rfl)
        intro tm' htm
        simp only [List.setIfInBounds_toArray, List.set_cons_succ, List.set_cons_zero] at htm
        subst htm
        refine anyX_takeN 20 (v := ?_) rfl rfl (by kernel_rfl) (by kernel_rfl) (by kernel_rfl) (by kernel_rfl) (by kernel_rfl) (fun _ _ _ h => h) rfl ?_ hS ?_
        rotate_left
        · intro W' hW'
          obtain ⟨kq, rfl | rfl⟩ := hW'
          all_goals (go_simp; first | done | rfl)
        intro tm' htm
        simp only [List.setIfInBounds_toArray, List.set_cons_succ, List.set_cons_zero] at htm
        subst htm
        refine anyX_takeN 21 (v := ?_) rfl rfl (by kernel_rfl) (by kernel_rfl) (by kernel_rfl) (by kernel_rfl) (by kernel_rfl) (fun _ _ _ h => h) rfl ?_ hS ?_
        rotate_left
        · intro W' hW'
          obtain ⟨kq, rfl | rfl⟩ := hW'
          all_goals (go_simp; first | done | rfl)
        intro tm' htm
        simp only [List.setIfInBounds_toArray, List.set_cons_succ, List.set_cons_zero] at htm
        subst htm
        refine anyX_takeN 22 (v := ?_) rfl rfl (by kernel_rfl) (by kernel_rfl) (by kernel_rfl) (by kernel_rfl) (by kernel_rfl) (fun _ _ _ h => h) rfl ?_ hS ?_
        rotate_left
        · intro W' hW'
          obtain ⟨kq, rfl | rfl⟩ := hW'
          all_goals (go_simp; first | done | rfl)
        intro tm' htm
        simp only [List.setIfInBounds_toArray, List.set_cons_succ, List.set_cons_zero] at htm
        subst htm
        refine anyX_one (i := 23) (by kernel_rfl) rfl rfl fun K' hK' => ?_
        unfold Oper.wp
        go_simp
        refine hK' _ _ (fun _ => ⟨1 + k6, .inr rfl⟩) (anyX_done (by kernel_rfl) ?_ _)
        refine NoPanic.normal ?_
        clear hK' K'
        go_wp2
        go_region
        all_goals
        go_wp2
        go_roundg rest.length
        case measure => have := Hlen.out; omega
        case rel =>
          refine ⟨OW, rest, rfl, by omega, ⟨_, _, ws'.drop 1, _, ((((kc.set 3 _ (by simp)).set 2 _ (by simp)).set 0 _ (by simp)).set 1 _ (by simp)), ?_, ?_, ?_, Kp1.out, KN1.out⟩, ?_⟩
          · refine hlt.keep (q := p ++ [0]) ?_ (by simp)
            repeat (first | (with_reducible exact Turn.refl _ _ _) | (with_reducible refine Turn.drew ?_) | (with_reducible refine Turn.drewN ?_ _) | (with_reducible refine Turn.alloc_ ?_ _) | ((with_reducible refine Turn.setNew ?_ ?_ _); · first | (simp; done) | omega | (simp; omega)) | ((with_reducible refine Turn.setO ?_ ?_ _); · first | assumption | exact ob _ | (simp [*]; done)))
          · refine hwt.keep (q := p ++ [0]) ?_ (by simp)
            repeat (first | (with_reducible exact Turn.refl _ _ _) | (with_reducible refine Turn.drew ?_) | (with_reducible refine Turn.drewN ?_ _) | (with_reducible refine Turn.alloc_ ?_ _) | ((with_reducible refine Turn.setNew ?_ ?_ _); · first | (simp; done) | omega | (simp; omega)) | ((with_reducible refine Turn.setO ?_ ?_ _); · first | assumption | exact ob _ | (simp [*]; done)))
          · refine Kt1.out.keep (q := p ++ [0]) ?_ (fun y _ => ⟨by simp, by simp⟩)
            repeat (first | (with_reducible exact Turn.refl _ _ _) | (with_reducible refine Turn.drew ?_) | (with_reducible refine Turn.drewN ?_ _) | (with_reducible refine Turn.alloc_ ?_ _) | ((with_reducible refine Turn.setNew ?_ ?_ _); · first | (simp; done) | omega | (simp; omega)) | ((with_reducible refine Turn.setO ?_ ?_ _); · first | assumption | exact ob _ | (simp [*]; done)))
          · refine kt.trans (Turn.up (q := p ++ [0]) ?_ (by simp))
            repeat (first | (with_reducible exact Turn.refl _ _ _) | (with_reducible refine Turn.drew ?_) | (with_reducible refine Turn.drewN ?_ _) | (with_reducible refine Turn.alloc_ ?_ _) | ((with_reducible refine Turn.setNew ?_ ?_ _); · first | (simp; done) | omega | (simp; omega)) | ((with_reducible refine Turn.setO ?_ ?_ _); · first | assumption | exact ob _ | (simp [*]; done)))
      · go_wp2_with fail
        refine plain_regionN (fun W' => ∃ k, W' = wr.drewN k ∨ W' = (wr.drewN k).setCell ⟨g, o + 3, none⟩ (.bool false)) [] (by kernel_rfl) ?_
        have hS : (fun W' : World => ∃ k, W' = wr.drewN k ∨ W' = (wr.drewN k).setCell ⟨g, o + 3, none⟩ (.bool false)) wr.drew := ⟨1, .inl rfl⟩
        refine anyX_takeN 0 (v := ?_) rfl rfl (by kernel_rfl) (by kernel_rfl) (by kernel_rfl) (by kernel_rfl) (by kernel_rfl) (fun _ _ _ h => h) rfl ?_ hS ?_
        rotate_left
        · intro W' hW'
          obtain ⟨kq, rfl | rfl⟩ := hW'
          all_goals (go_simp; first | done | rfl)
        intro tm' htm
        simp only [List.setIfInBounds_toArray, List.set_cons_succ, List.set_cons_zero] at htm
        subst htm
        refine anyX_takeN 1 (v := ?_) rfl rfl (by kernel_rfl) (by kernel_rfl) (by kernel_rfl) (by kernel_rfl) (by kernel_rfl) (fun _ _ _ h => h) rfl ?_ hS ?_
        rotate_left
        · intro W' hW'
          obtain ⟨kq, rfl | rfl⟩ := hW'
          all_goals (go_simp; first | done | rfl)
        intro tm' htm
        simp only [List.setIfInBounds_toArray, List.set_cons_succ, List.set_cons_zero] at htm
        subst htm
        refine anyX_takeN 2 (v := ?_) rfl rfl (by kernel_rfl) (by kernel_rfl) (by kernel_rfl) (by kernel_rfl) (by kernel_rfl) (fun _ _ _ h => h) rfl ?_ hS ?_
        rotate_left
        · intro W' hW'
          obtain ⟨kq, rfl | rfl⟩ := hW'
          all_goals (go_simp; first | done | rfl)
        intro tm' htm
        simp only [List.setIfInBounds_toArray, List.set_cons_succ, List.set_cons_zero] at htm
        subst htm
        refine anyX_takeN 3 (v := ?_) rfl rfl (by kernel_rfl) (by kernel_rfl) (by kernel_rfl) (by kernel_rfl) (by kernel_rfl) (fun _ _ _ h => h) rfl ?_ hS ?_
        rotate_left
        · intro W' hW'
          obtain ⟨kq, rfl | rfl⟩ := hW'
          all_goals (go_simp; first | done | rfl)
        intro tm' htm
        simp only [List.setIfInBounds_toArray, List.set_cons_succ, List.set_cons_zero] at htm
        subst htm
        refine anyX_takeN 4 (v := ?_) rfl rfl (by kernel_rfl) (by kernel_rfl) (by kernel_rfl) (by kernel_rfl) (by kernel_rfl) (fun _ _ _ h => h) rfl ?_ hS ?_
        rotate_left
        · intro W' hW'
          obtain ⟨kq, rfl | rfl⟩ := hW'
          all_goals (go_simp; first | done | rfl)
        intro tm' htm
        simp only [List.setIfInBounds_toArray, List.set_cons_succ, List.set_cons_zero] at htm
        subst htm
        refine anyX_takeN 5 (v := ?_) rfl rfl (by kernel_rfl) (by kernel_rfl) (by kernel_rfl) (by kernel_rfl) (by kernel_rfl) (fun _ _ _ h => h) rfl ?_ hS ?_
        rotate_left
        · intro W' hW'
          obtain ⟨kq, rfl | rfl⟩ := hW'
          all_goals (go_simp; first | done | rfl)
        intro tm' htm
        simp only [List.setIfInBounds_toArray, List.set_cons_succ, List.set_cons_zero] at htm
        subst htm
        refine anyX_takeW 6 (v := ?_) rfl rfl (by kernel_rfl) (by kernel_rfl) (by kernel_rfl) (by kernel_rfl) (by kernel_rfl) (fun _ _ _ h => h) (by rfl) ?_ hS ?_
        rotate_left
        · intro W' hW'
          obtain ⟨kq, rfl | rfl⟩ := hW'
          all_goals (go_simp; first | done | rfl)
        intro tm' htm
        simp only [List.setIfInBounds_toArray, List.set_cons_succ, List.set_cons_zero] at htm
        subst htm
        refine anyX_takeW 7 (v := ?_) rfl rfl (by kernel_rfl) (by kernel_rfl) (by kernel_rfl) (by kernel_rfl) (by kernel_rfl) (fun _ _ _ h => h) (by rfl) ?_ hS ?_
        rotate_left
        · intro W' hW'
          obtain ⟨kq, rfl | rfl⟩ := hW'
          all_goals (go_simp; first | done | rfl)
        intro tm' htm
        simp only [List.setIfInBounds_toArray, List.set_cons_succ, List.set_cons_zero] at htm
        subst htm
        refine anyX_takeW 8 (v := ?_) rfl rfl (by kernel_rfl) (by kernel_rfl) (by kernel_rfl) (by kernel_rfl) (by kernel_rfl) (fun _ _ _ h => h) (by rfl) ?_ hS ?_
        rotate_left
        · intro W' hW'
          obtain ⟨kq, rfl | rfl⟩ := hW'
          all_goals (go_simp; first | done | rfl)
        intro tm' htm
        simp only [List.setIfInBounds_toArray, List.set_cons_succ, List.set_cons_zero] at htm
        subst htm
        refine anyX_takeW 9 (v := ?_) rfl rfl (by kernel_rfl) (by kernel_rfl) (by kernel_rfl) (by kernel_rfl) (by kernel_rfl) (fun _ _ _ h => h) (by rfl) ?_ hS ?_
        rotate_left
        · intro W' hW'
          obtain ⟨kq, rfl | rfl⟩ := hW'
          all_goals (go_simp; first | done | rfl)
        intro tm' htm
        simp only [List.setIfInBounds_toArray, List.set_cons_succ, List.set_cons_zero] at htm
        subst htm
        refine anyX_takeW 10 (v := ?_) rfl rfl (by kernel_rfl) (by kernel_rfl) (by kernel_rfl) (by kernel_rfl) (by kernel_rfl) (fun _ _ _ h => h) (by rfl) ?_ hS ?_
        rotate_left
        · intro W' hW'
          obtain ⟨kq, rfl | rfl⟩ := hW'
          all_goals (go_simp; first | done | rfl)
        intro tm' htm
        simp only [List.setIfInBounds_toArray, List.set_cons_succ, List.set_cons_zero] at htm
        subst htm
        refine anyX_takeW 11 (v := ?_) rfl rfl (by kernel_rfl) (by kernel_rfl) (by kernel_rfl) (by kernel_rfl) (by kernel_rfl) (fun _ _ _ h => h) (by rfl) ?_ hS ?_
        rotate_left
        · intro W' hW'
          obtain ⟨kq, rfl | rfl⟩ := hW'
          all_goals (go_simp; first | done | rfl)
        intro tm' htm
        simp only [List.setIfInBounds_toArray, List.set_cons_succ, List.set_cons_zero] at htm
        subst htm
        refine anyX_takeW 12 (v := ?_) rfl rfl (by kernel_rfl) (by kernel_rfl) (by kernel_rfl) (by kernel_rfl) (by kernel_rfl) (fun _ _ _ h => h) (by rfl) ?_ hS ?_
        rotate_left
        · intro W' hW'
          obtain ⟨kq, rfl | rfl⟩ := hW'
          all_goals (go_simp; first | done | rfl)
        intro tm' htm
        simp only [List.setIfInBounds_toArray, List.set_cons_succ, List.set_cons_zero] at htm
        subst htm
        refine anyX_takeW 13 (v := ?_) rfl rfl (by kernel_rfl) (by kernel_rfl) (by kernel_rfl) (by kernel_rfl) (by kernel_rfl) (fun _ _ _ h => h) (by rfl) ?_ hS ?_
        rotate_left
        · intro W' hW'
          obtain ⟨kq, rfl | rfl⟩ := hW'
          all_goals (go_simp; first | done | rfl)
        intro tm' htm
        simp only [List.setIfInBounds_toArray, List.set_cons_succ, List.set_cons_zero] at htm
        subst htm
        refine anyX_takeW 14 (v := ?_) rfl rfl (by kernel_rfl) (by kernel_rfl) (by kernel_rfl) (by kernel_rfl) (by kernel_rfl) (fun _ _ _ h => h) (by rfl) ?_ hS ?_
        rotate_left
        · intro W' hW'
          obtain ⟨kq, rfl | rfl⟩ := hW'
          all_goals (go_simp; first | done | rfl)
        intro tm' htm
        simp only [List.setIfInBounds_toArray, List.set_cons_succ, List.set_cons_zero] at htm
        subst htm
        refine anyX_takeW 15 (v := ?_) rfl rfl (by kernel_rfl) (by kernel_rfl) (by kernel_rfl) (by kernel_rfl) (by kernel_rfl) (fun _ _ _ h => h) (by rfl) ?_ hS ?_
        rotate_left
        · intro W' hW'
          obtain ⟨kq, rfl | rfl⟩ := hW'
          all_goals (go_simp; first | done | rfl)
        intro tm' htm
        simp only [List.setIfInBounds_toArray, List.set_cons_succ, List.set_cons_zero] at htm
        subst htm
        refine anyX_takeW 16 (v := ?_) rfl rfl (by kernel_rfl) (by kernel_rfl) (by kernel_rfl) (by kernel_rfl) (by kernel_rfl) (fun _ _ _ h => h) (by rfl) ?_ hS ?_
        rotate_left
        · intro W' hW'
          obtain ⟨kq, rfl | rfl⟩ := hW'
          all_goals (go_simp; first | done | rfl)
        intro tm' htm
        simp only [List.setIfInBounds_toArray, List.set_cons_succ, List.set_cons_zero] at htm
        subst htm
        refine anyX_takeW 17 (v := ?_) rfl rfl (by kernel_rfl) (by kernel_rfl) (by kernel_rfl) (by kernel_rfl) (by kernel_rfl) (fun _ _ _ h => h) (by rfl) ?_ hS ?_
        rotate_left
        · intro W' hW'
          obtain ⟨kq, rfl | rfl⟩ := hW'
          all_goals (go_simp; first | done | rfl)
        intro tm' htm
        simp only [List.setIfInBounds_toArray, List.set_cons_succ, List.set_cons_zero] at htm
        subst htm
        refine anyX_oneW (i := 18) (by kernel_rfl) rfl (by rfl) fun K' hK' => ?_
        unfold Oper.wp
        go_simp
        refine (Hsame.out _ (by repeat (first | (with_reducible assumption) | (with_reducible exact Below.refl _ _) | (with_reducible refine Below.drew ?_) | (with_reducible refine bdN ?_ _) | ((with_reducible refine bdS ?_ ?_ _); · first | (simp; done) | omega | (simp; omega)) | ((with_reducible refine bdA ?_ ?_ _); · first | (simp; done) | omega | (simp; omega))))).mono ?_
        rintro e w6 ⟨rfl, k6, rfl⟩
        refine hK' _ _ (fun _ => ⟨1 + k6, .inl (World.drewN_drewN (w := wr) (n := 1) (m := k6))⟩) ?_
        clear hK' K'
        have hS : (fun W' : World => ∃ k, W' = wr.drewN k ∨ W' = (wr.drewN k).setCell ⟨g, o + 3, none⟩ (.bool false)) (wr.drew.drewN k6) := ⟨1 + k6, .inl (World.drewN_drewN (w := wr) (n := 1) (m := k6))⟩
        refine anyX_takeW 19 (v := ?_) rfl rfl (by kernel_rfl) (by kernel_rfl) (by kernel_rfl) (by kernel_rfl) (by kernel_rfl) (fun _ _ _ h => h) (by rfl) ?_ hS ?_
        rotate_left
        · intro W' hW'
          obtain ⟨kq, rfl | rfl⟩ := hW'
          all_goals (go_simp; first | done | rfl)
        intro tm' htm
        simp only [List.setIfInBounds_toArray, List.set_cons_succ, List.set_cons_zero] at htm
        subst htm
        refine anyX_takeN 20 (v := ?_) rfl rfl (by kernel_rfl) (by kernel_rfl) (by kernel_rfl) (by kernel_rfl) (by kernel_rfl) (fun _ _ _ h => h) rfl ?_ hS ?_
        rotate_left
        · intro W' hW'
          obtain ⟨kq, rfl | rfl⟩ := hW'
          all_goals (go_simp; first | done | rfl)
        intro tm' htm
        simp only [List.setIfInBounds_toArray, List.set_cons_succ, List.set_cons_zero] at htm
        subst htm
        refine anyX_takeN 21 (v := ?_) rfl rfl (by kernel_rfl) (by kernel_rfl) (by kernel_rfl) (by kernel_rfl) (by kernel_rfl) (fun _ _ _ h => h) rfl ?_ hS ?_
        rotate_left
        · intro W' hW'
          obtain ⟨kq, rfl | rfl⟩ := hW'
          all_goals (go_simp; first | done | rfl)
        intro tm' htm
        simp only [List.setIfInBounds_toArray, List.set_cons_succ, List.set_cons_zero] at htm
        subst htm
        refine anyX_takeN 22 (v := ?_) rfl rfl (by kernel_rfl) (by kernel_rfl) (by kernel_rfl) (by kernel_rfl) (by kernel_rfl) (fun _ _ _ h => h) rfl ?_ hS ?_
        rotate_left
        · intro W' hW'
          obtain ⟨kq, rfl | rfl⟩ := hW'
          all_goals (go_simp; first | done | rfl)
        intro tm' htm
        simp only [List.setIfInBounds_toArray, List.set_cons_succ, List.set_cons_zero] at htm
        subst htm
        refine anyX_one (i := 23) (by kernel_rfl) rfl rfl fun K' hK' => ?_
        unfold Oper.wp
        go_simp
        refine hK' _ _ (fun _ => ⟨1 + k6, .inr rfl⟩) (anyX_done (by kernel_rfl) ?_ _)
        refine NoPanic.normal ?_
        clear hK' K'
        go_wp2
        go_region
        all_goals
        go_wp2
        go_roundg rest.length
        case measure => have := Hlen.out; omega
        case rel =>
          refine ⟨OW, rest, rfl, by omega, ⟨_, _, ws'.drop 1, _, ((((kc.set 3 _ (by simp)).set 2 _ (by simp)).set 0 _ (by simp)).set 1 _ (by simp)), ?_, ?_, ?_, Kp1.out, KN1.out⟩, ?_⟩
          · refine hlt.keep (q := p ++ [0]) ?_ (by simp)
            repeat (first | (with_reducible exact Turn.refl _ _ _) | (with_reducible refine Turn.drew ?_) | (with_reducible refine Turn.drewN ?_ _) | (with_reducible refine Turn.alloc_ ?_ _) | ((with_reducible refine Turn.setNew ?_ ?_ _); · first | (simp; done) | omega | (simp; omega)) | ((with_reducible refine Turn.setO ?_ ?_ _); · first | assumption | exact ob _ | (simp [*]; done)))
          · refine hwt.keep (q := p ++ [0]) ?_ (by simp)
            repeat (first | (with_reducible exact Turn.refl _ _ _) | (with_reducible refine Turn.drew ?_) | (with_reducible refine Turn.drewN ?_ _) | (with_reducible refine Turn.alloc_ ?_ _) | ((with_reducible refine Turn.setNew ?_ ?_ _); · first | (simp; done) | omega | (simp; omega)) | ((with_reducible refine Turn.setO ?_ ?_ _); · first | assumption | exact ob _ | (simp [*]; done)))
          · refine Kt1.out.keep (q := p ++ [0]) ?_ (fun y _ => ⟨by simp, by simp⟩)
            repeat (first | (with_reducible exact Turn.refl _ _ _) | (with_reducible refine Turn.drew ?_) | (with_reducible refine Turn.drewN ?_ _) | (with_reducible refine Turn.alloc_ ?_ _) | ((with_reducible refine Turn.setNew ?_ ?_ _); · first | (simp; done) | omega | (simp; omega)) | ((with_reducible refine Turn.setO ?_ ?_ _); · first | assumption | exact ob _ | (simp [*]; done)))
          · refine kt.trans (Turn.up (q := p ++ [0]) ?_ (by simp))
            repeat (first | (with_reducible exact Turn.refl _ _ _) | (with_reducible refine Turn.drew ?_) | (with_reducible refine Turn.drewN ?_ _) | (with_reducible refine Turn.alloc_ ?_ _) | ((with_reducible refine Turn.setNew ?_ ?_ _); · first | (simp; done) | omega | (simp; omega)) | ((with_reducible refine Turn.setO ?_ ?_ _); · first | assumption | exact ob _ | (simp [*]; done)))
    · have hfin : ls'.length ≤ 1 ∨ ls'.length ≤ 4000 := by omega
      have Kp := Lib.hid kp
      have KN := Lib.hid kN
      have Ki := Lib.hid ki
      have Hlen := Lib.hid hlen
      clear kp kN ki hlen
      by_cases h1 : (1 : Int) < (ls'.length : Int)
      · have h2 : ¬ 1000000 < held' := by omega
        have h3 : ¬ (4000 : Int) < (ls'.length : Int) := by omega
        go_wp2
        go_end0
        exact ⟨OW, rfl, ⟨ls', by omega, _, _, ws', held', kc, kl, kw, Ki.out, Kp.out, KN.out⟩, kt⟩
      · go_wp2
        go_end0
        exact ⟨OW, rfl, ⟨ls', by omega, _, _, ws', held', kc, kl, kw, Ki.out, Kp.out, KN.out⟩, kt⟩

end EOq
end Go.Proofs.YtnehiooioodkfaaDoor

/-
  KEELBOOK.BOOK of api.Op: Stays, Apart.
-/
set_option linter.unusedVariables false
set_option linter.unusedSimpArgs false
namespace Go.Proofs.YtnehiooioodkfaaDoor
open Go Go.RowKit
namespace EOq

/-- The mark of place j of list i. -/
def mk (i j : Nat) : Op4 := ⟨-1 - (i : Int), 0, 0, 0⟩
set_option maxHeartbeats 400000 in
theorem mk_mark (w : World) (i j : Nat) (hi : i < 4001) : Calls Tryd.prog 34 #[.int .i64 (i : Int), .int .i64 (j : Int)] w fun e w' => e = .returned (.agg #[.int .i64 (mk i j).kind, .int .i64 (mk i j).res, .int .i64 (mk i j).n, .int .i64 (mk i j).v]) ∧ Below w.heap.size w w' := by
  go_enter Tryd.func34, Tryd.ntmps34
  go_wp2
  refine bodyPost_ret (v := .agg #[.int .i64 (mk i j).kind, .int .i64 (mk i j).res, .int .i64 (mk i j).n, .int .i64 (mk i j).v]) (by simp [results, Tryd.results34, go_sem, mk]) rfl ⟨rfl, ?_⟩
  repeat (first | (with_reducible assumption) | (with_reducible exact Below.refl _ _) | (with_reducible refine Below.drew ?_) | (with_reducible refine bdN ?_ _) | ((with_reducible refine bdS ?_ ?_ _); · first | (simp; done) | omega | (simp; omega)) | ((with_reducible refine bdA ?_ ?_ _); · first | (simp; done) | omega | (simp; omega)))
def mks (i n : Nat) : List Op4 := (List.range n).map (mk i)
theorem mks_length (i n : Nat) : (mks i n).length = n := by simp [mks]
theorem mks_succ (i n : Nat) : mks i (n + 1) = mks i n ++ [mk i n] := by simp [mks, List.range_succ]
theorem mks_get (i n j : Nat) (h : j < n) : (mks i n)[j]? = some (mk i j) := by simp [mks, h]

/-- What the loop of Stays keeps. -/
def stayRel (w : World) (ow : Ow) (p : List Nat) (g o n : Nat) (us : List Value) (i : Value) (wr : World) : Prop :=
  ∃ M : Nat, M ≤ n ∧ i = .int .i64 (M : Int) ∧ Cells wr ow (p ++ [0]) g o us ∧ Turn (p ++ [0]) w ow wr ow

set_option maxRecDepth 100000 in
set_option maxHeartbeats 4000000 in
theorem bk_stays (w : World) (ow : Ow) (p : List Nat) (g o : Nat) (ls : List (Nat × Value × List Op4)) (vl vw : Value) (ws : List Value) (held : Int) (hln : ls.length ≤ 4000) (hc : Cells w ow (p ++ [0]) g o [vl, vw, .int .i64 held, .bool false])
    (hl : Row w ow (p ++ [1]) 22 1 vl ls.length (ls.map (·.2.1))) (hw : Row w ow (p ++ [2]) 22 1 vw ls.length ws) (hi : Its w ow p ls ws) :
    Calls Tryd.prog 59 #[.pointer (some ⟨g, o, none⟩)] w fun e w' => e = .returned (.bool true) ∧ Turn (p ++ [0]) w ow w' ow ∧ Cells w' ow (p ++ [0]) g o [vl, vw, .int .i64 held, .bool false] := by
  obtain ⟨A, c, rfl, -⟩ := hl.slice
  obtain ⟨Aw, cw, rfl, -⟩ := hw.slice
  have Hi := Lib.hid hi
  clear hi
  go_enter Tryd.func59, Tryd.ntmps59
  go_wp2
  go_loopw [3] (fun i wr => stayRel w ow p g o ls.length [.slice A ls.length c, .slice Aw ls.length cw, .int .i64 held, .bool false] i wr) (fun i _ => ls.length - (intOf i).toNat)
  case atStart => exact ⟨0, Nat.zero_le _, rfl, hc, Turn.refl _ _ _⟩
  case round =>
    clear hc
    obtain ⟨M, hM, rfl, kc, kt⟩ := hrel
    have c0 := kc.get0
    have c1 := kc.get 1 rfl
    have c3 := kc.get 3 rfl
    have f3 := kc.free (o + 3)
    have lg := kc.lt
    by_cases hlt : M < ls.length
    · obtain ⟨⟨k1, v1, xs1⟩, hx⟩ : ∃ y, ls[M]? = some y := ⟨_, List.getElem?_eq_getElem hlt⟩
      obtain ⟨r1, b1, u1, hu1, r2⟩ := Hi.out M k1 v1 xs1 hx
      have kl := hl.keep kt (by simp)
      have kw := hw.keep kt (by simp)
      have r1 := r1.keep kt (by simp)
      have r2 := r2.keep kt (by simp)
      obtain ⟨bl, ol, capl, hvl, -⟩ := kl.at (by omega)
      simp only [Value.slice.injEq] at hvl
      obtain ⟨rfl, -, rfl⟩ := hvl
      obtain ⟨bw, ow_, capw, hvw, -⟩ := kw.at (by omega)
      simp only [Value.slice.injEq] at hvw
      obtain ⟨rfl, -, rfl⟩ := hvw
      obtain ⟨-, -, -, hcl⟩ := kl.open_
      obtain ⟨-, -, -, hcw⟩ := kw.open_
      have e0 := hcl M v1 (by rw [List.getElem?_map, hx]; rfl)
      have e1 := hcw M u1 hu1
      have gl : ¬ g = bl := kl.ne kc (by simp) (by simp)
      have gw : ¬ g = bw := kw.ne kc (by simp) (by simp)
      have i0 : (M : Int) < (ls.length : Int) := by omega
      have hsame := fun W (hW : Below wr.heap.size wr W) => same_yes W _ _ xs1 b1 (r1.reads.new_ hW) (r2.reads.new_ hW)
      have Hsame := Lib.hid hsame
      clear hcl hcw hx hu1 r1 r2 hsame
      go_wp2_with fail
      refine plain_regionN (fun W' : World => ∃ k, W' = wr.drewN k ∨ W' = (wr.drewN k).setCell ⟨g, o + 3, none⟩ (.bool false)) [] (by kernel_rfl) ?_
      have hS : (fun W' : World => ∃ k, W' = wr.drewN k ∨ W' = (wr.drewN k).setCell ⟨g, o + 3, none⟩ (.bool false)) wr.drew := ⟨1, .inl rfl⟩
      refine anyX_takeN 0 (v := ?_) rfl rfl (by kernel_rfl) (by kernel_rfl) (by kernel_rfl) (by kernel_rfl) (by kernel_rfl) (fun _ _ _ h => h) rfl ?_ hS ?_
      rotate_left
      · intro W' hW'
        obtain ⟨kq, rfl | rfl⟩ := hW'
        all_goals (go_simp; first | done | rfl)
      intro tm' htm
      simp only [List.setIfInBounds_toArray, List.set_cons_succ, List.set_cons_zero] at htm
      subst htm
      refine anyX_takeN 1 (v := ?_) rfl rfl (by kernel_rfl) (by kernel_rfl) (by kernel_rfl) (by kernel_rfl) (by kernel_rfl) (fun _ _ _ h => h) rfl ?_ hS ?_
      rotate_left
      · intro W' hW'
        obtain ⟨kq, rfl | rfl⟩ := hW'
        all_goals (go_simp; first | done | rfl)
      intro tm' htm
      simp only [List.setIfInBounds_toArray, List.set_cons_succ, List.set_cons_zero] at htm
      subst htm
      refine anyX_takeN 2 (v := ?_) rfl rfl (by kernel_rfl) (by kernel_rfl) (by kernel_rfl) (by kernel_rfl) (by kernel_rfl) (fun _ _ _ h => h) rfl ?_ hS ?_
      rotate_left
      · intro W' hW'
        obtain ⟨kq, rfl | rfl⟩ := hW'
        all_goals (go_simp; first | done | rfl)
      intro tm' htm
      simp only [List.setIfInBounds_toArray, List.set_cons_succ, List.set_cons_zero] at htm
      subst htm
      refine anyX_takeN 3 (v := ?_) rfl rfl (by kernel_rfl) (by kernel_rfl) (by kernel_rfl) (by kernel_rfl) (by kernel_rfl) (fun _ _ _ h => h) rfl ?_ hS ?_
      rotate_left
      · intro W' hW'
        obtain ⟨kq, rfl | rfl⟩ := hW'
        all_goals (go_simp; first | done | rfl)
      intro tm' htm
      simp only [List.setIfInBounds_toArray, List.set_cons_succ, List.set_cons_zero] at htm
      subst htm
      refine anyX_takeN 4 (v := ?_) rfl rfl (by kernel_rfl) (by kernel_rfl) (by kernel_rfl) (by kernel_rfl) (by kernel_rfl) (fun _ _ _ h => h) rfl ?_ hS ?_
      rotate_left
      · intro W' hW'
        obtain ⟨kq, rfl | rfl⟩ := hW'
        all_goals (go_simp; first | done | rfl)
      intro tm' htm
      simp only [List.setIfInBounds_toArray, List.set_cons_succ, List.set_cons_zero] at htm
      subst htm
      refine anyX_takeN 5 (v := ?_) rfl rfl (by kernel_rfl) (by kernel_rfl) (by kernel_rfl) (by kernel_rfl) (by kernel_rfl) (fun _ _ _ h => h) rfl ?_ hS ?_
      rotate_left
      · intro W' hW'
        obtain ⟨kq, rfl | rfl⟩ := hW'
        all_goals (go_simp; first | done | rfl)
      intro tm' htm
      simp only [List.setIfInBounds_toArray, List.set_cons_succ, List.set_cons_zero] at htm
      subst htm
      refine anyX_takeW 6 (v := ?_) rfl rfl (by kernel_rfl) (by kernel_rfl) (by kernel_rfl) (by kernel_rfl) (by kernel_rfl) (fun _ _ _ h => h) (by rfl) ?_ hS ?_
      rotate_left
      · intro W' hW'
        obtain ⟨kq, rfl | rfl⟩ := hW'
        all_goals (go_simp; first | done | rfl)
      intro tm' htm
      simp only [List.setIfInBounds_toArray, List.set_cons_succ, List.set_cons_zero] at htm
      subst htm
      refine anyX_takeW 7 (v := ?_) rfl rfl (by kernel_rfl) (by kernel_rfl) (by kernel_rfl) (by kernel_rfl) (by kernel_rfl) (fun _ _ _ h => h) (by rfl) ?_ hS ?_
      rotate_left
      · intro W' hW'
        obtain ⟨kq, rfl | rfl⟩ := hW'
        all_goals (go_simp; first | done | rfl)
      intro tm' htm
      simp only [List.setIfInBounds_toArray, List.set_cons_succ, List.set_cons_zero] at htm
      subst htm
      refine anyX_takeW 8 (v := ?_) rfl rfl (by kernel_rfl) (by kernel_rfl) (by kernel_rfl) (by kernel_rfl) (by kernel_rfl) (fun _ _ _ h => h) (by rfl) ?_ hS ?_
      rotate_left
      · intro W' hW'
        obtain ⟨kq, rfl | rfl⟩ := hW'
        all_goals (go_simp; first | done | rfl)
      intro tm' htm
      simp only [List.setIfInBounds_toArray, List.set_cons_succ, List.set_cons_zero] at htm
      subst htm
      refine anyX_takeW 9 (v := ?_) rfl rfl (by kernel_rfl) (by kernel_rfl) (by kernel_rfl) (by kernel_rfl) (by kernel_rfl) (fun _ _ _ h => h) (by rfl) ?_ hS ?_
      rotate_left
      · intro W' hW'
        obtain ⟨kq, rfl | rfl⟩ := hW'
        all_goals (go_simp; first | done | rfl)
      intro tm' htm
      simp only [List.setIfInBounds_toArray, List.set_cons_succ, List.set_cons_zero] at htm
      subst htm
      refine anyX_takeW 10 (v := ?_) rfl rfl (by kernel_rfl) (by kernel_rfl) (by kernel_rfl) (by kernel_rfl) (by kernel_rfl) (fun _ _ _ h => h) (by rfl) ?_ hS ?_
      rotate_left
      · intro W' hW'
        obtain ⟨kq, rfl | rfl⟩ := hW'
        all_goals (go_simp; first | done | rfl)
      intro tm' htm
      simp only [List.setIfInBounds_toArray, List.set_cons_succ, List.set_cons_zero] at htm
      subst htm
      refine anyX_takeW 11 (v := ?_) rfl rfl (by kernel_rfl) (by kernel_rfl) (by kernel_rfl) (by kernel_rfl) (by kernel_rfl) (fun _ _ _ h => h) (by rfl) ?_ hS ?_
      rotate_left
      · intro W' hW'
        obtain ⟨kq, rfl | rfl⟩ := hW'
        all_goals (go_simp; first | done | rfl)
      intro tm' htm
      simp only [List.setIfInBounds_toArray, List.set_cons_succ, List.set_cons_zero] at htm
      subst htm
      refine anyX_takeW 12 (v := ?_) rfl rfl (by kernel_rfl) (by kernel_rfl) (by kernel_rfl) (by kernel_rfl) (by kernel_rfl) (fun _ _ _ h => h) (by rfl) ?_ hS ?_
      rotate_left
      · intro W' hW'
        obtain ⟨kq, rfl | rfl⟩ := hW'
        all_goals (go_simp; first | done | rfl)
      intro tm' htm
      simp only [List.setIfInBounds_toArray, List.set_cons_succ, List.set_cons_zero] at htm
      subst htm
      refine anyX_takeW 13 (v := ?_) rfl rfl (by kernel_rfl) (by kernel_rfl) (by kernel_rfl) (by kernel_rfl) (by kernel_rfl) (fun _ _ _ h => h) (by rfl) ?_ hS ?_
      rotate_left
      · intro W' hW'
        obtain ⟨kq, rfl | rfl⟩ := hW'
        all_goals (go_simp; first | done | rfl)
      intro tm' htm
      simp only [List.setIfInBounds_toArray, List.set_cons_succ, List.set_cons_zero] at htm
      subst htm
      refine anyX_takeW 14 (v := ?_) rfl rfl (by kernel_rfl) (by kernel_rfl) (by kernel_rfl) (by kernel_rfl) (by kernel_rfl) (fun _ _ _ h => h) (by rfl) ?_ hS ?_
      rotate_left
      · intro W' hW'
        obtain ⟨kq, rfl | rfl⟩ := hW'
        all_goals (go_simp; first | done | rfl)
      intro tm' htm
      simp only [List.setIfInBounds_toArray, List.set_cons_succ, List.set_cons_zero] at htm
      subst htm
      refine anyX_takeW 15 (v := ?_) rfl rfl (by kernel_rfl) (by kernel_rfl) (by kernel_rfl) (by kernel_rfl) (by kernel_rfl) (fun _ _ _ h => h) (by rfl) ?_ hS ?_
      rotate_left
      · intro W' hW'
        obtain ⟨kq, rfl | rfl⟩ := hW'
        all_goals (go_simp; first | done | rfl)
      intro tm' htm
      simp only [List.setIfInBounds_toArray, List.set_cons_succ, List.set_cons_zero] at htm
      subst htm
      refine anyX_takeW 16 (v := ?_) rfl rfl (by kernel_rfl) (by kernel_rfl) (by kernel_rfl) (by kernel_rfl) (by kernel_rfl) (fun _ _ _ h => h) (by rfl) ?_ hS ?_
      rotate_left
      · intro W' hW'
        obtain ⟨kq, rfl | rfl⟩ := hW'
        all_goals (go_simp; first | done | rfl)
      intro tm' htm
      simp only [List.setIfInBounds_toArray, List.set_cons_succ, List.set_cons_zero] at htm
      subst htm
      refine anyX_takeW 17 (v := ?_) rfl rfl (by kernel_rfl) (by kernel_rfl) (by kernel_rfl) (by kernel_rfl) (by kernel_rfl) (fun _ _ _ h => h) (by rfl) ?_ hS ?_
      rotate_left
      · intro W' hW'
        obtain ⟨kq, rfl | rfl⟩ := hW'
        all_goals (go_simp; first | done | rfl)
      intro tm' htm
      simp only [List.setIfInBounds_toArray, List.set_cons_succ, List.set_cons_zero] at htm
      subst htm
      refine anyX_takeW 18 (v := ?_) rfl rfl (by kernel_rfl) (by kernel_rfl) (by kernel_rfl) (by kernel_rfl) (by kernel_rfl) (fun _ _ _ h => h) (by rfl) ?_ hS ?_
      rotate_left
      · intro W' hW'
        obtain ⟨kq, rfl | rfl⟩ := hW'
        all_goals (go_simp; first | done | rfl)
      intro tm' htm
      simp only [List.setIfInBounds_toArray, List.set_cons_succ, List.set_cons_zero] at htm
      subst htm
      refine anyX_takeW 19 (v := ?_) rfl rfl (by kernel_rfl) (by kernel_rfl) (by kernel_rfl) (by kernel_rfl) (by kernel_rfl) (fun _ _ _ h => h) (by rfl) ?_ hS ?_
      rotate_left
      · intro W' hW'
        obtain ⟨kq, rfl | rfl⟩ := hW'
        all_goals (go_simp; first | done | rfl)
      intro tm' htm
      simp only [List.setIfInBounds_toArray, List.set_cons_succ, List.set_cons_zero] at htm
      subst htm
      refine anyX_oneW (i := 20) (by kernel_rfl) rfl (by rfl) fun K' hK' => ?_
      unfold Oper.wp
      go_simp
      refine (Hsame.out _ (by repeat (first | (with_reducible assumption) | (with_reducible exact Below.refl _ _) | (with_reducible refine Below.drew ?_) | (with_reducible refine bdN ?_ _) | ((with_reducible refine bdS ?_ ?_ _); · first | (simp; done) | omega | (simp; omega)) | ((with_reducible refine bdA ?_ ?_ _); · first | (simp; done) | omega | (simp; omega))))).mono ?_
      rintro e w6 ⟨rfl, k6, rfl⟩
      refine hK' _ _ (fun _ => ⟨1 + k6, .inl (World.drewN_drewN (w := wr) (n := 1) (m := k6))⟩) ?_
      clear hK' K'
      have hS : (fun W' : World => ∃ k, W' = wr.drewN k ∨ W' = (wr.drewN k).setCell ⟨g, o + 3, none⟩ (.bool false)) (wr.drew.drewN k6) := ⟨1 + k6, .inl (World.drewN_drewN (w := wr) (n := 1) (m := k6))⟩
      refine anyX_takeW 21 (v := ?_) rfl rfl (by kernel_rfl) (by kernel_rfl) (by kernel_rfl) (by kernel_rfl) (by kernel_rfl) (fun _ _ _ h => h) (by rfl) ?_ hS ?_
      rotate_left
      · intro W' hW'
        obtain ⟨kq, rfl | rfl⟩ := hW'
        all_goals (go_simp; first | done | rfl)
      intro tm' htm
      simp only [List.setIfInBounds_toArray, List.set_cons_succ, List.set_cons_zero] at htm
      subst htm
      refine anyX_takeN 22 (v := ?_) rfl rfl (by kernel_rfl) (by kernel_rfl) (by kernel_rfl) (by kernel_rfl) (by kernel_rfl) (fun _ _ _ h => h) rfl ?_ hS ?_
      rotate_left
      · intro W' hW'
        obtain ⟨kq, rfl | rfl⟩ := hW'
        all_goals (go_simp; first | done | rfl)
      intro tm' htm
      simp only [List.setIfInBounds_toArray, List.set_cons_succ, List.set_cons_zero] at htm
      subst htm
      refine anyX_takeN 23 (v := ?_) rfl rfl (by kernel_rfl) (by kernel_rfl) (by kernel_rfl) (by kernel_rfl) (by kernel_rfl) (fun _ _ _ h => h) rfl ?_ hS ?_
      rotate_left
      · intro W' hW'
        obtain ⟨kq, rfl | rfl⟩ := hW'
        all_goals (go_simp; first | done | rfl)
      intro tm' htm
      simp only [List.setIfInBounds_toArray, List.set_cons_succ, List.set_cons_zero] at htm
      subst htm
      refine anyX_takeN 24 (v := ?_) rfl rfl (by kernel_rfl) (by kernel_rfl) (by kernel_rfl) (by kernel_rfl) (by kernel_rfl) (fun _ _ _ h => h) rfl ?_ hS ?_
      rotate_left
      · intro W' hW'
        obtain ⟨kq, rfl | rfl⟩ := hW'
        all_goals (go_simp; first | done | rfl)
      intro tm' htm
      simp only [List.setIfInBounds_toArray, List.set_cons_succ, List.set_cons_zero] at htm
      subst htm
      refine anyX_one (i := 25) (by kernel_rfl) rfl rfl fun K' hK' => ?_
      unfold Oper.wp
      go_simp
      refine hK' _ _ (fun _ => ⟨1 + k6, .inr rfl⟩) (anyX_done (by kernel_rfl) ?_ _)
      refine NoPanic.normal ?_
      clear hK' K'
      go_wp2
      refine ⟨⟨M + 1, by omega, by go_num, kc.set 3 _ (by simp), kt.trans ?_⟩, by simp only [intOf]; omega⟩
      have og3 : p ++ [0] <+: ow g (o + 3) := kc.under 3 (by simp) (List.prefix_refl _)
      repeat (first | (with_reducible exact Turn.refl _ _ _) | (with_reducible refine Turn.drew ?_) | (with_reducible refine Turn.drewN ?_ _) | (with_reducible refine Turn.alloc_ ?_ _) | ((with_reducible refine Turn.setNew ?_ ?_ _); · first | (simp; done) | omega | (simp; omega)) | ((with_reducible refine Turn.setO ?_ ?_ _); · first | assumption | exact ob _ | (simp [*]; done)))
    · obtain rfl : M = ls.length := by omega
      go_wp2
      go_ret
      exact ⟨rfl, kt, kc⟩

theorem row_full {w : World} {ow : Ow} {p : List Nat} {T sz n : Nat} {v : Value} {cs : List Value} (h : Row w ow p T sz v n cs) : ∃ A c cs', v = .slice A n c ∧ n ≤ c ∧ c ≤ maxLen ∧ Row w ow p T sz (.slice A c c) c cs' := by
  rcases h.2 with ⟨rfl, rfl⟩ | ⟨g, off, cap, c, rfl, hg, ho, hn, hm, hs, hc⟩
  · exact ⟨none, 0, [], rfl, Nat.le_refl _, Nat.zero_le _, Row.nil _ _ _ _ _⟩
  · refine ⟨_, cap, (c.toList.drop off).take (cap * sz), rfl, hn, hm, ?_, .inr ⟨g, off, cap, c, rfl, hg, ho, Nat.le_refl _, hm, hs, fun j u hj => ?_⟩⟩
    · rw [List.length_take, List.length_drop, Array.length_toList]; omega
    · rw [List.getElem?_take] at hj
      split at hj
      · rw [List.getElem?_drop, Array.getElem?_toList] at hj; exact hj
      · cases hj

/-- The lists, each to the end of its room; the first M hold their marks. -/
def Wrt (w : World) (ow : Ow) (p : List Nat) (ls : List (Nat × Value × List Op4)) (M : Nat) : Prop :=
  ∀ (i k : Nat) (v : Value) (xs : List Op4), ls[i]? = some (k, v, xs) → ∃ (A : Option Addr) (n c : Nat) (cs : List Value), v = .slice A n c ∧ n ≤ c ∧ c ≤ maxLen ∧ Row w ow (p ++ [3, k]) 32 4 (.slice A c c) c cs ∧ (i < M → cs = css (mks i c))
theorem Wrt.new_ {w w1 : World} {ow ow1 : Ow} {p : List Nat} {ls : List (Nat × Value × List Op4)} {M : Nat} (h : Wrt w ow p ls M) (t : New w ow w1 ow1) : Wrt w1 ow1 p ls M := fun i k v xs hi => by
  obtain ⟨A, n, c, cs, h1, h2, h3, h4, h5⟩ := h i k v xs hi
  exact ⟨A, n, c, cs, h1, h2, h3, h4.new_ t, h5⟩
theorem Wrt.step {w w1 : World} {ow : Ow} {p : List Nat} {ls : List (Nat × Value × List Op4)} {M k n c : Nat} {A : Option Addr} {xs : List Op4} (h : Wrt w ow p ls M) (hp : ls.Pairwise (fun a b => a.1 < b.1)) (hM : ls[M]? = some (k, .slice A n c, xs)) (hn : n ≤ c) (hm : c ≤ maxLen) (t : Turn (p ++ [3, k]) w ow w1 ow)
    (hr : Row w1 ow (p ++ [3, k]) 32 4 (.slice A c c) c (css (mks M c))) : Wrt w1 ow p ls (M + 1) := fun i k' v xs' hi => by
  by_cases e : i = M
  · subst e
    rw [hM] at hi
    simp only [Option.some.injEq, Prod.mk.injEq] at hi
    obtain ⟨rfl, rfl, rfl⟩ := hi
    exact ⟨A, n, c, _, rfl, hn, hm, hr, fun _ => rfl⟩
  · obtain ⟨A', n', c', cs, h1, h2, h3, h4, h5⟩ := h i k' v xs' hi
    have hk : ¬ k = k' := by
      obtain ⟨li, hi'⟩ := List.getElem?_eq_some_iff.1 hi
      obtain ⟨lM, hM'⟩ := List.getElem?_eq_some_iff.1 hM
      rcases Nat.lt_or_gt_of_ne e with hlt | hlt
      · have := List.pairwise_iff_getElem.1 hp i M li lM hlt
        rw [hi', hM'] at this
        simp only at this; omega
      · have := List.pairwise_iff_getElem.1 hp M i lM li hlt
        rw [hi', hM'] at this
        simp only at this; omega
    exact ⟨A', n', c', cs, h1, h2, h3, h4.keep t (by simpa using hk), fun hlt => h5 (by omega)⟩

/-- What the marking of one list keeps. -/
def markRel (W : World) (ow : Ow) (q : List Nat) (A : Option Addr) (c M : Nat) (j : Value) (wr : World) : Prop :=
  ∃ (m : Nat) (rest : List Value), m ≤ c ∧ j = .int .i64 (m : Int) ∧ Row wr ow q 32 4 (.slice A c c) c (css (mks M m) ++ rest) ∧ Turn q W ow wr ow
/-- What the marking of all keeps. -/
def marksRel (w : World) (ow : Ow) (p : List Nat) (g o : Nat) (ls : List (Nat × Value × List Op4)) (us : List Value) (vl : Value) (i : Value) (wr : World) : Prop :=
  ∃ M : Nat, M ≤ ls.length ∧ i = .int .i64 (M : Int) ∧ Cells wr ow (p ++ [0]) g o us ∧ Row wr ow (p ++ [1]) 22 1 vl ls.length (ls.map (·.2.1)) ∧ Wrt wr ow p ls M ∧ Turn p w ow wr ow
/-- What the looks keep. -/
def seeRel (W : World) (n : Nat) (i : Value) (wr : World) : Prop := ∃ M : Nat, M ≤ n ∧ i = .int .i64 (M : Int) ∧ Below W.heap.size W wr
/-- What Apart leaves. -/
def ApartB (w : World) (ow : Ow) (p : List Nat) (e : Ending) (w' : World) : Prop := ∃ ow', e = .returned (.bool true) ∧ Turn p w ow w' ow'

set_option maxRecDepth 100000 in
set_option maxHeartbeats 8000000 in
theorem bk_apart (w : World) (ow : Ow) (p : List Nat) (g o N : Nat) (h : Book w ow p g o N) : Calls Tryd.prog 33 #[.pointer (some ⟨g, o, none⟩), .func (.func 34) #[] #[]] w (ApartB w ow p) := by
  obtain ⟨ls, hln, vl, vw, ws, held, hc, hl, hw, hi, hp, hN⟩ := h
  have hst := bk_stays w ow p g o ls vl vw ws held hln hc hl hw hi
  have hwrt : Wrt w ow p ls 0 := fun i k v xs hx => by
    obtain ⟨r, -⟩ := hi i k v xs hx
    obtain ⟨A, c, cs', h1, h2, h3, h4⟩ := row_full r
    exact ⟨A, _, c, cs', h1, h2, h3, h4, fun hlt => by omega⟩
  obtain ⟨A, c, rfl, -⟩ := hl.slice
  have Hst := Lib.hid hst
  have Hi := Lib.hid hwrt
  have Hp := Lib.hid hp
  clear hst hi hN hp hwrt
  go_enter Tryd.func33, Tryd.ntmps33
  go_wp2_with fail
  refine Hst.out.mono ?_
  rintro e w1 ⟨rfl, t1, hc1⟩
  have hl1 := hl.keep t1 (by simp)
  have hw1 : Wrt w1 ow p ls 0 := fun i k v xs hx => by
    obtain ⟨A, n, c, cs, h1, h2, h3, h4, h5⟩ := Hi.out i k v xs hx
    exact ⟨A, n, c, cs, h1, h2, h3, h4.keep t1 (by simp), h5⟩
  have t1 := t1.up (p := p) (by simp)
  clear hc hl hw Hi Hst
  go_wp2
  go_loopw [5] (fun i wr => marksRel w ow p g o ls [.slice A ls.length c, vw, .int .i64 held, .bool false] (.slice A ls.length c) i wr) (fun i _ => ls.length - (intOf i).toNat)
  case atStart => exact ⟨0, Nat.zero_le _, rfl, hc1, hl1, hw1, t1⟩
  case round =>
    clear hc1 hl1 hw1 t1
    obtain ⟨wo, rfl⟩ : ∃ wo : World, wo = wr := ⟨_, rfl⟩
    obtain ⟨M, hM, rfl, kc, kl, kw, kt⟩ := hrel
    have c0 := kc.get0
    have lg := kc.lt
    have Kw := Lib.hid kw
    clear kw
    by_cases hlt : M < ls.length
    · obtain ⟨⟨k1, v1, xs1⟩, hx⟩ : ∃ y, ls[M]? = some y := ⟨_, List.getElem?_eq_getElem hlt⟩
      obtain ⟨A1, n1, c1, cs1, rfl, hn1, hm1, r1, -⟩ := Kw.out M k1 v1 xs1 hx
      obtain ⟨bl, ol, capl, hvl, -⟩ := kl.at (by omega)
      simp only [Value.slice.injEq] at hvl
      obtain ⟨rfl, -, rfl⟩ := hvl
      obtain ⟨-, -, -, hcl⟩ := kl.open_
      have e0 := hcl M (.slice A1 n1 c1) (by rw [List.getElem?_map, hx]; rfl)
      have gl : ¬ g = bl := kl.ne kc (by simp) (by simp)
      have i0 : (M : Int) < (ls.length : Int) := by omega
      have hM4 : M < 4001 := by omega
      have hc63 : c1 ≤ 9223372036854775807 := by unfold maxLen at hm1; exact hm1
      have Hx := Lib.hid hx
      clear hcl hx
      go_wp2
      go_region
      go_wp2
      go_loopw [7] (fun j wr => markRel wo ow (p ++ [3, k1]) A1 c1 M j wr) (fun j _ => c1 - (intOf j).toNat)
      case atStart => exact ⟨0, cs1, Nat.zero_le _, rfl, r1, (Turn.refl _ _ _).drew⟩
      case round =>
        obtain ⟨m, rest, hm, rfl, rz, tz⟩ := hrel
        by_cases hmc : m < c1
        · obtain ⟨b, off, cap, hv, -⟩ := rz.at (by omega)
          simp only [Value.slice.injEq] at hv
          obtain ⟨rfl, -, rfl⟩ := hv
          have i1 : (m : Int) < (c1 : Int) := by omega
          clear e0 gl c0 lg
          go_wp2_with fail
          refine (mk_mark _ M m hM4).mono ?_
          rintro e w4 ⟨rfl, hb4⟩
          have row2 := rz.new_ (hb4.nw ow)
          have tz2 := tz.trans ((hb4.nw ow).turn _)
          obtain ⟨hb, hpo, hf, hcell⟩ := row2.open_
          have hpx : ∀ i, p ++ [3, k1] <+: ow b i := fun i => by rw [hpo]; exact List.prefix_refl _
          have hcl := rz.1
          rw [List.length_append, css_length, mks_length] at hcl
          have hrl : 4 ≤ rest.length := by
            have h1 : m * 4 + 4 ≤ c1 * 4 := by omega
            omega
          obtain ⟨r0, rest0, rfl⟩ : ∃ y r, rest = y :: r := List.exists_cons_of_length_pos (by omega)
          obtain ⟨r1, rest1, rfl⟩ : ∃ y r, rest0 = y :: r := List.exists_cons_of_length_pos (by simp only [List.length_cons] at hrl; omega)
          obtain ⟨r2, rest2, rfl⟩ : ∃ y r, rest1 = y :: r := List.exists_cons_of_length_pos (by simp only [List.length_cons] at hrl; omega)
          obtain ⟨r3, rest3, rfl⟩ : ∃ y r, rest2 = y :: r := List.exists_cons_of_length_pos (by simp only [List.length_cons] at hrl; omega)
          have e0 := hcell (m * 4) r0 (by rw [List.getElem?_append_right (by rw [css_length, mks_length]; omega), css_length, mks_length, show m * 4 - m * 4 = 0 by omega]; rfl)
          have e1 := hcell (m * 4 + 1) r1 (by rw [List.getElem?_append_right (by rw [css_length, mks_length]; omega), css_length, mks_length, show m * 4 + 1 - m * 4 = 1 by omega]; rfl)
          have e2 := hcell (m * 4 + 2) r2 (by rw [List.getElem?_append_right (by rw [css_length, mks_length]; omega), css_length, mks_length, show m * 4 + 2 - m * 4 = 2 by omega]; rfl)
          have e3 := hcell (m * 4 + 3) r3 (by rw [List.getElem?_append_right (by rw [css_length, mks_length]; omega), css_length, mks_length, show m * 4 + 3 - m * 4 = 3 by omega]; rfl)
          simp only [← Nat.add_assoc, Nat.mul_one] at e0 e1 e2 e3
          have row3 := ((((row2.set (m * 4) (.int .i64 (mk M m).kind)).set (m * 4 + 1) (.int .i64 (mk M m).res)).set (m * 4 + 2) (.int .i64 (mk M m).n)).set (m * 4 + 3) (.int .i64 (mk M m).v))
          have tz3 := tz2.trans (Turn.setCell (g := b) (o := off + (m * 4 + 3)) (Turn.setCell (g := b) (o := off + (m * 4 + 2)) (Turn.setCell (g := b) (o := off + (m * 4 + 1)) (Turn.setCell (g := b) (o := off + (m * 4)) (Turn.refl (p ++ [3, k1]) w4 ow) (.int .i64 (mk M m).kind) (hpx _)) (.int .i64 (mk M m).res) (hpx _)) (.int .i64 (mk M m).n) (hpx _)) (.int .i64 (mk M m).v) (hpx _))
          have hcss : (((((css (mks M m) ++ r0 :: r1 :: r2 :: r3 :: rest3).set (m * 4) (.int .i64 (mk M m).kind)).set (m * 4 + 1) (.int .i64 (mk M m).res)).set (m * 4 + 2) (.int .i64 (mk M m).n)).set (m * 4 + 3) (.int .i64 (mk M m).v)) = css (mks M (m + 1)) ++ rest3 := by
            have hlc : (css (mks M m)).length = m * 4 := by rw [css_length, mks_length]
            rw [mks_succ, css_snoc, ← hlc]
            simp [set_behind, cs, List.append_assoc]
          rw [hcss] at row3
          simp only [← Nat.add_assoc] at row3 tz3
          have fin : markRel wo ow (p ++ [3, k1]) (some ⟨b, off, none⟩) c1 M (.int .i64 ((m : Int) + 1)) (((((w4.setCell ⟨b, off + m * 4, none⟩ (.int .i64 (mk M m).kind)).setCell ⟨b, off + m * 4 + 1, none⟩ (.int .i64 (mk M m).res)).setCell ⟨b, off + m * 4 + 2, none⟩ (.int .i64 (mk M m).n)).setCell ⟨b, off + m * 4 + 3, none⟩ (.int .i64 (mk M m).v))) := ⟨m + 1, rest3, by omega, by go_num, row3, tz3⟩
          have Fin := Lib.hid fin
          clear row3 tz3 hcss fin hcell hpx hcl hpo
          go_wp2
          exact ⟨Fin.out, by simp only [intOf]; omega⟩
        · obtain rfl : m = c1 := by omega
          have hre : rest = [] := by
            have := rz.1
            rw [List.length_append, css_length, mks_length] at this
            exact List.eq_nil_of_length_eq_zero (by omega)
          rw [hre, List.append_nil] at rz
          go_wp2
          refine ⟨⟨M + 1, by omega, by go_num, kc.keep tz (by simp), kl.keep tz (by simp), Kw.out.step Hp.out Hx.out hn1 hm1 tz rz, kt.trans (tz.up (by simp))⟩, by simp only [intOf]; omega⟩
    · obtain rfl : M = ls.length := by omega
      go_wp2
      go_loopw [8] (fun i wr => seeRel wo ls.length i wr) (fun i _ => ls.length - (intOf i).toNat)
      case atStart => exact ⟨0, Nat.zero_le _, rfl, Below.refl _ _⟩
      case round =>
        obtain ⟨wz, rfl⟩ : ∃ wz : World, wz = wr := ⟨_, rfl⟩
        obtain ⟨M, hM, rfl, hbz⟩ := hrel
        have kc := kc.new_ (hbz.nw ow)
        have kl := kl.new_ (hbz.nw ow)
        have c0 := kc.get0
        have lg := kc.lt
        by_cases hlt : M < ls.length
        · obtain ⟨⟨k1, v1, xs1⟩, hx⟩ : ∃ y, ls[M]? = some y := ⟨_, List.getElem?_eq_getElem hlt⟩
          obtain ⟨A1, n1, c1, cs1, rfl, hn1, hm1, r1, hcs⟩ := Kw.out M k1 v1 xs1 hx
          rw [hcs hlt] at r1
          have r1 := r1.new_ (hbz.nw ow)
          obtain ⟨bl, ol, capl, hvl, -⟩ := kl.at (by omega)
          simp only [Value.slice.injEq] at hvl
          obtain ⟨rfl, -, rfl⟩ := hvl
          obtain ⟨-, -, -, hcl⟩ := kl.open_
          have e0 := hcl M (.slice A1 n1 c1) (by rw [List.getElem?_map, hx]; rfl)
          have i0 : (M : Int) < (ls.length : Int) := by omega
          have hM4 : M < 4001 := by omega
          have hc63 : c1 ≤ 9223372036854775807 := by unfold maxLen at hm1; exact hm1
          clear hcl hx hcs
          go_wp2
          go_region
          go_wp2
          go_loopw [10] (fun j wr => seeRel wz c1 j wr) (fun j _ => c1 - (intOf j).toNat)
          case atStart => exact ⟨0, Nat.zero_le _, rfl, (Below.refl _ _).drew⟩
          case round =>
            obtain ⟨wy, rfl⟩ : ∃ wy : World, wy = wr := ⟨_, rfl⟩
            obtain ⟨m, hm, rfl, hby⟩ := hrel
            clear e0 c0 lg kc kl
            by_cases hmc : m < c1
            · have rz := r1.new_ (hby.nw ow)
              obtain ⟨b, off, cap, hv, -⟩ := rz.at (by omega)
              simp only [Value.slice.injEq] at hv
              obtain ⟨rfl, -, rfl⟩ := hv
              obtain ⟨hbW, hpo, hf, hcell⟩ := rz.open_
              have hx := mks_get M c1 m hmc
              have e0 := hcell (m * 4 + 0) _ (css_at _ m _ hx 0 _ rfl (by omega))
              have e1 := hcell (m * 4 + 1) _ (css_at _ m _ hx 1 _ rfl (by omega))
              have e2 := hcell (m * 4 + 2) _ (css_at _ m _ hx 2 _ rfl (by omega))
              have e3 := hcell (m * 4 + 3) _ (css_at _ m _ hx 3 _ rfl (by omega))
              simp only [Nat.add_zero, Nat.mul_one, ← Nat.add_assoc] at e0 e1 e2 e3
              have i1 : (m : Int) < (c1 : Int) := by omega
              clear hcell hx hpo hf
              go_wp2
              refine plain_regionN (fun W' => W'.cell? ⟨b, off + m * 4, none⟩ = some (.int .i64 (mk M m).kind) ∧ W'.cell? ⟨b, off + m * 4 + 1, none⟩ = some (.int .i64 (mk M m).res) ∧ W'.cell? ⟨b, off + m * 4 + 2, none⟩ = some (.int .i64 (mk M m).n) ∧ W'.cell? ⟨b, off + m * 4 + 3, none⟩ = some (.int .i64 (mk M m).v)) [] (by kernel_rfl) ?_
              have hS : (fun W' : World => W'.cell? ⟨b, off + m * 4, none⟩ = some (.int .i64 (mk M m).kind) ∧ W'.cell? ⟨b, off + m * 4 + 1, none⟩ = some (.int .i64 (mk M m).res) ∧ W'.cell? ⟨b, off + m * 4 + 2, none⟩ = some (.int .i64 (mk M m).n) ∧ W'.cell? ⟨b, off + m * 4 + 3, none⟩ = some (.int .i64 (mk M m).v)) wy.drew := ⟨e0, e1, e2, e3⟩
              refine anyX_takeN 0 (v := ?_) rfl rfl (by kernel_rfl) (by kernel_rfl) (by kernel_rfl) (by kernel_rfl) (by kernel_rfl) (fun _ _ _ h => h) rfl ?_ hS ?_
              rotate_left
              · intro W' hW'
                obtain ⟨s0, s1, s2, s3⟩ := hW'
                all_goals (go_simp; first | done | rfl)
              intro tm' htm
              simp only [List.setIfInBounds_toArray, List.set_cons_succ, List.set_cons_zero] at htm
              subst htm
              refine anyX_takeN 1 (v := ?_) rfl rfl (by kernel_rfl) (by kernel_rfl) (by kernel_rfl) (by kernel_rfl) (by kernel_rfl) (fun _ _ _ h => h) rfl ?_ hS ?_
              rotate_left
              · intro W' hW'
                obtain ⟨s0, s1, s2, s3⟩ := hW'
                all_goals (go_simp; first | done | rfl)
              intro tm' htm
              simp only [List.setIfInBounds_toArray, List.set_cons_succ, List.set_cons_zero] at htm
              subst htm
              refine anyX_takeN 2 (v := ?_) rfl rfl (by kernel_rfl) (by kernel_rfl) (by kernel_rfl) (by kernel_rfl) (by kernel_rfl) (fun _ _ _ h => h) rfl ?_ hS ?_
              rotate_left
              · intro W' hW'
                obtain ⟨s0, s1, s2, s3⟩ := hW'
                all_goals (go_simp; first | done | rfl)
              intro tm' htm
              simp only [List.setIfInBounds_toArray, List.set_cons_succ, List.set_cons_zero] at htm
              subst htm
              refine anyX_takeN 3 (v := ?_) rfl rfl (by kernel_rfl) (by kernel_rfl) (by kernel_rfl) (by kernel_rfl) (by kernel_rfl) (fun _ _ _ h => h) rfl ?_ hS ?_
              rotate_left
              · intro W' hW'
                obtain ⟨s0, s1, s2, s3⟩ := hW'
                all_goals (go_simp; first | done | rfl)
              intro tm' htm
              simp only [List.setIfInBounds_toArray, List.set_cons_succ, List.set_cons_zero] at htm
              subst htm
              refine anyX_takeN 4 (v := ?_) rfl rfl (by kernel_rfl) (by kernel_rfl) (by kernel_rfl) (by kernel_rfl) (by kernel_rfl) (fun _ _ _ h => h) rfl ?_ hS ?_
              rotate_left
              · intro W' hW'
                obtain ⟨s0, s1, s2, s3⟩ := hW'
                all_goals (go_simp; first | done | rfl)
              intro tm' htm
              simp only [List.setIfInBounds_toArray, List.set_cons_succ, List.set_cons_zero] at htm
              subst htm
              refine anyX_takeN 5 (v := ?_) rfl rfl (by kernel_rfl) (by kernel_rfl) (by kernel_rfl) (by kernel_rfl) (by kernel_rfl) (fun _ _ _ h => h) rfl ?_ hS ?_
              rotate_left
              · intro W' hW'
                obtain ⟨s0, s1, s2, s3⟩ := hW'
                all_goals (go_simp; first | done | rfl)
              intro tm' htm
              simp only [List.setIfInBounds_toArray, List.set_cons_succ, List.set_cons_zero] at htm
              subst htm
              refine anyX_takeN 6 (v := ?_) rfl rfl (by kernel_rfl) (by kernel_rfl) (by kernel_rfl) (by kernel_rfl) (by kernel_rfl) (fun _ _ _ h => h) rfl ?_ hS ?_
              rotate_left
              · intro W' hW'
                obtain ⟨s0, s1, s2, s3⟩ := hW'
                all_goals (go_simp; first | done | rfl)
              intro tm' htm
              simp only [List.setIfInBounds_toArray, List.set_cons_succ, List.set_cons_zero] at htm
              subst htm
              refine anyX_one (i := 7) (by kernel_rfl) rfl rfl fun K' hK' => ?_
              unfold Oper.wp
              go_simp
              refine (mk_mark _ M m hM4).mono ?_
              rintro e w4 ⟨rfl, hb4⟩
              have hb4' : Below wy.heap.size wy w4 := ⟨hb4.os, hb4.tape, hb4.output, hb4.size, hb4.block⟩
              have hS : (fun W' : World => W'.cell? ⟨b, off + m * 4, none⟩ = some (.int .i64 (mk M m).kind) ∧ W'.cell? ⟨b, off + m * 4 + 1, none⟩ = some (.int .i64 (mk M m).res) ∧ W'.cell? ⟨b, off + m * 4 + 2, none⟩ = some (.int .i64 (mk M m).n) ∧ W'.cell? ⟨b, off + m * 4 + 3, none⟩ = some (.int .i64 (mk M m).v)) w4 := ⟨(hb4.cell hbW).trans e0, (hb4.cell hbW).trans e1, (hb4.cell hbW).trans e2, (hb4.cell hbW).trans e3⟩
              refine hK' _ _ (fun _ => hS) ?_
              clear hK' K'
              refine anyX_one (i := 8) (by kernel_rfl) rfl rfl fun K' hK' => ?_
              unfold Oper.wp
              go_simp
              refine hK' _ _ (fun _ => hS) (anyX_done (by kernel_rfl) ?_ _)
              refine NoPanic.normal ?_
              clear hK' K' hS
              go_wp2
              exact ⟨⟨m + 1, by omega, by go_num, hby.trans (hb4'.mono hby.size)⟩, by simp only [intOf]; omega⟩
            · obtain rfl : m = c1 := by omega
              go_wp2
              exact ⟨⟨M + 1, by omega, by go_num, hbz.trans (hby.mono hbz.size)⟩, by simp only [intOf]; omega⟩
        · obtain rfl : M = ls.length := by omega
          have f0 := kc.free o
          have f1 := kc.free (o + 1)
          have f2 := kc.free (o + 2)
          have c1 := kc.get 1 rfl
          have c2 := kc.get 2 rfl
          have og0 : p <+: ow g o := kc.under0 (by simp)
          have og1 : p <+: ow g (o + 1) := kc.under 1 (by simp) (by simp)
          have og2 : p <+: ow g (o + 2) := kc.under 2 (by simp) (by simp)
          have tfin := kt.trans ((hbz.nw ow).turn p)
          go_wp2
          go_ret
          refine ⟨ow, rfl, ?_⟩
          repeat (first | (with_reducible exact tfin) | (with_reducible exact Turn.refl _ _ _) | (with_reducible refine Turn.drew ?_) | (with_reducible refine Turn.drewN ?_ _) | (with_reducible refine Turn.alloc_ ?_ _) | ((with_reducible refine Turn.setNew ?_ ?_ _); · first | (simp; done) | omega | (simp; omega)) | ((with_reducible refine Turn.setO ?_ ?_ _); · first | assumption | exact ob _ | (simp [*]; done)))

end EOq
end Go.Proofs.YtnehiooioodkfaaDoor
