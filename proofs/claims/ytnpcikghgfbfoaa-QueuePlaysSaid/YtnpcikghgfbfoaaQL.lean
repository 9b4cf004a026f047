/-
  QUEUE: the package queue: List and Level.
-/
import Derived.Test.YtnpcikghgfbfoaaQN
namespace Go.Proofs.Ytnpcikghgfbfoaa
open Go Go.RowKit
attribute [local go_sem] Oper.semAt_some

/-- Owners, all under 0. -/
def pre (ow : Ow) : Ow := fun b o => 0 :: ow b o
section
variable {w w' : World} {ow ow' : Ow} {p s : List Nat} {g o T sz n : Nat} {v : Value} {vs cs : List Value}
theorem Cells.pre (h : Cells w ow p g o vs) : Cells w (pre ow) (0 :: p) g o vs := by
  obtain ⟨c, e, hg, hc⟩ := h
  exact ⟨c, e, hg, fun j u hj => ⟨(hc j u hj).1, congrArg (0 :: ·) (hc j u hj).2⟩⟩
theorem Row.pre (h : Row w ow p T sz v n cs) : Row w (pre ow) (0 :: p) T sz v n cs := by
  refine ⟨h.1, ?_⟩
  rcases h.2 with h | ⟨g, off, cap, c, hv, hg, ho, r⟩
  · exact .inl h
  · exact .inr ⟨g, off, cap, c, hv, hg, fun o => congrArg (0 :: ·) (ho o), r⟩
/-- All that is new is q's. -/
def Ow.all (ow : Ow) (B : Nat) (q : List Nat) : Ow := fun b o => if b < B then ow b o else q
theorem Turn.allP (h : Turn [1] w (Go.Proofs.Ytnpcikghgfbfoaa.pre ow) w' ow') (q : List Nat) : New w ow w' (ow.all w.heap.size q) :=
  ⟨⟨h.os, h.tape, h.output, h.size, fun k hk => (h.blk k hk).all fun _ => by simp [Go.Proofs.Ytnpcikghgfbfoaa.pre]⟩, fun b o hb => by simp [Ow.all, hb]⟩
theorem Row.allP (h : Row w' ow' (1 :: s) T sz v n cs) (ht : Turn [1] w (Go.Proofs.Ytnpcikghgfbfoaa.pre ow) w' ow') (q : List Nat) : Row w' (ow.all w.heap.size q) q T sz v n cs := by
  refine ⟨h.1, ?_⟩
  rcases h.2 with h | ⟨g, off, cap, c, hv, hg, ho, r⟩
  · exact .inl h
  · refine .inr ⟨g, off, cap, c, hv, hg, fun o => ?_, r⟩
    have hge : ¬ g < w.heap.size := fun hlt => by have := (ht.own g o hlt).symm.trans (ho o); simp [Go.Proofs.Ytnpcikghgfbfoaa.pre] at this
    simp [Ow.all, hge]
theorem Row.freshP (h : Row w' ow' (1 :: s) T sz v n cs) (ht : Turn [1] w (Go.Proofs.Ytnpcikghgfbfoaa.pre ow) w' ow') : Fresh w.heap.size v := by
  intro k hk
  rcases h.2 with ⟨rfl, _⟩ | ⟨g, off, cap, c, rfl, hg, ho, r⟩
  · simp [Value.ownBlock] at hk
  · simp [Value.ownBlock] at hk
    subst hk
    rcases Nat.lt_or_ge g w.heap.size with hlt | hge
    · have := (ht.own g 0 hlt).symm.trans (ho 0)
      simp [Go.Proofs.Ytnpcikghgfbfoaa.pre] at this
    · exact hge
end
namespace EWt
theorem Q.pre {w : World} {ow : Ow} {p : List Nat} {g o : Nat} {xs : List Wt} (h : Q w ow p g o xs) : Q w (pre ow) (0 :: p) g o xs := by
  obtain ⟨v, all, k, hc, hr, r⟩ := h
  exact ⟨v, all, k, hc.pre, hr.pre, r⟩
theorem L.pre {w : World} {ow : Ow} {p : List Nat} {g o : Nat} {qs : List (List Wt)} (h : L w ow p g o qs) : L w (pre ow) (0 :: p) g o qs := by
  obtain ⟨G, O, cap, hc, hq⟩ := h
  exact ⟨G, O, cap, hc.pre, fun i xs hi => (hq i xs hi).pre⟩
theorem total_mem (qs : List (List Wt)) (xs : List Wt) (h : xs ∈ qs) : xs.length ≤ total qs := by
  induction qs with
  | nil => cases h
  | cons y r ih =>
    simp only [total, List.map_cons, List.sum_cons] at ih ⊢
    rcases List.mem_cons.1 h with rfl | h
    · omega
    · have := ih h; omega
theorem total_take_le (qs : List (List Wt)) (m : Nat) : total (qs.take m) ≤ total qs := by
  have : total qs = total (qs.take m) + total (qs.drop m) := by
    simp only [total]
    rw [← List.sum_append, ← List.map_append, List.take_append_drop]
  omega
theorem lpre_total (qs : List (List Wt)) : ∀ m, m ≤ qs.length → (lpre qs 0).length = (lpre qs m).length + total (qs.take m)
  | 0, _ => by simp [total]
  | m + 1, hm => by
    have hx := List.getElem?_eq_getElem (l := qs) (i := m) hm
    rw [lpre_total qs m (by omega), lpre_step qs m _ hx, total_take qs m _ hx, List.length_append, List.length_map]
    omega
theorem lpre_length (qs : List (List Wt)) : (lpre qs 0).length = total qs := by
  rw [lpre_total qs qs.length (Nat.le_refl _), lpre_top, List.take_length]
  simp
theorem largs_at (qs : List (List Wt)) (k : Nat) (args : Array Value) (h : (largs qs)[k]? = some args) : ∃ y, (lpre qs 0)[k]? = some y ∧ args = #[.int .i64 (y.1 : Int), .agg #[.int .i64 y.2.job, .int .i64 y.2.task, .int .i64 y.2.level]] := by
  simp only [largs, List.getElem?_map, Option.map_eq_some_iff] at h
  obtain ⟨x, h1, h2⟩ := h
  exact ⟨x, h1, h2.symm⟩
end EWt
namespace EQ
open EWt

/-- A new slice, of elements xs. -/
def MadeS (w : World) (ow : Ow) (q : List Nat) (xs : List Wt) (e : Ending) (w' : World) : Prop :=
  ∃ (v : Value) (ow' : Ow), e = .returned v ∧ Row w' ow' q 27 3 v xs.length (css xs) ∧ New w ow w' ow' ∧ Fresh w.heap.size v

/-- The jobs in List's order. -/
def ls (qs : List (List Wt)) : List Wt := (lpre qs 0).map (·.2)

/-- What List's loop keeps. -/
def listI (w : World) (ow : Ow) (R : Nat) (xs : List Wt) (k : Nat) (W : World) (OW : Ow) : Prop :=
  ∃ v, Cells W OW [1, 1, 1] R 0 [v] ∧ Row W OW [1, 1, 2] 27 3 v k (css (xs.take k)) ∧ Turn [1] w (pre ow) W OW
theorem listI.keep (w : World) (ow : Ow) (R : Nat) (xs : List Wt) (k : Nat) (q : List Nat) (h1 : ¬ q <+: [1, 1, 1]) (h2 : ¬ q <+: [1, 1, 2]) (h3 : [1] <+: q) : Stab q (listI w ow R xs k) := by
  rintro W OW W' OW' ⟨v, c, r, t⟩ tt
  exact ⟨v, c.keep tt h1, r.keep tt h2, t.trans (tt.up h3)⟩

set_option maxRecDepth 100000 in
set_option maxHeartbeats 1000000 in
theorem list (w : World) (ow : Ow) (p q : List Nat) (g : Nat) (qs : List (List Wt)) (act : List Int) (h : QQ w ow p g qs act) (hT : total qs ≤ 1000000) (hl : qs.length ≤ 32) :
    Calls Try.prog 10 #[.pointer (some ⟨g, 0, none⟩)] w (MadeS w ow q (ls qs)) := by
  have hn : ∀ xs ∈ qs, xs.length ≤ 1099511627776 := fun xs hx => by have := total_mem qs xs hx; omega
  have hlen := l_len w ow (p ++ [0]) g 0 qs h.1 hn hl (fun m => by have := total_take_le qs m; omega)
  have hL := h.1.pre
  have Hlen := Lib.hid hlen
  have HL := Lib.hid hL
  have Hn := Lib.hid hn
  have hlg := h.1.lt
  have hmk : ∀ W, Sem.run Try.prog (Instr.makeSlice 30 (.int .i64 0) (.int .i64 (total qs : Int))) W = .ok (.slice (some ⟨W.heap.size, 0, none⟩) 0 (total qs)) (W.alloc (.cells (madeCells #[.int .i64 0, .int .i64 0, .int .i64 0] (total qs * 3)) 27)) := run_make_eq (P := Try.prog) Try.underlying30 info .i64 .i64 0 (total qs) (Nat.zero_le _) (by omega) (by unfold maxLen; omega)
  clear hlen hL hn h
  refine calls_marks (fn := Try.f10) Try.func10 rfl ?_
  simp only [Try.ntmps10, List.size_toArray, List.length_cons, List.length_nil, Nat.reduceAdd, Nat.reduceSub, Array.replicate_succ, Array.replicate_zero, List.push_toArray, List.append_toArray, List.nil_append, List.cons_append]
  go_wp2_with fail
  refine Hlen.out.mono ?_
  rintro e w1 ⟨rfl, k, rfl⟩
  go_wp2_with fail
  refine (l_all _ g 0).mono ?_
  rintro e w2 ⟨rfl, rfl⟩
  go_wp2
  have n1 : New w (pre ow) ((w.drewN k).alloc (.cells (madeCells #[.int .i64 0, .int .i64 0, .int .i64 0] (total qs * 3)) 27)) ((pre ow).set w.heap.size [1, 1, 2]) := ((New.refl _ _).drewN k).alloc _ _
  have r1 : Row ((w.drewN k).alloc (.cells (madeCells #[.int .i64 0, .int .i64 0, .int .i64 0] (total qs * 3)) 27)) ((pre ow).set w.heap.size [1, 1, 2]) [1, 1, 2] 27 3 (.slice (some ⟨w.heap.size, 0, none⟩) 0 (total qs)) 0 (css ((ls qs).take 0)) :=
    Row.new (w.drewN k) (pre ow) [1, 1, 2] _ 3 0 (total qs) _ _ rfl (Nat.zero_le _) (by unfold maxLen; omega) (by rw [size_madeCells]; exact Nat.le_refl _) (fun j u hj => by simp [css] at hj)
  have z1 : ((w.drewN k).alloc (.cells (madeCells #[.int .i64 0, .int .i64 0, .int .i64 0] (total qs * 3)) 27)).heap.size = w.heap.size + 1 := by simp [World.drewN]
  generalize hW1 : ((w.drewN k).alloc (.cells (madeCells #[.int .i64 0, .int .i64 0, .int .i64 0] (total qs * 3)) 27)) = W1 at *
  generalize hO1 : (pre ow).set w.heap.size [1, 1, 2] = O1 at *
  have n2 := (New.refl W1 O1).alloc (Obj.cells #[Value.slice (some ⟨w.heap.size, 0, none⟩) 0 (total qs)] 30) [1, 1, 1]
  have c2 := Cells.new W1 O1 [1, 1, 1] [Value.slice (some ⟨w.heap.size, 0, none⟩) 0 (total qs)] 30
  have z2 : (W1.alloc (Obj.cells #[Value.slice (some ⟨w.heap.size, 0, none⟩) 0 (total qs)] 30)).heap.size = w.heap.size + 1 + 1 := by rw [World.size_alloc, z1]
  rw [z1] at n2 c2
  change Cells (W1.alloc (Obj.cells #[Value.slice (some ⟨w.heap.size, 0, none⟩) 0 (total qs)] 30)) _ _ _ _ _ at c2
  generalize hW2 : (W1.alloc (Obj.cells #[Value.slice (some ⟨w.heap.size, 0, none⟩) 0 (total qs)] 30)) = W2 at *
  generalize hO2 : O1.set (w.heap.size + 1) [1, 1, 1] = O2 at *
  have n3 := (New.refl W2 O2).alloc (Obj.cells #[Value.pointer (some ⟨g, 0, none⟩)] 59) [1, 2]
  have c3 := Cells.new W2 O2 [1, 2] [Value.pointer (some ⟨g, 0, none⟩)] 59
  rw [z2] at n3 c3
  change Cells (W2.alloc (Obj.cells #[Value.pointer (some ⟨g, 0, none⟩)] 59)) _ _ _ _ _ at c3
  have c2 := c2.new_ n3
  have r1 := (r1.new_ n2).new_ n3
  have n3 := (n1.trans n2).trans n3
  generalize hW3 : (W2.alloc (Obj.cells #[Value.pointer (some ⟨g, 0, none⟩)] 59)) = W3 at *
  generalize hO3 : O2.set (w.heap.size + 1 + 1) [1, 2] = O3 at *
  clear hW3 hO3 hW2 hO2 hW1 hO1 z1 z2 n1 n2 hmk Hlen
  have hL3 := HL.out.new_ n3
  refine wp_range (gf := 37) (lb := #[.pointer (some ⟨w.heap.size + 1 + 1, 0, none⟩)]) rfl (enters_of Try.func37 (by kernel_rfl) rfl) (largs qs) [1, 0] [1, 1] [1, 1, 0] W3 O3
    (l_iter W3 O3 (0 :: (p ++ [0])) [1, 2] [1, 0] [1, 1] g 0 (w.heap.size + 1 + 1) qs hL3 Hn.out hl c3 (by simp) (by simp) (by simp) (by simp) (by simp) (by simp) (by simp)) (Turn.refl _ _ _) (by simp) (by simp) ?_
    (listI w ow (w.heap.size + 1) (ls qs)) (fun _ _ _ _ => False) ?_ ?_ ?_ ?_ ?_ ?_ ?_ ?_
  · intro i args hi
    obtain ⟨x, -, rfl⟩ := largs_at qs i args hi
    rfl
  · exact fun j => listI.keep _ _ _ _ _ _ (by simp) (by simp) (by simp)
  · intro c j W1 OW1 W2 OW2 hf; exact hf.elim
  · exact fun j => listI.keep _ _ _ _ _ _ (by simp) (by simp) (by simp)
  · intro c j W1 OW1 W2 OW2 hf; exact hf.elim
  · exact ⟨_, c2, r1, n3.turn _⟩
  · intro l' D j rr rb args W4 OW4 hxj ⟨v, d1, d2, d3⟩ hBk
    obtain ⟨y, hy, rfl⟩ := largs_at qs j args hxj
    rw [foldl2]
    simp only [List.setIfInBounds_toArray, List.set_cons_succ, List.set_cons_zero]
    gi_wp2
    have hnX := (New.refl W4 OW4).alloc (Obj.cells #[Value.int .i64 y.2.job, Value.int .i64 y.2.task, Value.int .i64 y.2.level] 27) [1, 1, 3]
    refine ⟨OW4.set W4.heap.size [1, 1, 3], hnX.turn _, hBk.new_ hnX, fun W5 ht5 hBk5 => ?_⟩
    have hX5 := (Cells.new W4 OW4 [1, 1, 3] [Value.int .i64 y.2.job, Value.int .i64 y.2.task, Value.int .i64 y.2.level] 27).keep ht5 (by simp)
    have d1 := (d1.new_ hnX).keep ht5 (by simp)
    have d2 := (d2.new_ hnX).keep ht5 (by simp)
    have d3 := (d3.trans (hnX.turn _)).trans (ht5.up (by simp))
    generalize hO5 : OW4.set W4.heap.size [1, 1, 3] = OW5 at *
    generalize hXb : W4.heap.size = Xb at *
    obtain ⟨Av, cv, rfl, hcv⟩ := d2.slice
    have hjx : j < total qs := by rw [← lpre_length]; exact (List.getElem?_eq_some_iff.1 hy).1
    have e1 := d1.get0
    have f1 := d1.free 0
    have x0 := hX5.get 0 rfl
    have x1 := hX5.get 1 rfl
    have x2 := hX5.get 2 rfl
    simp only [Nat.zero_add] at x0 x1 x2
    have hle : (1000000 : Nat) < maxLen := by unfold maxLen; omega
    gi_wp2_with (refine wpListIn_round rfl (by intro c hc; cases hc) fun K hK => ?_; refine wp_append_row (.tmp 17) (.tmp 19) 30 30 rfl 27 _ 3 24 Try.underlying30 info rfl rfl (d2.alloc_ (Obj.cells #[Value.int .i64 y.2.job, Value.int .i64 y.2.task, Value.int .i64 y.2.level] 27)) rfl ((Reads.new _ (cs y.2) _ 1 1 (Nat.le_refl _)).src Try.underlying30 rfl (cs_one y.2)) (by omega) (by omega) ?_; intro v6 w6 ow6 r6 t6; obtain ⟨A6, c6, rfl, hc6⟩ := r6.slice; have d6 := (d1.alloc_ (Obj.cells #[Value.int .i64 y.2.job, Value.int .i64 y.2.task, Value.int .i64 y.2.level] 27)).keep t6 (by simp); have e6 := d6.get0; have f6 := d6.free 0; refine hK _ _ ?_)
    have hx6 : css ((ls qs).take (j + 1)) = css ((ls qs).take j) ++ cs y.2 := by rw [List.take_add_one, ls, List.getElem?_map, hy, ← css_snoc]; rfl
    have hs6 : Turn [1, 1, 1] w6 ow6 (w6.setCell ⟨w.heap.size + 1, 0, none⟩ (.slice A6 (j + 1) c6)) ow6 := d6.turn 0 _ (by simp)
    have tk : Turn [1, 1] W5 OW5 (w6.setCell ⟨w.heap.size + 1, 0, none⟩ (.slice A6 (j + 1) c6)) ow6 := (((Turn.refl [1, 1, 2] W5 OW5).alloc_ _).trans t6).up (by simp) |>.trans (hs6.up (by simp))
    have tb : Turn [1, 1, 2] W5 OW5 w6 ow6 := ((Turn.refl [1, 1, 2] W5 OW5).alloc_ _).trans t6
    refine ⟨ow6, tk, (hBk5.turn tb (by simp)).setCell _ _, _, d6.set0 _, ?_, d3.trans (tk.up (by simp))⟩
    rw [hx6]
    exact r6.keep hs6 (by simp)
  · intro D W4 OW4 ⟨v, d1, d2, d3⟩ hD oD hDs
    have e1 := d1.get0
    go_wp2
    have hll : (largs qs).length = (ls qs).length := by rw [largs_length, ls, List.length_map]
    rw [hll, List.take_length] at d2
    refine bodyM_ret (ok := fun x => x = [1, 1, 0]) [1, 1, 0] (fun x hx => hx ▸ List.prefix_refl _) ⟨⟨D, rfl, hD, oD, by simp⟩, trivial⟩ fun W' t => ⟨_, results_tmp rfl _ _ _, _, _, rfl, Row.allP (d2.keep t (by simp)) (d3.trans (t.up (by simp))) q, (d3.trans (t.up (by simp))).allP q, Row.freshP (d2.keep t (by simp)) (d3.trans (t.up (by simp)))⟩
  · intro D c j W1 OW1 hj hf; exact hf.elim

theorem Row_cut {w : World} {ow : Ow} {p : List Nat} {T sz n cap : Nat} {A : Option Addr} {cs : List Value} (h : Row w ow p T sz (.slice A n cap) n cs) : Row w ow p T sz (.slice A n n) n cs := by
  refine ⟨h.1, ?_⟩
  rcases h.2 with ⟨hv, h0⟩ | ⟨g, off, cap', c, hv, hg, ho, hn, hm, hs, hc⟩
  · simp only [Value.slice.injEq] at hv
    exact .inl ⟨by rw [hv.1, h0], h0⟩
  · simp only [Value.slice.injEq] at hv
    obtain ⟨rfl, -, rfl⟩ := hv
    exact .inr ⟨g, off, n, c, rfl, hg, ho, Nat.le_refl _, by omega, Nat.le_trans (Nat.add_le_add_left (Nat.mul_le_mul_right _ hn) _) hs, hc⟩

/-- The jobs that Level shows. -/
def lvl (lv : Int) (ys : List (Nat × Wt)) : List Wt := (ys.filter fun y => decide ((y.1 : Int) = lv)).map (·.2)
theorem lvl_snoc (lv : Int) (ys : List (Nat × Wt)) (y : Nat × Wt) : lvl lv (ys ++ [y]) = lvl lv ys ++ if (y.1 : Int) = lv then [y.2] else [] := by
  rw [lvl, List.filter_append, List.map_append]
  by_cases h : (y.1 : Int) = lv <;> simp [lvl, h]
theorem lvl_le (lv : Int) (ys : List (Nat × Wt)) : (lvl lv ys).length ≤ ys.length := by
  rw [lvl, List.length_map]; exact List.length_filter_le _ _

/-- What Level's loop keeps. -/
def levI (w : World) (ow : Ow) (P R : Nat) (lv : Int) (ys : List (Nat × Wt)) (k : Nat) (W : World) (OW : Ow) : Prop :=
  ∃ v, Cells W OW [1, 1, 1] R 0 [v] ∧ Row W OW [1, 1, 2] 27 3 v (lvl lv (ys.take k)).length (css (lvl lv (ys.take k))) ∧ Turn [1] w (pre ow) W OW ∧ Cells W OW [1, 1, 4] P 0 [.int .i64 lv]
theorem levI.keep (w : World) (ow : Ow) (P R : Nat) (lv : Int) (ys : List (Nat × Wt)) (k : Nat) (q : List Nat) (h1 : ¬ q <+: [1, 1, 1]) (h2 : ¬ q <+: [1, 1, 2]) (h3 : [1] <+: q) (h4 : ¬ q <+: [1, 1, 4]) : Stab q (levI w ow P R lv ys k) := by
  rintro W OW W' OW' ⟨v, c, r, t, d⟩ tt
  exact ⟨v, c.keep tt h1, r.keep tt h2, t.trans (tt.up h3), d.keep tt h4⟩

set_option maxRecDepth 100000 in
set_option maxHeartbeats 1000000 in
theorem level (w : World) (ow : Ow) (p q : List Nat) (g : Nat) (qs : List (List Wt)) (act : List Int) (lv : Int) (h : QQ w ow p g qs act) (hT : total qs ≤ 1000000) (hl : qs.length ≤ 32) :
    Calls Try.prog 20 #[.pointer (some ⟨g, 0, none⟩), .int .i64 lv] w (MadeS w ow q (lvl lv (lpre qs 0))) := by
  have hn : ∀ xs ∈ qs, xs.length ≤ 1099511627776 := fun xs hx => by have := total_mem qs xs hx; omega
  have hL := h.1.pre
  have HL := Lib.hid hL
  have Hn := Lib.hid hn
  have hlg := h.1.lt
  clear hL hn h
  refine calls_marks (fn := Try.f20) Try.func20 rfl ?_
  simp only [Try.ntmps20, List.size_toArray, List.length_cons, List.length_nil, Nat.reduceAdd, Nat.reduceSub, Array.replicate_succ, Array.replicate_zero, List.push_toArray, List.append_toArray, List.nil_append, List.cons_append]
  go_wp2_with fail
  refine (l_all _ g 0).mono ?_
  rintro e w2 ⟨rfl, rfl⟩
  go_wp2
  have n1 := (New.refl w (pre ow)).alloc (Obj.cells #[Value.int .i64 lv] 3) [1, 1, 4]
  have c1 := Cells.new w (pre ow) [1, 1, 4] [Value.int .i64 lv] 3
  change Cells (w.alloc (Obj.cells #[Value.int .i64 lv] 3)) _ _ _ _ _ at c1
  have z1 : (w.alloc (Obj.cells #[Value.int .i64 lv] 3)).heap.size = w.heap.size + 1 := by simp
  generalize hW1 : (w.alloc (Obj.cells #[Value.int .i64 lv] 3)) = W1 at *
  generalize hO1 : (pre ow).set w.heap.size [1, 1, 4] = O1 at *
  have n2 := (New.refl W1 O1).alloc (Obj.cells #[Value.slice none 0 0] 30) [1, 1, 1]
  have c2 := Cells.new W1 O1 [1, 1, 1] [Value.slice none 0 0] 30
  have z2 : (W1.alloc (Obj.cells #[Value.slice none 0 0] 30)).heap.size = w.heap.size + 1 + 1 := by rw [World.size_alloc, z1]
  rw [z1] at n2 c2
  change Cells (W1.alloc (Obj.cells #[Value.slice none 0 0] 30)) _ _ _ _ _ at c2
  generalize hW2 : (W1.alloc (Obj.cells #[Value.slice none 0 0] 30)) = W2 at *
  generalize hO2 : O1.set (w.heap.size + 1) [1, 1, 1] = O2 at *
  have n3 := (New.refl W2 O2).alloc (Obj.cells #[Value.pointer (some ⟨g, 0, none⟩)] 59) [1, 2]
  have c3 := Cells.new W2 O2 [1, 2] [Value.pointer (some ⟨g, 0, none⟩)] 59
  rw [z2] at n3 c3
  change Cells (W2.alloc (Obj.cells #[Value.pointer (some ⟨g, 0, none⟩)] 59)) _ _ _ _ _ at c3
  have c2 := c2.new_ n3
  have c1 := (c1.new_ n2).new_ n3
  have n3 := (n1.trans n2).trans n3
  generalize hW3 : (W2.alloc (Obj.cells #[Value.pointer (some ⟨g, 0, none⟩)] 59)) = W3 at *
  generalize hO3 : O2.set (w.heap.size + 1 + 1) [1, 2] = O3 at *
  clear hW3 hO3 hW2 hO2 hW1 hO1 z1 z2 n1 n2
  have hL3 := HL.out.new_ n3
  refine wp_range (gf := 37) (lb := #[.pointer (some ⟨w.heap.size + 1 + 1, 0, none⟩)]) rfl (enters_of Try.func37 (by kernel_rfl) rfl) (largs qs) [1, 0] [1, 1] [1, 1, 0] W3 O3
    (l_iter W3 O3 (0 :: (p ++ [0])) [1, 2] [1, 0] [1, 1] g 0 (w.heap.size + 1 + 1) qs hL3 Hn.out hl c3 (by simp) (by simp) (by simp) (by simp) (by simp) (by simp) (by simp)) (Turn.refl _ _ _) (by simp) (by simp) ?_
    (levI w ow w.heap.size (w.heap.size + 1) lv (lpre qs 0)) (fun _ _ _ _ => False) ?_ ?_ ?_ ?_ ?_ ?_ ?_ ?_
  · intro i args hi
    obtain ⟨x, -, rfl⟩ := largs_at qs i args hi
    rfl
  · exact fun j => levI.keep _ _ _ _ _ _ _ _ (by simp) (by simp) (by simp) (by simp)
  · intro c j W1 OW1 W2 OW2 hf; exact hf.elim
  · exact fun j => levI.keep _ _ _ _ _ _ _ _ (by simp) (by simp) (by simp) (by simp)
  · intro c j W1 OW1 W2 OW2 hf; exact hf.elim
  · exact ⟨_, c2, Row.nil _ _ _ _ _, n3.turn _, c1⟩
  · intro l' D j rr rb args W4 OW4 hxj ⟨v, d1, d2, d3, d4⟩ hBk
    obtain ⟨y, hy, rfl⟩ := largs_at qs j args hxj
    rw [foldl2]
    simp only [List.setIfInBounds_toArray, List.set_cons_succ, List.set_cons_zero]
    gi_wp2
    have hnX := (New.refl W4 OW4).alloc (Obj.cells #[Value.int .i64 y.2.job, Value.int .i64 y.2.task, Value.int .i64 y.2.level] 27) [1, 1, 3]
    refine ⟨OW4.set W4.heap.size [1, 1, 3], hnX.turn _, hBk.new_ hnX, fun W5 ht5 hBk5 => ?_⟩
    have hX5 := (Cells.new W4 OW4 [1, 1, 3] [Value.int .i64 y.2.job, Value.int .i64 y.2.task, Value.int .i64 y.2.level] 27).keep ht5 (by simp)
    have d1 := (d1.new_ hnX).keep ht5 (by simp)
    have d2 := (d2.new_ hnX).keep ht5 (by simp)
    have d4 := (d4.new_ hnX).keep ht5 (by simp)
    have d3 := (d3.trans (hnX.turn _)).trans (ht5.up (by simp))
    generalize hO5 : OW4.set W4.heap.size [1, 1, 3] = OW5 at *
    generalize hXb : W4.heap.size = Xb at *
    have hll := lvl_le lv ((lpre qs 0).take j)
    have hjx : j < total qs := by rw [← lpre_length]; exact (List.getElem?_eq_some_iff.1 hy).1
    rw [List.length_take] at hll
    have hx6 : lvl lv ((lpre qs 0).take (j + 1)) = lvl lv ((lpre qs 0).take j) ++ if (y.1 : Int) = lv then [y.2] else [] := by rw [List.take_add_one, hy, ← lvl_snoc]; rfl
    generalize hN : lvl lv ((lpre qs 0).take j) = N at *
    obtain ⟨Av, cv, rfl, hcv⟩ := d2.slice
    have e1 := d1.get0
    have f1 := d1.free 0
    have e4 := d4.get0
    have x0 := hX5.get 0 rfl
    have x1 := hX5.get 1 rfl
    have x2 := hX5.get 2 rfl
    simp only [Nat.zero_add] at x0 x1 x2
    have hle : (1000000 : Nat) < maxLen := by unfold maxLen; omega
    have Hx6 := Lib.hid hx6
    clear hx6
    by_cases hlv : (y.1 : Int) = lv
    · have Hlv := Lib.hid hlv
      have blv : (((y.1 : Nat) : Int) == lv) = true := beq_iff_eq.2 hlv
      clear hlv
      gi_wp2_with (refine wpListIn_round rfl (by intro c hc; cases hc) fun K hK => ?_; refine wp_append_row (.tmp 17) (.tmp 19) 30 30 rfl 27 _ 3 24 Try.underlying30 info rfl rfl (d2.alloc_ (Obj.cells #[Value.int .i64 y.2.job, Value.int .i64 y.2.task, Value.int .i64 y.2.level] 27)) rfl ((Reads.new _ (cs y.2) _ 1 1 (Nat.le_refl _)).src Try.underlying30 rfl (cs_one y.2)) (by omega) (by omega) ?_; intro v6 w6 ow6 r6 t6; obtain ⟨A6, c6, rfl, hc6⟩ := r6.slice; have d6 := (d1.alloc_ (Obj.cells #[Value.int .i64 y.2.job, Value.int .i64 y.2.task, Value.int .i64 y.2.level] 27)).keep t6 (by simp); have e6 := d6.get0; have f6 := d6.free 0; refine hK _ _ ?_)
      have hs6 : Turn [1, 1, 1] w6 ow6 (w6.setCell ⟨w.heap.size + 1, 0, none⟩ (.slice A6 (N.length + 1) c6)) ow6 := d6.turn 0 _ (by simp)
      have tk : Turn [1, 1] W5 OW5 (w6.setCell ⟨w.heap.size + 1, 0, none⟩ (.slice A6 (N.length + 1) c6)) ow6 := (((Turn.refl [1, 1, 2] W5 OW5).alloc_ _).trans t6).up (by simp) |>.trans (hs6.up (by simp))
      have tb : Turn [1, 1, 2] W5 OW5 w6 ow6 := ((Turn.refl [1, 1, 2] W5 OW5).alloc_ _).trans t6
      refine ⟨ow6, tk, (hBk5.turn tb (by simp)).setCell _ _, _, d6.set0 _, ?_, d3.trans (tk.up (by simp)), (d4.keep tb (by simp)).keep hs6 (by simp)⟩
      rw [Hx6.out, if_pos Hlv.out, List.length_append, css_append]
      have := r6.keep hs6 (by simp)
      simpa [css] using this
    · have blv : (((y.1 : Nat) : Int) == lv) = false := beq_eq_false_iff_ne.2 hlv
      gi_wp2
      refine ⟨OW5, Turn.refl _ _ _, hBk5, _, d1, ?_, d3, d4⟩
      rw [Hx6.out, if_neg hlv, List.append_nil]
      exact d2
  · intro D W4 OW4 ⟨v, d1, d2, d3, d4⟩ hD oD hDs
    have hll : (largs qs).length = (lpre qs 0).length := largs_length qs
    rw [hll, List.take_length] at d2
    have hl2 := lvl_le lv (lpre qs 0)
    rw [lpre_length] at hl2
    generalize hN : lvl lv (lpre qs 0) = N at *
    obtain ⟨Av, cv, rfl, hcv⟩ := d2.slice
    have e1 := d1.get0
    have fin : ∀ W', Turn [1, 1, 0] W4 OW4 W' OW4 → MadeS w ow q N (.returned (.slice Av N.length N.length)) W' := fun W' t =>
      ⟨_, _, rfl, Row.allP (Row_cut (d2.keep t (by simp))) (d3.trans (t.up (by simp))) q, (d3.trans (t.up (by simp))).allP q, Row.freshP (Row_cut (d2.keep t (by simp))) (d3.trans (t.up (by simp)))⟩
    have Fin := Lib.hid fin
    clear fin
    go_wp2
    refine bodyM_ret (ok := fun x => x = [1, 1, 0]) [1, 1, 0] (fun x hx => hx ▸ List.prefix_refl _) ⟨⟨D, rfl, hD, oD, by simp⟩, trivial⟩ fun W' t => ⟨_, results_tmp rfl _ _ _, by exact Fin.out W' t⟩
  · intro D c j W1 OW1 hj hf; exact hf.elim

end EQ
end Go.Proofs.Ytnpcikghgfbfoaa
