/-
  LAW 1: told: does Levels hand out just these?
-/
import Derived.Test.YtppikbdeopagkaaEIntLI
import Derived.Test.YtppikbdeopagkaaPre
import Derived.Test.YtppikbdeopagkaaBox
import Derived.Test.YtppikbdeopagkaaFn
import Derived.Test.YtppikbdeopagkaaMore
import Derived.Shelf.Abstract
set_option linter.unusedVariables false
set_option linter.unusedSimpArgs false
namespace Go.Proofs.Ytppikbdeopagkaa
open Go Go.RowKit
attribute [local go_sem] Oper.semAt_some
namespace EInt
theorem Q.pre {w : World} {ow : Ow} {p : List Nat} {g o : Nat} {xs : List Int} (h : Q w ow p g o xs) : Q w (pre ow) (0 :: p) g o xs := by
  obtain ⟨v, all, k, hc, hr, r⟩ := h
  exact ⟨v, all, k, hc.pre, hr.pre, r⟩
theorem L.pre {w : World} {ow : Ow} {p : List Nat} {g o : Nat} {qs : List (List Int)} (h : L w ow p g o qs) : L w (pre ow) (0 :: p) g o qs := by
  obtain ⟨G, O, cap, hc, hq⟩ := h
  exact ⟨G, O, cap, hc.pre, fun i xs hi => (hq i xs hi).pre⟩
theorem largs_at (qs : List (List Int)) (k : Nat) (args : Array Value) (h : (largs qs)[k]? = some args) : ∃ y, (lpre qs 0)[k]? = some y ∧ args = #[.int .i64 (y.1 : Int), .int .i64 y.2] := by
  simp only [largs, List.getElem?_map, Option.map_eq_some_iff] at h
  obtain ⟨x, h1, h2⟩ := h
  exact ⟨x, h1, h2.symm⟩
end EInt
namespace SH
open EInt

/-- Element k of what is read. -/
theorem Reads_at {w : World} {A : Option Addr} {n c : Nat} {xs : List Int} (h : Reads w (.slice A n c) n (css xs)) (k : Nat) (x : Int) (hx : xs[k]? = some x) (hk : k < n) : ∃ g off, A = some ⟨g, off, none⟩ ∧ w.cell? ⟨g, off + k, none⟩ = some (.int .i64 x) := by
  obtain ⟨g, off, cap, hv, -, hc⟩ := h.at (by omega)
  simp only [Value.slice.injEq] at hv
  obtain ⟨rfl, -, -⟩ := hv
  have e := hc (k * 1 + 0) _ (css_at xs k x hx 0 _ rfl (by omega))
  simp only [Nat.mul_one, Nat.add_zero] at e
  exact ⟨g, off, rfl, e⟩

/-- What the range keeps. -/
def tdI (w : World) (ow : Ow) (p : List Nat) (g ga gb gr gn : Nat) (va vb : Value) (qs : List (List Int)) (k : Nat) (W : World) (OW : Ow) : Prop :=
  Cells W OW [1, 2] ga 0 [va] ∧ Cells W OW [1, 3] gb 0 [vb] ∧ Cells W OW [1, 7] gr 0 [.bool false] ∧ Cells W OW [1, 5, 1] gn 0 [.int .i64 (k : Int)] ∧ Turn [1] w (pre ow) W OW
theorem tdI.keep (w : World) (ow : Ow) (p : List Nat) (g ga gb gr gn : Nat) (va vb : Value) (qs : List (List Int)) (k : Nat) (a : Nat) (q : List Nat) (ha : a ≠ 2 ∧ a ≠ 3 ∧ a ≠ 7) (h5 : ¬ 1 :: a :: q <+: [1, 5, 1]) : Stab (1 :: a :: q) (tdI w ow p g ga gb gr gn va vb qs k) := by
  rintro W OW W' OW' ⟨h1, h2, h3, h4, t⟩ tt
  obtain ⟨a2, a3, a7⟩ := ha
  exact ⟨h1.keep tt (by simp [a2]), h2.keep tt (by simp [a3]), h3.keep tt (by simp [a7]), h4.keep tt h5, t.trans (tt.up (by simp))⟩
def threeT (w : World) (ow : Ow) (va vb : Value) (W : World) : Prop := ∃ OW : Ow, Cells W OW [1, 2] w.heap.size 0 [va] ∧ Cells W OW [1, 3] (w.heap.size + 1) 0 [vb] ∧ Cells W OW [1, 7] (w.heap.size + 1 + 1) 0 [.bool false] ∧ Turn [1] w (pre ow) W OW
theorem three_t (w : World) (ow : Ow) (va vb : Value) (a b c : TypeId) : threeT w ow va vb (((w.alloc (.cells #[va] a)).alloc (.cells #[vb] b)).alloc (.cells #[.bool false] c)) := by
  obtain ⟨o0, c0, n0, z0⟩ := add_cells w (pre ow) [1, 2] [va] a
  generalize w.alloc (.cells #[va] a) = w0 at *
  obtain ⟨o1, c1, n1, z1⟩ := add_cells w0 o0 [1, 3] [vb] b
  generalize w0.alloc (.cells #[vb] b) = w1 at *
  obtain ⟨o2, c2, n2, z2⟩ := add_cells w1 o1 [1, 7] [.bool false] c
  generalize w1.alloc (.cells #[.bool false] c) = w2 at *
  rw [z0] at c1
  have s2 : w1.heap.size = w.heap.size + 2 := by omega
  rw [s2] at c2
  exact ⟨o2, (c0.new_ n1).new_ n2, c1.new_ n2, c2, ((n0.turn [1]).trans (n1.turn [1])).trans (n2.turn [1])⟩

set_option maxRecDepth 100000 in
set_option maxHeartbeats 4000000 in
theorem told (w : World) (ow : Ow) (p : List Nat) (g : Nat) (qs : List (List Int)) (h : L w ow p g 0 qs) (hn : ∀ xs ∈ qs, xs.length ≤ 1099511627776) (hl : qs.length ≤ 32) (va vb : Value)
    (ra : Reads w va (lpre qs 0).length (css ((lpre qs 0).map fun y => (y.1 : Int)))) (rb : Reads w vb (lpre qs 0).length (css ((lpre qs 0).map (·.2)))) (hN : (lpre qs 0).length ≤ 1099511627776) :
    Calls Try.prog 97 #[.pointer (some ⟨g, 0, none⟩), va, vb] w fun e w' => e = .returned (.bool true) ∧ Below w.heap.size w w' := by
  have hL := h.pre
  have HL := Lib.hid hL
  have Hn := Lib.hid hn
  obtain ⟨A, ca, rfl, -⟩ := ra.slice
  obtain ⟨B, cb, rfl, -⟩ := rb.slice
  have Ra := Lib.hid ra
  have Rb := Lib.hid rb
  clear hL h hn ra rb
  obtain ⟨N, hN'⟩ : ∃ N, N = (lpre qs 0).length := ⟨_, rfl⟩
  rw [← hN'] at hN ⊢
  have HN := Lib.hid hN'
  clear hN'
  refine calls_marks (fn := Try.f97) Try.func97 rfl ?_
  simp only [Try.ntmps97, List.size_toArray, List.length_cons, List.length_nil, Nat.reduceAdd, Nat.reduceSub, Array.replicate_succ, Array.replicate_zero, List.push_toArray, List.append_toArray, List.nil_append, List.cons_append]
  go_wp2_with fail
  refine gen_calls (threeT w ow (.slice A N ca) (.slice B N cb)) (three_t w ow _ _ _ _ _) ?_
  rintro w1 ⟨ow1, ha, hb, hr, t⟩
  generalize hg : w.heap.size = ga at *
  generalize hg2 : ga + 1 + 1 = gr at *
  generalize hg1 : ga + 1 = gb at *
  have hfn := fun (W : World) (b : Nat) => run_eql_fn (P := Try.prog) W 102 _ _ _ (.func 129) #[] #[.pointer (some ⟨b, 0, none⟩)] Try.underlying102
  refine (l_all w1 g 0).mono ?_
  rintro e w71 ⟨rfl, rfl⟩
  go_wp2
  clear hfn
  obtain ⟨o2, bx, n2, z2⟩ := add_cells w1 ow1 [1, 8] [.pointer (some ⟨g, 0, none⟩)] 36
  generalize w1.alloc (.cells #[.pointer (some ⟨g, 0, none⟩)] 36) = w2 at *
  obtain ⟨o3, by_, n3, -⟩ := add_cells w2 o2 [1, 5, 1] [.int .i64 0] 3
  rw [z2] at by_
  have n4 := n2.trans n3
  refine gen_world (fun W => ∃ OW, Cells W OW [1, 2] ga 0 [.slice A N ca] ∧ Cells W OW [1, 3] gb 0 [.slice B N cb] ∧ Cells W OW [1, 7] gr 0 [.bool false] ∧ Cells W OW [1, 5, 1] (w1.heap.size + 1) 0 [.int .i64 0] ∧ Cells W OW [1, 8] w1.heap.size 0 [.pointer (some ⟨g, 0, none⟩)] ∧ Turn [1] w (pre ow) W OW) ⟨o3, ha.new_ n4, hb.new_ n4, hr.new_ n4, by_, bx.new_ n3, t.trans (n4.turn [1])⟩ ?_
  clear ha hb hr t bx by_ n2 n3 n4 z2
  rintro w3 ⟨ow3, ha, hb, hr, hm, hc, t⟩
  generalize hgn : w1.heap.size + 1 = gn at *
  generalize w1.heap.size = gc at *
  clear hgn
  have hL := HL.out.keep t (by simp) (by simp)
  refine wp_range (gf := 129) (lb := #[.pointer (some ⟨gc, 0, none⟩)]) rfl (enters_of Try.func129 (by kernel_rfl) rfl) (largs qs) [1, 6] [1, 5] [1, 5, 0] w3 ow3
    (l_iter w3 ow3 (0 :: p) [1, 8] [1, 6] [1, 5] g 0 gc qs hL Hn.out hl hc (by simp) (by simp) (by simp) (by simp) (by simp) (by simp) (by simp)) (Turn.refl _ _ _) (by simp) (by simp) ?_
    (tdI w ow p g ga gb gr gn (.slice A N ca) (.slice B N cb) qs) (fun _ _ _ _ => False) ?_ ?_ ?_ ?_ ?_ ?_ ?_ ?_
  · intro i args hi
    obtain ⟨x, -, rfl⟩ := largs_at qs i args hi
    rfl
  · exact fun j => tdI.keep _ _ _ _ _ _ _ _ _ _ _ _ _ _ (by simp) (by simp)
  · intro c j W1 OW1 W2 OW2 hf; exact hf.elim
  · exact fun j => tdI.keep _ _ _ _ _ _ _ _ _ _ _ _ _ _ (by simp) (by simp)
  · intro c j W1 OW1 W2 OW2 hf; exact hf.elim
  · exact ⟨ha, hb, hr, hm, t⟩
  · intro l' D j rr rb args W4 OW4 hxj hI hBk
    clear ha hb hr hm hc t hL
    obtain ⟨y, hy, rfl⟩ := largs_at qs j args hxj
    obtain ⟨d1, d2, d3, d4, d5⟩ := hI
    rw [foldl2]
    simp only [List.setIfInBounds_toArray, List.set_cons_succ, List.set_cons_zero]
    gi_wp2
    refine ⟨OW4, Turn.refl _ _ _, hBk, fun W5 ht5 hBk5 => ?_⟩
    have d1 := d1.keep ht5 (by simp)
    have d2 := d2.keep ht5 (by simp)
    have d3 := d3.keep ht5 (by simp)
    have d4 := d4.keep ht5 (by simp)
    have d5 := d5.trans (ht5.up (by simp))
    have hjl : j < N := by rw [HN.out]; exact (List.getElem?_eq_some_iff.1 hy).1
    have bl := (d5.allP []).below
    have ra := Ra.out.new_ bl
    have rbb := Rb.out.new_ bl
    rw [← HN.out] at ra rbb
    obtain ⟨g8, off8, rfl, e8⟩ := Reads_at ra j (y.1 : Int) (by rw [List.getElem?_map, hy]; rfl) hjl
    obtain ⟨g9, off9, rfl, e9⟩ := Reads_at rbb j y.2 (by rw [List.getElem?_map, hy]; rfl) hjl
    have a0 := d1.get0
    have b0 := d2.get0
    have n0 := d4.get0
    have nf := d4.free 0
    have nl := d4.lt
    have i1 : (j : Int) < (N : Int) := by omega
    clear ra rbb hy bl
    gi_wp2
    have tk := d4.turn 0 (.int .i64 ((j : Int) + 1)) (by simp)
    exact ⟨OW4, tk.up (by simp), hBk5.setCell _ _, d1.keep tk (by simp), d2.keep tk (by simp), d3.keep tk (by simp), d4.set0 _, d5.trans (tk.up (by simp))⟩
  · clear ha hb hr hm hc t hL
    intro D W4 OW4 hI hD oD hDs
    rw [largs_length, ← HN.out] at hI
    obtain ⟨d1, d2, d3, d4, d5⟩ := hI
    have hM : Marks (fun x => x = [1, 5, 0]) W4 OW4 [{ target := .collected D, args := #[] }] := ⟨⟨D, rfl, hD, oD, by simp⟩, trivial⟩
    have a0 := d1.get0
    have n0 := d4.get0
    have fr := d3.free 0
    have lr := d3.lt
    have r0 := d3.get0
    have tt := d3.turn 0 (.bool true) (by simp)
    have hr2 := d3.set0 (.bool true)
    have hM2 := Marks.turn (q := [1, 7]) (by rintro x rfl; simp) tt hM
    have fin := d5.trans (tt.up (by simp))
    clear hD oD hDs hM
    go_wp2
    refine bodyM_ret (ok := fun x => x = [1, 5, 0]) [1, 5, 0] (fun x hx => hx ▸ List.prefix_refl _) hM2 fun W' t' => ⟨.bool true, ?_, rfl, ((fin.trans (t'.up (by simp))).allP []).below⟩
    have r0 := (hr2.keep t' (by simp)).get0
    simp [results, Try.results97, go_sem, r0]
  · intro D c j W1 OW1 hj hf; exact hf.elim

end SH
end Go.Proofs.Ytppikbdeopagkaa
