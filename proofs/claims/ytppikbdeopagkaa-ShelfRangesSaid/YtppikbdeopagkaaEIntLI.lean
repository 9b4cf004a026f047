/-
  SHELF.LEVELS of int: All, an iterator.
-/
import Derived.Test.YtppikbdeopagkaaEIntQI
import Derived.Test.YtppikbdeopagkaaEIntL
import Derived.Stop.RegionWithIn
import Derived.Shelf.Abstract
import Derived.Deep.RegionHeld3
set_option linter.unusedVariables false
set_option linter.unusedSimpArgs false
namespace Go.Proofs.Ytppikbdeopagkaa
open Go Go.RowKit
attribute [local go_sem] Oper.semAt_some
namespace EInt

theorem l_all (w : World) (g o : Nat) :
    Calls Try.prog 89 #[.pointer (some ⟨g, o, none⟩)] w fun e w' => e = .returned (.func (.func 129) #[] #[.pointer (some ⟨w.heap.size, 0, none⟩)]) ∧ w' = w.alloc (.cells #[.pointer (some ⟨g, o, none⟩)] 36) := by
  go_enter Try.func89, Try.ntmps89
  go_wp2
  go_ret
  exact ⟨rfl, rfl⟩

theorem infoS : (Try.prog.info? 22).map (fun i => (i.zero, i.size, i.bytes)) = some (some (.slice none 0 0), 1, 24) := by kernel_rfl

/-- The copies of the queues. -/
def Now (W : World) (OW : Ow) (q : List Nat) (A : Nat) (rs : List (List Int)) : Prop :=
  ∀ i xs, rs[i]? = some xs → ∃ v, Cells W OW (q ++ [i, 0]) A i [v] ∧ Row W OW (q ++ [i, 1]) 3 1 v xs.length (css xs)

theorem Now.keep {W W1 : World} {OW OW1 : Ow} {q r : List Nat} {A : Nat} {rs : List (List Int)} (h : Now W OW q A rs) (tt : Turn r W OW W1 OW1) (hr : ∀ i j, ¬ r <+: q ++ [i, j]) : Now W1 OW1 q A rs := fun i xs hi => by
  obtain ⟨v, h1, h2⟩ := h i xs hi
  exact ⟨v, h1.keep tt (hr i 0), h2.keep tt (hr i 1)⟩

theorem Now.new_ {W W1 : World} {OW OW1 : Ow} {q : List Nat} {A : Nat} {rs : List (List Int)} (h : Now W OW q A rs) (n : New W OW W1 OW1) : Now W1 OW1 q A rs := fun i xs hi => by
  obtain ⟨v, h1, h2⟩ := h i xs hi
  exact ⟨v, h1.new_ n, h2.new_ n⟩

/-- A frame told by its slots. -/
theorem ex_frame {tm : Array Value} {ds0 : List Deferred} {F : Nat → (Nat → Value) → Array Value} {R : Nat → List Deferred → Ow → Prop} (k : Nat) (OW : Ow) (hF : tm = F k (fun i => tm.getD i undef)) (hR : R k ds0 OW) :
    ∃ (k : Nat) (ds : List Deferred) (OW : Ow) (u : Nat → Value), (⟨tm, ds0⟩ : Act) = ⟨F k u, ds⟩ ∧ R k ds OW :=
  ⟨k, ds0, OW, fun i => tm.getD i undef, by rw [← hF], hR⟩

theorem Now.new (W : World) (OW : Ow) (q : List Nat) (n : Nat) : Now (W.alloc (.cells (madeCells #[.slice none 0 0] n) 22)) (OW.setF W.heap.size (fun o => q ++ [o, 0])) q W.heap.size (List.replicate n []) := fun i xs hi => by
  have hlt : i < n := by have := (List.getElem?_eq_some_iff.1 hi).1; simpa using this
  have hx : xs = [] := by simpa [hlt] using hi.symm
  subst hx
  refine ⟨.slice none 0 0, ?_, Row.nil _ _ _ _ _⟩
  refine Cells.newF W OW _ _ _ _ _ _ fun j u hj => ?_
  cases j with
  | succ j => simp at hj
  | zero =>
    have : u = .slice none 0 0 := by simpa using hj.symm
    subst this
    exact ⟨by rw [Nat.add_zero, madeCells_at _ _ _ hlt]; simp [Nat.mod_one], rfl⟩

/-- What All hands out: the highest level first. -/
def lpre (qs : List (List Int)) (m : Nat) : List (Nat × Int) := ((List.range qs.length).drop m).reverse.flatMap fun i => ((qs[i]?).getD []).map fun x => (i + 1, x)
def largs (qs : List (List Int)) : List (Array Value) := (lpre qs 0).map fun y => #[.int .i64 (y.1 : Int), .int .i64 y.2]

theorem lpre_top (qs : List (List Int)) : lpre qs qs.length = [] := by
  rw [lpre, List.drop_of_length_le (by simp)]
  rfl
theorem lpre_step (qs : List (List Int)) (m : Nat) (xs : List Int) (h : qs[m]? = some xs) : lpre qs m = lpre qs (m + 1) ++ xs.map fun x => (m + 1, x) := by
  have hm : m < qs.length := (List.getElem?_eq_some_iff.1 h).1
  rw [lpre, List.drop_eq_getElem_cons (by simpa using hm), List.reverse_cons, List.flatMap_append]
  simp [lpre, h]
theorem lpre_pre (qs : List (List Int)) : ∀ m, m ≤ qs.length → ∃ r, lpre qs 0 = lpre qs m ++ r
  | 0, _ => ⟨[], by simp⟩
  | m + 1, hm => by
    obtain ⟨r, hr⟩ := lpre_pre qs m (by omega)
    exact ⟨_, by rw [hr, lpre_step qs m _ (List.getElem?_eq_getElem hm), List.append_assoc]⟩
theorem largs_length (qs : List (List Int)) : (largs qs).length = (lpre qs 0).length := by simp [largs]
theorem lpre_le (qs : List (List Int)) (m : Nat) (hm : m ≤ qs.length) : (lpre qs m).length ≤ (largs qs).length := by
  obtain ⟨r, hr⟩ := lpre_pre qs m hm
  rw [largs_length, hr, List.length_append]
  omega
theorem largs_get (qs : List (List Int)) (m : Nat) (xs : List Int) (h : qs[m]? = some xs) (j : Nat) (x : Int) (hx : xs[j]? = some x) : (largs qs)[(lpre qs (m + 1)).length + j]? = some #[.int .i64 ((m : Int) + 1), .int .i64 x] := by
  obtain ⟨r, hr⟩ := lpre_pre qs m (Nat.le_of_lt (List.getElem?_eq_some_iff.1 h).1)
  have hj : j < xs.length := (List.getElem?_eq_some_iff.1 hx).1
  rw [largs, hr, lpre_step qs m xs h, List.getElem?_map, List.append_assoc, List.getElem?_append_right (by omega), Nat.add_sub_cancel_left, List.getElem?_append_left (by simpa using hj), List.getElem?_map, hx]
  rfl

/-- What the loops over the copies keep. -/
def outRel (J : Nat → World → Ow → Prop) (pi : List Nat) (N A : Nat) (qs : List (List Int)) (n : Nat) (ds : List Deferred) (wr : World) (OW : Ow) : Prop :=
  J n wr OW ∧ Cells wr OW (pi ++ [0]) N 0 [.slice (some ⟨A, 0, none⟩) qs.length qs.length] ∧ Now wr OW (pi ++ [1, 0]) A qs ∧ Marks (fun x => ∃ j, j < qs.length ∧ x = pi ++ [1, 1, j]) wr OW ds
theorem outRel.turn {J : Nat → World → Ow → Prop} {pi : List Nat} {N A : Nat} {qs : List (List Int)} {n n' : Nat} {ds : List Deferred} {W W' : World} {OW OW' : Ow} {pb : List Nat} (h : outRel J pi N A qs n ds W OW) (t : Turn pb W OW W' OW') (hp : ∀ s, ¬ pb <+: pi ++ s) (hJ : J n' W' OW') : outRel J pi N A qs n' ds W' OW' := by
  obtain ⟨b1, b2, b3, b4⟩ := h
  refine ⟨hJ, b2.keep t (hp _), b3.keep t (fun i j => by rw [List.append_assoc]; exact hp _), b4.turn ?_ t⟩
  rintro x ⟨j, -, rfl⟩
  exact hp _
theorem outRel.new_ {J : Nat → World → Ow → Prop} {pi : List Nat} {N A : Nat} {qs : List (List Int)} {n : Nat} {ds : List Deferred} {W W' : World} {OW OW' : Ow} (h : outRel J pi N A qs n ds W OW) (t : New W OW W' OW') (sJ : Stab pi (J n)) : outRel J pi N A qs n ds W' OW' := by
  obtain ⟨b1, b2, b3, b4⟩ := h
  exact ⟨sJ _ _ _ _ b1 (t.turn pi), b2.new_ t, b3.new_ t, b4.new_ t⟩

/-- What the first loop keeps. -/
def fillRel (J : Nat → World → Ow → Prop) (p pc pi : List Nat) (g o B N A : Nat) (qs : List (List Int)) (k : Nat) (ds : List Deferred) (wr : World) (OW : Ow) : Prop :=
  J 0 wr OW ∧ Cells wr OW pc B 0 [.pointer (some ⟨g, o, none⟩)] ∧ L wr OW p g o qs ∧ Cells wr OW (pi ++ [0]) N 0 [.slice (some ⟨A, 0, none⟩) qs.length qs.length] ∧
    Now wr OW (pi ++ [1, 0]) A (qs.take k ++ List.replicate (qs.length - k) []) ∧ Marks (fun x => ∃ j, j < k ∧ x = pi ++ [1, 1, j]) wr OW ds

/-- What the inner loop keeps. -/
def bodyRel (J : Nat → World → Ow → Prop) (p pc pi : List Nat) (g o B N A I : Nat) (qs : List (List Int)) (k : Nat) (xs : List Int) (ds : List Deferred) (j : Nat) (wr : World) (OW : Ow) : Prop :=
  J 0 wr OW ∧ Cells wr OW pc B 0 [.pointer (some ⟨g, o, none⟩)] ∧ L wr OW p g o qs ∧ Cells wr OW (pi ++ [0]) N 0 [.slice (some ⟨A, 0, none⟩) qs.length qs.length] ∧
    Now wr OW (pi ++ [1, 0]) A ((qs.take k ++ List.replicate (qs.length - k) []).set k (xs.take j)) ∧ Marks (fun x => ∃ j, j < k ∧ x = pi ++ [1, 1, j]) wr OW ds ∧
    Cells wr OW (pi ++ [3]) I 0 [.int .i64 (k : Int)]

theorem bodyRel.keep {J : Nat → World → Ow → Prop} {p pc pi : List Nat} {g o B N A I : Nat} {qs : List (List Int)} {k : Nat} {xs : List Int} {ds : List Deferred} {j : Nat} (sJ : Stab pi (J 0)) (a0 : ¬ pi <+: p ++ [0]) (a1 : ∀ i j, ¬ pi <+: p ++ [1, i, j]) (a2 : ¬ pi <+: pc)
    (r : List Nat) (r0 : ¬ r <+: [0]) (r1 : ∀ i j, ¬ r <+: [1, 0, i, j]) (r2 : ∀ j, j < k → ¬ r <+: [1, 1, j]) (r3 : ¬ r <+: [3]) : Stab (pi ++ r) (bodyRel J p pc pi g o B N A I qs k xs ds j) := by
  rintro W OW W' OW' ⟨b1, b2, b3, b4, b5, b6, b7⟩ t
  refine ⟨sJ _ _ _ _ b1 (t.up (List.prefix_append _ _)), b2.keep t (npx a2 _), b3.keep t (npx a0 _) (fun i j => npx (a1 i j) _), b4.keep t (by simpa using r0), b5.keep t (fun i j => by have := r1 i j; simpa using this), b6.turn (q := pi ++ r) ?_ t, b7.keep t (by simpa using r3)⟩
  rintro x ⟨j, hj, rfl⟩
  have := r2 j hj
  simpa using this

set_option maxRecDepth 100000 in
set_option maxHeartbeats 4000000 in
theorem l_iter (w : World) (ow : Ow) (p pc pi pb : List Nat) (g o B : Nat) (qs : List (List Int)) (h : L w ow p g o qs) (hn : ∀ xs ∈ qs, xs.length ≤ 1099511627776) (hl : qs.length ≤ 32) (hB : Cells w ow pc B 0 [.pointer (some ⟨g, o, none⟩)])
    (h0 : ¬ pb <+: p ++ [0]) (h1 : ∀ i j, ¬ pb <+: p ++ [1, i, j]) (h2 : ¬ pb <+: pc) (h3 : ∀ s, ¬ pb <+: pi ++ s) (a0 : ¬ pi <+: p ++ [0]) (a1 : ∀ i j, ¬ pi <+: p ++ [1, i, j]) (a2 : ¬ pi <+: pc) :
    Iter Try.prog 129 #[.pointer (some ⟨B, 0, none⟩)] (largs qs) pi pb w ow := by
  intro l J Jx W OW ht sJ sX hY hJ0
  have hL := h.keep ht h0 h1
  have hBW := hB.keep ht h2
  have cB := hBW.get0
  obtain ⟨G, O, cap, hc, hq⟩ := hL
  have c0 := hc.get0
  have Hq := Lib.hid hq
  have Hn := Lib.hid hn
  have HY := Lib.hid hY
  have sJ := Lib.hid sJ
  have h1 := Lib.hid h1
  have h3 := Lib.hid h3
  have a1 := Lib.hid a1
  clear hq hn hY
  refine callsIn_of_wp_marks (n := 0) Try.func129 rfl trivial ?_ rfl
  simp only [Try.ntmps129, List.size_toArray, List.length_cons, List.length_nil, Nat.reduceAdd, Nat.reduceSub, Array.replicate_succ, Array.replicate_zero, List.push_toArray, List.append_toArray, List.nil_append, List.cons_append]
  have hmk := run_make_eq (P := Try.prog) Try.underlying70 infoS .i64 .i64 qs.length qs.length (Nat.le_refl _) (by omega) (by unfold maxLen; omega)
  simp only [Nat.mul_one, show (Value.slice none 0 0).cells = #[.slice none 0 0] from rfl] at hmk
  have lB := hBW.lt
  have lg := hc.lt
  gi_wp2
  refine wpIn_loop (fun a wr => ∃ (k : Nat) (ds : List Deferred) (OW : Ow) (u : Nat → Value), a = ⟨(Value.func (Fn.yield l) #[] #[] :: Value.pointer (some ⟨B, 0, none⟩) :: u 2 :: Value.pointer (some ⟨W.heap.size + 1, 0, none⟩) :: u 4 :: u 5 :: u 6 :: u 7 :: u 8 :: u 9 :: u 10 :: u 11 :: u 12 :: u 13 :: u 14 :: u 15 :: u 16 :: u 17 :: u 18 :: u 19 :: Value.int IntKind.i64 (qs.length : Int) :: Value.int IntKind.i64 (k : Int) :: u 22 :: u 23 :: u 24 :: u 25 :: u 26 :: u 27 :: u 28 :: u 29 :: u 30 :: u 31 :: u 32 :: u 33 :: u 34 :: u 35 :: u 36 :: u 37 :: u 38 :: u 39 :: u 40 :: u 41 :: u 42 :: u 43 :: u 44 :: u 45 :: u 46 :: u 47 :: u 48 :: u 49 :: u 50 :: u 51 :: u 52 :: u 53 :: u 54 :: u 55 :: u 56 :: u 57 :: u 58 :: u 59 :: u 60 :: u 61 :: u 62 :: u 63 :: u 64 :: u 65 :: []).toArray, ds⟩ ∧ k ≤ qs.length ∧ fillRel J p pc pi g o B (W.heap.size + 1) W.heap.size qs k ds wr OW) (fun a _ => qs.length - (intOf (a.tmps.getD 21 undef)).toNat) ?_ ?_
  · refine ex_frame 0 ((OW.setF W.heap.size (fun o => pi ++ [1, 0] ++ [o, 0])).set (W.heap.size + 1) (pi ++ [0])) rfl ⟨Nat.zero_le _, ?_⟩
    have n1 : New W OW (W.alloc (Obj.cells (madeCells #[.slice none 0 0] qs.length) 22)) (OW.setF W.heap.size (fun o => pi ++ [1, 0] ++ [o, 0])) := (New.refl _ _).allocF _ _
    have n2 : New (W.alloc (Obj.cells (madeCells #[.slice none 0 0] qs.length) 22)) (OW.setF W.heap.size (fun o => pi ++ [1, 0] ++ [o, 0])) ((W.alloc (Obj.cells (madeCells #[.slice none 0 0] qs.length) 22)).alloc (Obj.cells #[Value.slice (some ⟨W.heap.size, 0, none⟩) qs.length qs.length] 70)) ((OW.setF W.heap.size (fun o => pi ++ [1, 0] ++ [o, 0])).set (W.heap.size + 1) (pi ++ [0])) := by
      have := (New.refl (W.alloc (Obj.cells (madeCells #[.slice none 0 0] qs.length) 22)) (OW.setF W.heap.size (fun o => pi ++ [1, 0] ++ [o, 0]))).alloc (Obj.cells #[Value.slice (some ⟨W.heap.size, 0, none⟩) qs.length qs.length] 70) (pi ++ [0])
      simpa using this
    refine ⟨sJ.out 0 _ _ _ _ hJ0 ((n1.trans n2).turn pi), hBW.new_ (n1.trans n2), L.new_ ⟨G, O, cap, hc, Hq.out⟩ (n1.trans n2), ?_, ?_, trivial⟩
    · have := Cells.new (W.alloc (Obj.cells (madeCells #[.slice none 0 0] qs.length) 22)) (OW.setF W.heap.size (fun o => pi ++ [1, 0] ++ [o, 0])) (pi ++ [0]) [Value.slice (some ⟨W.heap.size, 0, none⟩) qs.length qs.length] 70
      simpa using this
    · rw [List.take_zero, List.nil_append, Nat.sub_zero]
      exact (Now.new W OW (pi ++ [1, 0]) qs.length).new_ n2
  · rintro a wr ⟨k, ds, OWr, u, rfl, hk, hJ, hBr, hLr, hNr, hnow, hM⟩
    obtain ⟨G', O', cap', hcr, hqr⟩ := hLr
    have cB := hBr.get0
    have c0 := hcr.get0
    have lBr := hBr.lt
    have lgr := hcr.lt
    have lNr := hNr.lt
    by_cases hlt : k < qs.length
    · have i0 : (k : Int) < (qs.length : Int) := by omega
      obtain ⟨xs, hx⟩ : ∃ xs, qs[k]? = some xs := ⟨_, List.getElem?_eq_getElem hlt⟩
      have Hqr := Lib.hid hqr
      have Hx := Lib.hid hx
      have Hnow := Lib.hid hnow
      clear hqr hx hnow c0
      have c0 := hcr.get0
      gi_wp2
      refine wpIn_mono ?_ NoPanic.imp
      have lI : wr.heap.size < (wr.alloc (Obj.cells #[Value.int IntKind.i64 (k : Int)] 3)).heap.size := by simp
      refine wpIn_wide.2 (plain_region (fun W' => W'.cell? ⟨B, 0, none⟩ = some (.pointer (some ⟨g, o, none⟩)) ∧ W'.cell? ⟨g, o, none⟩ = some (.slice (some ⟨G', O', none⟩) qs.length cap') ∧ W'.cell? ⟨wr.heap.size, 0, none⟩ = some (.int .i64 (k : Int))) [] (by kernel_rfl) ?_)
      have hS : (fun W' : World => W'.cell? ⟨B, 0, none⟩ = some (.pointer (some ⟨g, o, none⟩)) ∧ W'.cell? ⟨g, o, none⟩ = some (.slice (some ⟨G', O', none⟩) qs.length cap') ∧ W'.cell? ⟨wr.heap.size, 0, none⟩ = some (.int .i64 (k : Int))) (wr.alloc (Obj.cells #[Value.int IntKind.i64 (k : Int)] 3)).drew := ⟨(hBr.alloc_ _).get0, (hcr.alloc_ _).get0, (Cells.new wr OWr [] [.int .i64 (k : Int)] _).get0⟩
      refine anyX_takeN 0 (v := ?v0) rfl rfl (by kernel_rfl) (by kernel_rfl) (by kernel_rfl) (by kernel_rfl) (by kernel_rfl) (fun _ _ _ h => h) rfl ?y0 hS ?r0
      case y0 =>
        intro W' hW'
        obtain ⟨s1, s2, s3⟩ := hW'
        go_simp
        first | done | rfl
      intro tm' htm
      simp only [List.setIfInBounds_toArray, List.set_cons_succ, List.set_cons_zero] at htm
      subst htm
      refine anyX_takeN 1 (v := ?v1) rfl rfl (by kernel_rfl) (by kernel_rfl) (by kernel_rfl) (by kernel_rfl) (by kernel_rfl) (fun _ _ _ h => h) rfl ?y1 hS ?r1
      case y1 =>
        intro W' hW'
        obtain ⟨s1, s2, s3⟩ := hW'
        go_simp
        first | done | rfl
      intro tm' htm
      simp only [List.setIfInBounds_toArray, List.set_cons_succ, List.set_cons_zero] at htm
      subst htm
      refine anyX_takeN 2 (v := ?v2) rfl rfl (by kernel_rfl) (by kernel_rfl) (by kernel_rfl) (by kernel_rfl) (by kernel_rfl) (fun _ _ _ h => h) rfl ?y2 hS ?r2
      case y2 =>
        intro W' hW'
        obtain ⟨s1, s2, s3⟩ := hW'
        go_simp
        first | done | rfl
      intro tm' htm
      simp only [List.setIfInBounds_toArray, List.set_cons_succ, List.set_cons_zero] at htm
      subst htm
      refine anyX_takeN 3 (v := ?v3) rfl rfl (by kernel_rfl) (by kernel_rfl) (by kernel_rfl) (by kernel_rfl) (by kernel_rfl) (fun _ _ _ h => h) rfl ?y3 hS ?r3
      case y3 =>
        intro W' hW'
        obtain ⟨s1, s2, s3⟩ := hW'
        go_simp
        first | done | rfl
      intro tm' htm
      simp only [List.setIfInBounds_toArray, List.set_cons_succ, List.set_cons_zero] at htm
      subst htm
      refine anyX_takeN 4 (v := ?v4) rfl rfl (by kernel_rfl) (by kernel_rfl) (by kernel_rfl) (by kernel_rfl) (by kernel_rfl) (fun _ _ _ h => h) rfl ?y4 hS ?r4
      case y4 =>
        intro W' hW'
        obtain ⟨s1, s2, s3⟩ := hW'
        go_simp
        first | done | rfl
      intro tm' htm
      simp only [List.setIfInBounds_toArray, List.set_cons_succ, List.set_cons_zero] at htm
      subst htm
      refine anyX_takeN 5 (v := ?v5) rfl rfl (by kernel_rfl) (by kernel_rfl) (by kernel_rfl) (by kernel_rfl) (by kernel_rfl) (fun _ _ _ h => h) rfl ?y5 hS ?r5
      case y5 =>
        intro W' hW'
        obtain ⟨s1, s2, s3⟩ := hW'
        go_simp
        first | done | rfl
      intro tm' htm
      simp only [List.setIfInBounds_toArray, List.set_cons_succ, List.set_cons_zero] at htm
      subst htm
      refine anyX_one (i := 6) (by kernel_rfl) rfl rfl fun K' hK' => ?_
      unfold Oper.wp
      go_simp
      refine (q_all _ _ _).mono ?_
      rintro e w2 ⟨rfl, rfl⟩
      refine hK' _ _ (fun _ => ⟨cell_alloc hS.1 _, cell_alloc hS.2.1 _, cell_alloc hS.2.2 _⟩) (anyX_done (by kernel_rfl) ?_ _)
      refine NoPanic.normal ?_
      gi_wp2
      have hn2 : New wr OWr ((wr.alloc (Obj.cells #[Value.int IntKind.i64 (k : Int)] 3)).alloc (Obj.cells #[Value.pointer (some ⟨G', O' + k * 2, none⟩)] 89)).drew ((OWr.set wr.heap.size (pi ++ [3])).set (wr.heap.size + 1) (pi ++ [4])) := by
        have := (((New.refl wr OWr).alloc (Obj.cells #[Value.int IntKind.i64 (k : Int)] 3) (pi ++ [3])).alloc (Obj.cells #[Value.pointer (some ⟨G', O' + k * 2, none⟩)] 89) (pi ++ [4])).drew
        simpa using this
      have hI2 : Cells ((wr.alloc (Obj.cells #[Value.int IntKind.i64 (k : Int)] 3)).alloc (Obj.cells #[Value.pointer (some ⟨G', O' + k * 2, none⟩)] 89)).drew ((OWr.set wr.heap.size (pi ++ [3])).set (wr.heap.size + 1) (pi ++ [4])) (pi ++ [3]) wr.heap.size 0 [.int .i64 (k : Int)] := by
        have := ((Cells.new wr OWr (pi ++ [3]) [.int .i64 (k : Int)] 3).alloc (Obj.cells #[Value.pointer (some ⟨G', O' + k * 2, none⟩)] 89) (pi ++ [4])).drew
        simpa using this
      have hP2 : Cells ((wr.alloc (Obj.cells #[Value.int IntKind.i64 (k : Int)] 3)).alloc (Obj.cells #[Value.pointer (some ⟨G', O' + k * 2, none⟩)] 89)).drew ((OWr.set wr.heap.size (pi ++ [3])).set (wr.heap.size + 1) (pi ++ [4])) (pi ++ [4]) (wr.heap.size + 1) 0 [.pointer (some ⟨G', O' + k * 2, none⟩)] := by
        have := (Cells.new (wr.alloc (Obj.cells #[Value.int IntKind.i64 (k : Int)] 3)) (OWr.set wr.heap.size (pi ++ [3])) (pi ++ [4]) [.pointer (some ⟨G', O' + k * 2, none⟩)] 89).drew
        simpa using this
      generalize hw2 : ((wr.alloc (Obj.cells #[Value.int IntKind.i64 (k : Int)] 3)).alloc (Obj.cells #[Value.pointer (some ⟨G', O' + k * 2, none⟩)] 89)).drew = w2 at *
      generalize hO2 : ((OWr.set wr.heap.size (pi ++ [3])).set (wr.heap.size + 1) (pi ++ [4])) = OW2 at *
      clear hw2 hO2
      refine wpIn_wide.2 (wp_range (gf := 116) (lb := #[.pointer (some ⟨wr.heap.size + 1, 0, none⟩)]) rfl (enters_of Try.func116 (by kernel_rfl) rfl) (qargs xs) (pi ++ [2]) (pi ++ [1]) (pi ++ [1, 1, k]) w2 OW2
        (q_iter w2 OW2 (p ++ [1, k]) (pi ++ [4]) (pi ++ [2]) (pi ++ [1]) G' (O' + k * 2) (wr.heap.size + 1) xs ((Hqr.out k xs Hx.out).new_ hn2) (Hn.out _ (List.mem_of_getElem? Hx.out)) hP2 ?_ ?_ (by simp) (by simp)) (Turn.refl _ _ _) (by simp) (by simp) ?_
        (bodyRel J p pc pi g o B (W.heap.size + 1) W.heap.size wr.heap.size qs k xs ds) (fun _ _ _ _ => False) ?_ ?_ ?_ ?_ ?_ ?_ ?_ ?_)
      · simpa using npx (a1.out k 0) [1]
      · simpa using npx (a1.out k 1) [1]
      · intro i args hi
        obtain ⟨x, -, rfl⟩ := qargs_at xs i args hi
        rfl
      · intro j
        exact bodyRel.keep (sJ.out 0) a0 a1.out a2 [2] (by simp) (by simp) (by simp) (by simp)
      · intro c j W1 OW1 W2 OW2 hf; exact hf.elim
      · intro j
        exact bodyRel.keep (sJ.out 0) a0 a1.out a2 [1, 1, k] (by simp) (by simp) (fun j hj => by simp; omega) (by simp)
      · intro c j W1 OW1 W2 OW2 hf; exact hf.elim
      · refine ⟨sJ.out 0 _ _ _ _ hJ (hn2.turn _), hBr.new_ hn2, L.new_ ⟨G', O', cap', hcr, Hqr.out⟩ hn2, hNr.new_ hn2, ?_, hM.new_ hn2, hI2⟩
        rw [List.take_zero, set_same (qs.take k ++ List.replicate (qs.length - k) []) k [] (by rw [List.getElem?_append_right (by rw [List.length_take]; omega), List.length_take, Nat.min_eq_left hk, Nat.sub_self, List.getElem?_replicate, if_pos (by omega)])]
        exact Hnow.out.keep (hn2.turn (pi ++ [2])) (by simp)
      · intro l' D j rr rb args W2 OW3 hxj ⟨b1, b2, b3, b4, b5, b6, b7⟩ hBk
        obtain ⟨x, hxx, rfl⟩ := qargs_at xs j args hxj
        rw [foldl2]
        simp only [List.setIfInBounds_toArray, List.set_cons_succ, List.set_cons_zero]
        gi_wp2
        refine ⟨OW3, Turn.refl _ _ _, hBk, fun W4 ht4 hBk4 => ?_⟩
        obtain ⟨OW4, hO4⟩ : ∃ o : Ow, o = OW3 := ⟨_, rfl⟩
        subst hO4
        obtain ⟨d1, d2, d3, d4, d5, d6, d7⟩ := bodyRel.keep (sJ.out 0) a0 a1.out a2 [1, 1, k] (by simp) (by simp) (fun j hj => by simp; omega) (by simp) W2 OW4 W4 OW4 ⟨b1, b2, b3, b4, b5, b6, b7⟩ ht4
        clear b1 b2 b3 b4 b5 b6 b7 hBk
        have hgk : ((qs.take k ++ List.replicate (qs.length - k) []).set k (xs.take j))[k]? = some (xs.take j) := by
          rw [List.getElem?_set_self (by rw [List.length_append, List.length_take, List.length_replicate]; omega)]
        obtain ⟨v, hvA, hvR⟩ := d5 k _ hgk
        obtain ⟨Av, cv, rfl, hcv⟩ := hvR.slice
        have hjx : j < xs.length := (List.getElem?_eq_some_iff.1 hxx).1
        have hlen : (xs.take j).length = j := by rw [List.length_take]; omega
        have hjb : j + 1 ≤ 1099511627776 := by have := Hn.out _ (List.mem_of_getElem? Hx.out); omega
        rw [hlen] at hvR hvA
        gi_wp2
        refine wpIn_mono ?_ NoPanic.imp
        refine round_region (fun W' => W'.cell? ⟨W.heap.size + 1, 0, none⟩ = some (.slice (some ⟨W.heap.size, 0, none⟩) qs.length qs.length) ∧ W'.cell? ⟨wr.heap.size, 0, none⟩ = some (.int .i64 (k : Int)) ∧ W'.cell? ⟨W.heap.size, k, none⟩ = some (.slice Av j cv)) [10] (by kernel_rfl) (by kernel_rfl) (by rintro ⟨a, w, hf⟩; exact hf) ?_
        have hS : (fun W' : World => W'.cell? ⟨W.heap.size + 1, 0, none⟩ = some (.slice (some ⟨W.heap.size, 0, none⟩) qs.length qs.length) ∧ W'.cell? ⟨wr.heap.size, 0, none⟩ = some (.int .i64 (k : Int)) ∧ W'.cell? ⟨W.heap.size, k, none⟩ = some (.slice Av j cv)) W4.drew := ⟨d4.get0, d7.get0, hvA.get0⟩
        refine anyX_takeN 0 (v := ?vb0) rfl rfl (by kernel_rfl) (by kernel_rfl) (by kernel_rfl) (by kernel_rfl) (by kernel_rfl) (fun _ _ _ h => h) rfl ?yb0 hS ?rb0
        case yb0 =>
          intro W' hW'
          obtain ⟨s0, s1, s2⟩ := hW'
          go_simp
          first | done | rfl
        intro tm' htm
        simp only [List.setIfInBounds_toArray, List.set_cons_succ, List.set_cons_zero] at htm
        subst htm
        refine anyX_takeN 1 (v := ?vb1) rfl rfl (by kernel_rfl) (by kernel_rfl) (by kernel_rfl) (by kernel_rfl) (by kernel_rfl) (fun _ _ _ h => h) rfl ?yb1 hS ?rb1
        case yb1 =>
          intro W' hW'
          obtain ⟨s0, s1, s2⟩ := hW'
          go_simp
          first | done | rfl
        intro tm' htm
        simp only [List.setIfInBounds_toArray, List.set_cons_succ, List.set_cons_zero] at htm
        subst htm
        refine anyX_takeN 2 (v := ?vb2) rfl rfl (by kernel_rfl) (by kernel_rfl) (by kernel_rfl) (by kernel_rfl) (by kernel_rfl) (fun _ _ _ h => h) rfl ?yb2 hS ?rb2
        case yb2 =>
          intro W' hW'
          obtain ⟨s0, s1, s2⟩ := hW'
          go_simp
          first | done | rfl
        intro tm' htm
        simp only [List.setIfInBounds_toArray, List.set_cons_succ, List.set_cons_zero] at htm
        subst htm
        refine anyX_takeN 3 (v := ?vb3) rfl rfl (by kernel_rfl) (by kernel_rfl) (by kernel_rfl) (by kernel_rfl) (by kernel_rfl) (fun _ _ _ h => h) rfl ?yb3 hS ?rb3
        case yb3 =>
          intro W' hW'
          obtain ⟨s0, s1, s2⟩ := hW'
          go_simp
          first | done | rfl
        intro tm' htm
        simp only [List.setIfInBounds_toArray, List.set_cons_succ, List.set_cons_zero] at htm
        subst htm
        refine anyX_takeN 4 (v := ?vb4) rfl rfl (by kernel_rfl) (by kernel_rfl) (by kernel_rfl) (by kernel_rfl) (by kernel_rfl) (fun _ _ _ h => h) rfl ?yb4 hS ?rb4
        case yb4 =>
          intro W' hW'
          obtain ⟨s0, s1, s2⟩ := hW'
          go_simp
          first | done | rfl
        intro tm' htm
        simp only [List.setIfInBounds_toArray, List.set_cons_succ, List.set_cons_zero] at htm
        subst htm
        refine anyX_takeN 5 (v := ?vb5) rfl rfl (by kernel_rfl) (by kernel_rfl) (by kernel_rfl) (by kernel_rfl) (by kernel_rfl) (fun _ _ _ h => h) rfl ?yb5 hS ?rb5
        case yb5 =>
          intro W' hW'
          obtain ⟨s0, s1, s2⟩ := hW'
          go_simp
          first | done | rfl
        intro tm' htm
        simp only [List.setIfInBounds_toArray, List.set_cons_succ, List.set_cons_zero] at htm
        subst htm
        refine anyX_takeN 6 (v := ?vb6) rfl rfl (by kernel_rfl) (by kernel_rfl) (by kernel_rfl) (by kernel_rfl) (by kernel_rfl) (fun _ _ _ h => h) rfl ?yb6 hS ?rb6
        case yb6 =>
          intro W' hW'
          obtain ⟨s0, s1, s2⟩ := hW'
          go_simp
          first | done | rfl
        intro tm' htm
        simp only [List.setIfInBounds_toArray, List.set_cons_succ, List.set_cons_zero] at htm
        subst htm
        refine anyX_one (i := 7) (by kernel_rfl) rfl rfl fun K' hK' => ?_
        unfold Oper.wp
        go_simp
        refine hK' _ _ (fun _ => ⟨cell_alloc hS.1 _, cell_alloc hS.2.1 _, cell_alloc hS.2.2 _⟩) ?_
        clear hK' K'
        refine anyX_one (i := 8) (by kernel_rfl) rfl rfl fun K' hK' => ?_
        refine wp_append_row (.tmp 38) (.tmp 40) 22 22 rfl 3 _ 1 8 Try.underlying22 info rfl rfl (hvR.alloc_ (Obj.cells #[Value.int .i64 x] 3)).drew rfl ((Reads.new _ (cs x) _ 1 1 (Nat.le_refl _)).drew.src Try.underlying22 rfl (cs_one x)) (by unfold maxLen; omega) (by omega) ?_
        intro v' w' ow' hrow' ht'
        obtain ⟨A', c', rfl, hcc'⟩ := hrow'.slice
        have t5 := ((Turn.refl (pi ++ [1, 0] ++ [k, 1]) W4 OW4).alloc_ (Obj.cells #[Value.int .i64 x] 3)).drew.trans ht'
        have hA5 := hvA.keep t5 (by simp)
        change K' (Act.put _ (some 41) _) _
        refine hK' _ _ (fun _ => ⟨(d4.keep t5 (by simp)).get0, (d7.keep t5 (by simp)).get0, hA5.get0⟩) ?_
        have hS : (fun W' : World => W'.cell? ⟨W.heap.size + 1, 0, none⟩ = some (.slice (some ⟨W.heap.size, 0, none⟩) qs.length qs.length) ∧ W'.cell? ⟨wr.heap.size, 0, none⟩ = some (.int .i64 (k : Int)) ∧ W'.cell? ⟨W.heap.size, k, none⟩ = some (.slice Av j cv)) w' := ⟨(d4.keep t5 (by simp)).get0, (d7.keep t5 (by simp)).get0, hA5.get0⟩
        clear hK' K'
        simp only [Act.put, List.setIfInBounds_toArray, List.set_cons_succ, List.set_cons_zero]
        refine anyX_takeN 9 (v := ?vb9) rfl rfl (by kernel_rfl) (by kernel_rfl) (by kernel_rfl) (by kernel_rfl) (by kernel_rfl) (fun _ _ _ h => h) rfl ?yb9 hS ?rb9
        case yb9 =>
          intro W' hW'
          obtain ⟨s0, s1, s2⟩ := hW'
          go_simp
          first | done | rfl
        intro tm' htm
        simp only [List.setIfInBounds_toArray, List.set_cons_succ, List.set_cons_zero] at htm
        subst htm
        refine anyX_one (i := 10) (by kernel_rfl) rfl rfl fun K' hK' => ?_
        have e5 := hA5.get0
        have f5 := hA5.free k
        unfold Oper.wp
        go_simp
        refine hK' _ _ (fun hf => by cases hf) (anyX_done (by kernel_rfl) ?_ _)
        refine NoPanic.normal ?_
        have hlk : k < (qs.take k ++ List.replicate (qs.length - k) []).length := by rw [List.length_append, List.length_take, List.length_replicate]; omega
        have hx6 : css (xs.take (j + 1)) = css (xs.take j) ++ cs x := by rw [List.take_add_one, hxx, ← css_snoc]; rfl
        have hl6 : (xs.take (j + 1)).length = j + 1 := by rw [List.length_take]; omega
        have hs6 : Turn (pi ++ [1, 0] ++ [k, 0]) w' ow' (w'.setCell ⟨W.heap.size, k, none⟩ (.slice A' (j + 1) c')) ow' := hA5.turn 0 _ (by simp)
        have hA6 := hA5.set0 (.slice A' (j + 1) c')
        have hR6 := hrow'.keep hs6 (by simp)
        have tk : Turn (pi ++ [1, 0, k]) W4 OW4 (w'.setCell ⟨W.heap.size, k, none⟩ (.slice A' (j + 1) c')) ow' := (t5.up (by simp)).trans (hs6.up (by simp))
        refine ⟨ow', tk.up (by simp), hBk4.turn tk (by simp), sJ.out 0 _ _ _ _ d1 (tk.up (List.prefix_append _ _)), d2.keep tk (npx a2 _), d3.keep tk (npx a0 _) (fun i j => npx (a1.out i j) _), d4.keep tk (by simp), fun i ys hi => ?_, d6.turn ?_ tk, d7.keep tk (by simp)⟩
        · by_cases e : i = k
          · rw [e, List.getElem?_set_self hlk] at hi
            obtain rfl : xs.take (j + 1) = ys := Option.some.inj hi
            rw [e, hl6, hx6]
            exact ⟨_, hA6, hR6⟩
          · rw [List.getElem?_set_ne (Ne.symm e)] at hi
            obtain ⟨v, z1, z2⟩ := d5 i ys (by rw [List.getElem?_set_ne (Ne.symm e)]; exact hi)
            exact ⟨v, z1.keep tk (by simp; omega), z2.keep tk (by simp; omega)⟩
        · rintro y ⟨j', -, rfl⟩
          simp
      · rintro D W3 OW3 ⟨b1, b2, b3, b4, b5, b6, b7⟩ hD oD hDs
        gi_wp2
        have hq7 : (qargs xs).length = xs.length := qargs_length xs
        rw [hq7, List.take_length] at b5
        have hn5 : (qs.take k ++ List.replicate (qs.length - k) []).set k xs = qs.take (k + 1) ++ List.replicate (qs.length - (k + 1)) [] := by
          rw [show qs.length - k = qs.length - (k + 1) + 1 by omega, List.replicate_succ, List.set_append_right _ _ (by rw [List.length_take]; omega), List.length_take, Nat.min_eq_left (by omega), Nat.sub_self, List.set_cons_zero, List.take_add_one, Hx.out]
          simp
        rw [hn5] at b5
        refine ⟨ex_frame (k + 1) OW3 rfl ⟨hlt, b1, b2, b3, b4, b5, ⟨⟨D, rfl, hD, ⟨k, Nat.lt_succ_self k, oD⟩, ?_⟩, b6.mono ?_⟩⟩, ?_⟩
        · exact hM.fresh (Nat.le_trans hn2.below.size hDs)
        · rintro y ⟨j, hj, rfl⟩
          exact ⟨j, by omega, rfl⟩
        · show qs.length - ((k : Int) + 1).toNat < qs.length - (k : Int).toNat
          omega
      · intro D c j W1 OW1 hj hf; exact hf.elim
    · obtain rfl : k = qs.length := by omega
      have cN := hNr.get0
      rw [List.take_length, Nat.sub_self, List.replicate_zero, List.append_nil] at hnow
      have Hnow := Lib.hid hnow
      clear hqr hnow
      gi_wp2
      refine wpIn_loop (fun a wr => ∃ (m : Nat) (ds : List Deferred) (OW : Ow) (u : Nat → Value), a = ⟨(Value.func (Fn.yield l) #[] #[] :: Value.pointer (some ⟨B, 0, none⟩) :: u 2 :: Value.pointer (some ⟨W.heap.size + 1, 0, none⟩) :: u 4 :: u 5 :: u 6 :: Value.int IntKind.i64 (m : Int) :: u 8 :: u 9 :: u 10 :: u 11 :: u 12 :: u 13 :: u 14 :: u 15 :: u 16 :: u 17 :: u 18 :: u 19 :: u 20 :: u 21 :: u 22 :: u 23 :: u 24 :: u 25 :: u 26 :: u 27 :: u 28 :: u 29 :: u 30 :: u 31 :: u 32 :: u 33 :: u 34 :: u 35 :: u 36 :: u 37 :: u 38 :: u 39 :: u 40 :: u 41 :: u 42 :: u 43 :: u 44 :: u 45 :: u 46 :: u 47 :: u 48 :: u 49 :: u 50 :: u 51 :: u 52 :: u 53 :: u 54 :: u 55 :: u 56 :: u 57 :: u 58 :: u 59 :: u 60 :: u 61 :: u 62 :: u 63 :: u 64 :: u 65 :: []).toArray, ds⟩ ∧ m ≤ qs.length ∧ outRel J pi (W.heap.size + 1) W.heap.size qs (lpre qs m).length ds wr OW) (fun a _ => (intOf (a.tmps.getD 7 undef)).toNat) ?_ ?_
      · refine ex_frame qs.length OWr rfl ⟨Nat.le_refl _, ?_, hNr, Hnow.out, hM⟩
        rw [lpre_top]
        exact hJ
      · clear hJ hBr hNr hM hcr cB c0 lBr lgr lNr cN Hnow hlt
        rintro a wv ⟨m, dt, OWv, u, rfl, hm, hR⟩
        have cN := hR.2.1.get0
        have lN := hR.2.1.lt
        by_cases hm0 : 0 < m
        · obtain ⟨i, rfl⟩ : ∃ i, m = i + 1 := ⟨m - 1, by omega⟩
          obtain ⟨xs, hx⟩ : ∃ xs, qs[i]? = some xs := ⟨_, List.getElem?_eq_getElem (by omega)⟩
          obtain ⟨v, hA, hrow⟩ := hR.2.2.1 i xs hx
          obtain ⟨Av, cv, rfl, hcv⟩ := hrow.slice
          have cA := hA.get0
          have hxl := Hn.out _ (List.mem_of_getElem? hx)
          have Hx := Lib.hid hx
          have i1 : (i : Int) < (qs.length : Int) := by omega
          clear hx
          gi_wp2
          refine wpIn_loop (fun a wr => ∃ (j : Nat) (ds : List Deferred) (OW : Ow) (u : Nat → Value), a = ⟨(Value.func (Fn.yield l) #[] #[] :: Value.pointer (some ⟨B, 0, none⟩) :: u 2 :: Value.pointer (some ⟨W.heap.size + 1, 0, none⟩) :: u 4 :: u 5 :: u 6 :: Value.int IntKind.i64 ((i + 1 : Nat) : Int) :: u 8 :: u 9 :: u 10 :: u 11 :: u 12 :: u 13 :: u 14 :: u 15 :: u 16 :: u 17 :: u 18 :: u 19 :: u 20 :: u 21 :: u 22 :: u 23 :: u 24 :: u 25 :: u 26 :: u 27 :: u 28 :: u 29 :: u 30 :: u 31 :: u 32 :: u 33 :: u 34 :: u 35 :: u 36 :: u 37 :: u 38 :: u 39 :: u 40 :: u 41 :: u 42 :: u 43 :: u 44 :: u 45 :: u 46 :: u 47 :: u 48 :: u 49 :: u 50 :: u 51 :: u 52 :: u 53 :: Value.slice Av xs.length cv :: Value.int IntKind.i64 (xs.length : Int) :: Value.int IntKind.i64 (j : Int) :: u 57 :: u 58 :: u 59 :: u 60 :: u 61 :: u 62 :: u 63 :: u 64 :: u 65 :: []).toArray, ds⟩ ∧ j ≤ xs.length ∧ outRel J pi (W.heap.size + 1) W.heap.size qs ((lpre qs (i + 1)).length + j) ds wr OW ∧ Row wr OW (pi ++ [1, 0] ++ [i, 1]) 3 1 (.slice Av xs.length cv) xs.length (css xs)) (fun a _ => xs.length - (intOf (a.tmps.getD 56 undef)).toNat) ?_ ?_
          · exact ex_frame 0 OWv rfl ⟨Nat.zero_le _, hR, hrow⟩
          · clear hR hA hrow cA cN lN
            rintro a wz ⟨j, dz, OWz, u, rfl, hj, hz, hrz⟩
            by_cases hlt : j < xs.length
            · obtain ⟨x, hx⟩ : ∃ x, xs[j]? = some x := ⟨_, List.getElem?_eq_getElem hlt⟩
              obtain ⟨b, off, cap, hv, -⟩ := hrz.at (by omega)
              simp only [Value.slice.injEq] at hv
              obtain ⟨rfl, -, rfl⟩ := hv
              obtain ⟨hb, ho, hf, hcell⟩ := hrz.open_
              have e0 := hcell (j * 1 + 0) _ (css_at xs j x hx 0 _ rfl (by omega))
              simp only [Nat.add_zero, Nat.mul_one, ← Nat.add_assoc] at e0
              have i0 : (j : Int) < (xs.length : Int) := by omega
              have hlg := largs_get qs i xs Hx.out j x hx
              have hkl : (lpre qs (i + 1)).length + j + 1 ≤ (largs qs).length := (List.getElem?_eq_some_iff.1 hlg).1
              have hy := HY.out _ _ wz OWz hlg hz.1
              obtain ⟨fn, tmps, assign, body, hrun, hround⟩ := hy
              clear hcell hx ho hlg
              gi_wp2
              refine ⟨rfl, hround.mono ?_⟩
              have hrz1 := hrz
              have hz1 := hz
              rintro e w3 ⟨OW3, ht3, ⟨rfl, hJ3⟩ | ⟨rfl, hJ3⟩⟩
              · gi_wp2
                refine ⟨ex_frame (j + 1) OW3 rfl ⟨by omega, hz1.turn ht3 h3.out hJ3, hrz1.keep ht3 (by rw [List.append_assoc]; exact h3.out _)⟩, ?_⟩
                show xs.length - ((j : Int) + 1).toNat < xs.length - (j : Int).toNat
                omega
              · have hz3 := hz1.2.2.2.turn (q := pb) (by rintro x ⟨j, -, rfl⟩; exact h3.out _) ht3
                gi_wp2
                refine bodyM_ret (pi ++ [1, 1]) ?_ hz3 (fun W' t => ⟨_, results_none rfl _ _ _, _, OW3, rfl, .inr ⟨_, hkl, sX _ _ _ _ _ hJ3 (t.up (List.prefix_append _ _))⟩⟩)
                rintro x ⟨j, -, rfl⟩
                exact ⟨[j], by simp⟩
            · obtain rfl : j = xs.length := by omega
              gi_wp2
              refine ⟨ex_frame i OWz rfl ⟨by omega, ?_⟩, ?_⟩
              · rw [lpre_step qs i xs Hx.out, List.length_append, List.length_map]
                exact hz
              · show (i : Int).toNat < ((i : Int) + 1).toNat
                omega
        · obtain rfl : m = 0 := by omega
          gi_wp2
          refine bodyM_normal (pi ++ [1, 1]) ?_ hR.2.2.2 (fun W' t => ⟨_, results_none rfl _ _ _, _, OWv, rfl, .inl (by rw [largs_length]; exact sJ.out _ _ _ _ _ hR.1 (t.up (List.prefix_append _ _)))⟩)
          rintro x ⟨j, -, rfl⟩
          exact ⟨[j], by simp⟩

end EInt
end Go.Proofs.Ytppikbdeopagkaa
