/-
  QUEUE: the package queue: New, Put, Next, Take, Active.
-/
import Derived.Test.YtnpcikghgfbfoaaEWtLI
import Derived.Test.YtnpcikghgfbfoaaEWtL2
namespace Go.Proofs.Ytnpcikghgfbfoaa
open Go Go.RowKit
attribute [local go_sem] Oper.semAt_some
namespace EQ
open EWt

/-- A queue: its levels, and how many of each task wait. -/
def QQ (w : World) (ow : Ow) (p : List Nat) (g : Nat) (qs : List (List Wt)) (act : List Int) : Prop :=
  L w ow (p ++ [0]) g 0 qs ∧ act.length = 64 ∧ Cells w ow (p ++ [1]) g 1 (act.map fun n => .int .i64 n)

section
variable {w w1 : World} {ow ow1 : Ow} {p q : List Nat} {g : Nat} {qs : List (List Wt)} {act : List Int}
theorem QQ.keep (h : QQ w ow p g qs act) (t : Turn q w ow w1 ow1) (hq : ∀ s, ¬ q <+: p ++ s) : QQ w1 ow1 p g qs act :=
  ⟨h.1.keep t (by simpa using hq [0, 0]) (fun i j => by simpa using hq [0, 1, i, j]), h.2.1, h.2.2.keep t (hq _)⟩
theorem QQ.new_ (h : QQ w ow p g qs act) (n : New w ow w1 ow1) : QQ w1 ow1 p g qs act := ⟨h.1.new_ n, h.2.1, h.2.2.new_ n⟩
end

def MadeQ (w : World) (ow : Ow) (q : List Nat) (e : Ending) (w' : World) : Prop :=
  ∃ (g : Nat) (ow' : Ow), e = .returned (.pointer (some ⟨g, 0, none⟩)) ∧ QQ w' ow' q g (List.replicate 32 []) (List.replicate 64 0) ∧ New w ow w' ow' ∧ w.heap.size ≤ g

theorem zeroQ (W : World) : (zeroValue 39).run Try.prog W = .ok (.agg (Value.slice none 0 0 :: List.replicate 64 (.int .i64 0)).toArray) W := by kernel_rfl

theorem new (w : World) (ow : Ow) (q : List Nat) : Calls Try.prog 7 #[] w (MadeQ w ow q) := by
  have hcall := fun W OW => l_new W OW (q ++ [0]) 32 (by omega) (by omega)
  have Hcall := Lib.hid hcall
  clear hcall
  go_enter Try.func7, Try.ntmps7
  go_wp2_with fail
  go_at_call 26
  refine (Hcall.out _ ow).mono ?_
  rintro e w1 ⟨gl, ow1, rfl, hL, hn, hg⟩
  obtain ⟨G, O, cap, hc, hq⟩ := hL
  have c0 := hc.get0
  have Hq := Lib.hid hq
  clear hq
  have hz := zeroQ
  go_wp2
  go_ret
  have hn2 : New w1 ow1 (w1.alloc (.cells (Value.slice (some ⟨G, O, none⟩) 32 cap :: List.replicate 64 (.int .i64 0)).toArray 39)) (ow1.setF w1.heap.size (fun o => if o = 0 then q ++ [0] ++ [0] else q ++ [1])) := (New.refl _ _).allocF _ _
  refine ⟨w1.heap.size, ow1.setF w1.heap.size (fun o => if o = 0 then q ++ [0] ++ [0] else q ++ [1]), rfl, ⟨⟨G, O, cap, ?_, fun i xs hi => (Hq.out i xs hi).new_ hn2⟩, by simp, ?_⟩, hn.trans hn2, hn.below.size⟩
  · refine Cells.newF w1 ow1 _ (Value.slice (some ⟨G, O, none⟩) 32 cap :: List.replicate 64 (.int .i64 0)).toArray _ _ _ _ fun j u hj => ?_
    cases j with
    | succ j => simp at hj
    | zero =>
      have : u = .slice (some ⟨G, O, none⟩) 32 cap := by simpa using hj.symm
      subst this
      exact ⟨rfl, rfl⟩
  · refine Cells.newF w1 ow1 _ (Value.slice (some ⟨G, O, none⟩) 32 cap :: List.replicate 64 (.int .i64 0)).toArray _ _ _ _ fun j u hj => ?_
    rw [List.map_replicate, List.getElem?_replicate] at hj
    split at hj
    · rename_i hlt
      obtain rfl := Option.some.inj hj
      refine ⟨?_, if_neg (by omega)⟩
      rw [Nat.add_comm, List.getElem?_toArray, List.getElem?_cons_succ, List.getElem?_replicate, if_pos hlt]
    · cases hj

section
variable {w : World} {ow : Ow} {p : List Nat} {g : Nat} {qs : List (List Wt)} {act : List Int}
theorem QQ.at (h : QQ w ow p g qs act) (t : Nat) (a : Int) (ha : act[t]? = some a) : w.cell? ⟨g, 1 + t, none⟩ = some (.int .i64 a) := h.2.2.get t (by rw [List.getElem?_map, ha]; rfl)
end

theorem active_out (w : World) (ow : Ow) (p : List Nat) (g : Nat) (qs : List (List Wt)) (act : List Int) (t : Int) (ht : t < 0 ∨ 64 ≤ t) :
    Calls Try.prog 11 #[.pointer (some ⟨g, 0, none⟩), .int .i64 t] w fun e w' => e = .returned (.int .i64 0) ∧ ∃ k, w' = w.drewN k := by
  go_enter Try.func11, Try.ntmps11
  by_cases h0 : t < 0
  · go_wp2
    go_ret
    exact ⟨rfl, 0, rfl⟩
  · have h1 : 64 ≤ t := by omega
    go_wp2
    go_ret
    exact ⟨rfl, 0, rfl⟩

theorem active_in (w : World) (ow : Ow) (p : List Nat) (g : Nat) (qs : List (List Wt)) (act : List Int) (h : QQ w ow p g qs act) (t : Nat) (a : Int) (ha : act[t]? = some a) (hb : -9223372036854775808 ≤ a ∧ a ≤ 9223372036854775807) :
    Calls Try.prog 11 #[.pointer (some ⟨g, 0, none⟩), .int .i64 (t : Int)] w fun e w' => e = .returned (.int .i64 a) ∧ ∃ k, w' = w.drewN k := by
  have c := h.at t a ha
  have hlt : t < 64 := by rw [← h.2.1]; exact (List.getElem?_eq_some_iff.1 ha).1
  have h0 : ¬ (t : Int) < 0 := by omega
  have h1 : ¬ 64 ≤ (t : Int) := by omega
  have h2 : (t : Int) < 64 := by omega
  clear ha h
  go_enter Try.func11, Try.ntmps11
  go_wp2
  go_ret
  exact ⟨rfl, 0, rfl⟩

theorem put_out (w : World) (g : Nat) (t lv j : Int) (ht : t < 0 ∨ 64 ≤ t ∨ lv < 1 ∨ 32 < lv ∨ j < 0) :
    Calls Try.prog 8 #[.pointer (some ⟨g, 0, none⟩), .int .i64 t, .int .i64 lv, .int .i64 j] w fun e w' => e = .returned (.int .i64 1) ∧ ∃ k, w' = w.drewN k := by
  go_enter Try.func8, Try.ntmps8
  by_cases h0 : t < 0
  · go_wp2
    go_ret
    exact ⟨rfl, 0, rfl⟩
  by_cases h1 : 64 ≤ t
  · go_wp2
    go_ret
    exact ⟨rfl, 0, rfl⟩
  by_cases h2 : lv < 1
  · go_wp2
    go_ret
    exact ⟨rfl, 0, rfl⟩
  by_cases h3 : 32 < lv
  · go_wp2
    go_ret
    exact ⟨rfl, 0, rfl⟩
  have h4 : j < 0 := by omega
  go_wp2
  go_ret
  exact ⟨rfl, 0, rfl⟩

theorem put_many (w : World) (ow : Ow) (p : List Nat) (g : Nat) (qs : List (List Wt)) (act : List Int) (h : QQ w ow p g qs act) (t : Nat) (lv j a : Int) (ha : act[t]? = some a) (h8 : 8 ≤ a) (h1 : 1 ≤ lv) (h2 : lv ≤ 32) (h3 : 0 ≤ j) :
    Calls Try.prog 8 #[.pointer (some ⟨g, 0, none⟩), .int .i64 (t : Int), .int .i64 lv, .int .i64 j] w fun e w' => e = .returned (.int .i64 4) ∧ ∃ k, w' = w.drewN k := by
  have c := h.at t a ha
  have hlt : t < 64 := by rw [← h.2.1]; exact (List.getElem?_eq_some_iff.1 ha).1
  have g0 : ¬ (t : Int) < 0 := by omega
  have g1 : ¬ 64 ≤ (t : Int) := by omega
  have g2 : (t : Int) < 64 := by omega
  have g3 : ¬ lv < 1 := by omega
  have g4 : ¬ 32 < lv := by omega
  have g5 : ¬ j < 0 := by omega
  clear ha h
  go_enter Try.func8, Try.ntmps8
  go_wp2
  go_ret
  exact ⟨rfl, 0, rfl⟩

theorem put (w : World) (ow : Ow) (p : List Nat) (g : Nat) (qs : List (List Wt)) (act : List Int) (h : QQ w ow p g qs act) (t : Nat) (a : Int) (ha : act[t]? = some a) (a0 : 0 ≤ a) (h8 : a < 8) (i : Nat) (xs : List Wt) (hi : qs[i]? = some xs) (hl : qs.length = 32) (hn : xs.length ≤ 1099511627776) (j : Int) (h3 : 0 ≤ j) :
    Calls Try.prog 8 #[.pointer (some ⟨g, 0, none⟩), .int .i64 (t : Int), .int .i64 ((i : Int) + 1), .int .i64 j] w fun e w' => ∃ ow', e = .returned (.int .i64 0) ∧ QQ w' ow' p g (qs.set i (xs ++ [⟨j, t, (i : Int) + 1⟩])) (act.set t (a + 1)) ∧ Turn p w ow w' ow' := by
  have c := h.at t a ha
  have hlt : t < 64 := by rw [← h.2.1]; exact (List.getElem?_eq_some_iff.1 ha).1
  have hilt : i < 32 := by rw [← hl]; exact (List.getElem?_eq_some_iff.1 hi).1
  have g0 : ¬ (t : Int) < 0 := by omega
  have g1 : ¬ 64 ≤ (t : Int) := by omega
  have g2 : (t : Int) < 64 := by omega
  have g3 : ¬ (i : Int) + 1 < 1 := by omega
  have g4 : ¬ 32 < (i : Int) + 1 := by omega
  have g5 : ¬ j < 0 := by omega
  have g6 : ¬ 8 ≤ a := by omega
  have fz := h.2.2.free (1 + t)
  have hset := h.2.2.set t (.int .i64 (a + 1)) (by rw [List.length_map, h.2.1]; exact hlt)
  have htn := h.2.2.turn t (.int .i64 (a + 1)) (by rw [List.length_map, h.2.1]; exact hlt)
  have hL := h.1.keep htn (by simp) (by simp)
  have wa : IntKind.i64.wrap (a + 1) = a + 1 := by rw [IntKind.wrap_i64]; omega
  have h64 := h.2.1
  have Hset := Lib.hid hset
  have Hi := Lib.hid hi
  clear ha h hset hi
  go_enter Try.func8, Try.ntmps8
  go_wp2
  go_region
  generalize hW1 : (w.setCell ⟨g, 1 + t, none⟩ (.int .i64 (a + 1))) = W1 at *
  clear c fz wa
  go_wp2_with fail
  refine (l_put W1.drew ow (p ++ [0]) g 0 qs _ i xs ⟨j, t, (i : Int) + 1⟩ hL (by omega) rfl Hi.out hn).mono ?_
  rintro e w2 ⟨ow2, rfl, hL2, hT2⟩
  go_wp2
  go_ret
  refine ⟨ow2, rfl, ⟨hL2, by simpa using h64, ?_⟩, (htn.up (List.prefix_append _ _)).drew.trans (hT2.up (List.prefix_append _ _))⟩
  rw [List.map_set]
  exact Hset.out.drew.keep hT2 (by simp)

theorem next_none (w : World) (ow : Ow) (p : List Nat) (g : Nat) (qs : List (List Wt)) (act : List Int) (h : QQ w ow p g qs act) (hn : ∀ xs ∈ qs, xs.length ≤ 1099511627776) (hl : qs.length ≤ 32) (hh : hiTo qs qs.length = 0) :
    Calls Try.prog 9 #[.pointer (some ⟨g, 0, none⟩)] w fun e w' => e = .returned (.tuple #[.agg #[.int .i64 0, .int .i64 0, .int .i64 0], .bool false]) ∧ Below w.heap.size w w' := by
  have hcall := fun W (hW : Below w.heap.size w W) => (l_front_none W ow (p ++ [0]) g 0 qs (h.1.new_ (hW.nw ow)) hn hl hh).mono fun e w' ⟨he, hb⟩ => (⟨he, hb, hW.trans (hb.mono hW.size)⟩ : e = Ending.returned (.tuple #[.int .i64 0, .agg #[.int .i64 0, .int .i64 0, .int .i64 0], .bool false]) ∧ Below W.heap.size W w' ∧ Below w.heap.size w w')
  have Hcall := Lib.hid hcall
  clear hcall h hn hl hh
  go_enter Try.func9, Try.ntmps9
  go_wp2_with fail
  refine (Hcall.out _ (by repeat (first | (with_reducible assumption) | (with_reducible exact Below.refl _ _) | (with_reducible refine Below.drew ?_) | (with_reducible refine bdN ?_ _) | ((with_reducible refine bdS ?_ ?_ _); · first | (simp; done) | omega | (simp; omega)) | ((with_reducible refine bdA ?_ ?_ _); · first | (simp; done) | omega | (simp; omega))))).mono ?_
  rintro e w2 ⟨rfl, hb2, hB2⟩
  have hR : Loc w2 w.heap.size [.int .i64 0, .int .i64 0, .int .i64 0] := Loc.new_ (by repeat (first | (with_reducible refine Loc.drew ?_) | (with_reducible refine Loc.drewN ?_ _) | ((with_reducible refine Loc.far ?_ ?_ _); · first | assumption | omega | (simp; done) | (simp; omega)) | (exact Loc.make (by first | rfl | (simp; done) | (simp; omega)) rfl) | (with_reducible refine Loc.alloc_ ?_ _))) hb2
  have z0 := hR.get 0 rfl
  have z1 := hR.get 1 rfl
  have z2 := hR.get 2 rfl
  have fR := hR.free
  have lR := hR.lt
  go_wp2
  refine bodyPost_ret (v := .tuple #[.agg #[.int .i64 0, .int .i64 0, .int .i64 0], .bool false]) (by simp [results, Try.results9, go_sem, lR, z0, z1, z2]) rfl ⟨rfl, ?_⟩
  repeat (first | (with_reducible assumption) | (with_reducible exact Below.refl _ _) | (with_reducible refine Below.drew ?_) | (with_reducible refine bdN ?_ _) | ((with_reducible refine bdS ?_ ?_ _); · first | (simp; done) | omega | (simp; omega)) | ((with_reducible refine bdA ?_ ?_ _); · first | (simp; done) | omega | (simp; omega)))

theorem next_some (w : World) (ow : Ow) (p : List Nat) (g : Nat) (qs : List (List Wt)) (act : List Int) (h : QQ w ow p g qs act) (hn : ∀ xs ∈ qs, xs.length ≤ 1099511627776) (hl : qs.length ≤ 32) (i : Nat) (x : Wt) (xs : List Wt) (hh : hiTo qs qs.length = i + 1) (hi : qs[i]? = some (x :: xs)) :
    Calls Try.prog 9 #[.pointer (some ⟨g, 0, none⟩)] w fun e w' => e = .returned (.tuple #[.agg #[.int .i64 x.job, .int .i64 x.task, .int .i64 x.level], .bool true]) ∧ Below w.heap.size w w' := by
  have hcall := fun W (hW : Below w.heap.size w W) => (l_front_some W ow (p ++ [0]) g 0 qs i x xs (h.1.new_ (hW.nw ow)) hn hl hh hi).mono fun e w' ⟨he, hb⟩ => (⟨he, hb, hW.trans (hb.mono hW.size)⟩ : e = Ending.returned (.tuple #[.int .i64 ((i : Int) + 1), .agg #[.int .i64 x.job, .int .i64 x.task, .int .i64 x.level], .bool true]) ∧ Below W.heap.size W w' ∧ Below w.heap.size w w')
  have Hcall := Lib.hid hcall
  clear hcall h hn hl hh hi
  go_enter Try.func9, Try.ntmps9
  go_wp2_with fail
  refine (Hcall.out _ (by repeat (first | (with_reducible assumption) | (with_reducible exact Below.refl _ _) | (with_reducible refine Below.drew ?_) | (with_reducible refine bdN ?_ _) | ((with_reducible refine bdS ?_ ?_ _); · first | (simp; done) | omega | (simp; omega)) | ((with_reducible refine bdA ?_ ?_ _); · first | (simp; done) | omega | (simp; omega))))).mono ?_
  rintro e w2 ⟨rfl, hb2, hB2⟩
  have hR : Loc w2 w.heap.size [.int .i64 0, .int .i64 0, .int .i64 0] := Loc.new_ (by repeat (first | (with_reducible refine Loc.drew ?_) | (with_reducible refine Loc.drewN ?_ _) | ((with_reducible refine Loc.far ?_ ?_ _); · first | assumption | omega | (simp; done) | (simp; omega)) | (exact Loc.make (by first | rfl | (simp; done) | (simp; omega)) rfl) | (with_reducible refine Loc.alloc_ ?_ _))) hb2
  have z0 := hR.get 0 rfl
  have z1 := hR.get 1 rfl
  have z2 := hR.get 2 rfl
  have fR := hR.free
  have lR := hR.lt
  have nR : ¬ w2.heap.size = w.heap.size := by omega
  go_wp2
  refine bodyPost_ret (v := .tuple #[.agg #[.int .i64 x.job, .int .i64 x.task, .int .i64 x.level], .bool true]) (by simp [results, Try.results9, go_sem, lR, z0, z1, z2]) rfl ⟨rfl, ?_⟩
  repeat (first | (with_reducible assumption) | (with_reducible exact Below.refl _ _) | (with_reducible refine Below.drew ?_) | (with_reducible refine bdN ?_ _) | ((with_reducible refine bdS ?_ ?_ _); · first | (simp; done) | omega | (simp; omega)) | ((with_reducible refine bdA ?_ ?_ _); · first | (simp; done) | omega | (simp; omega)))

theorem take_none (w : World) (ow : Ow) (p : List Nat) (g : Nat) (qs : List (List Wt)) (act : List Int) (h : QQ w ow p g qs act) (hn : ∀ xs ∈ qs, xs.length ≤ 1099511627776) (hl : qs.length ≤ 32) (hh : hiTo qs qs.length = 0) :
    Calls Try.prog 12 #[.pointer (some ⟨g, 0, none⟩)] w fun e w' => e = .returned (.tuple #[.agg #[.int .i64 0, .int .i64 0, .int .i64 0], .bool false]) ∧ Below w.heap.size w w' := by
  have hcall := fun W (hW : Below w.heap.size w W) => (l_take_none W ow (p ++ [0]) g 0 qs (h.1.new_ (hW.nw ow)) hn hl hh).mono fun e w' ⟨he, hb⟩ => (⟨he, hb, hW.trans (hb.mono hW.size)⟩ : e = Ending.returned (.tuple #[.int .i64 0, .agg #[.int .i64 0, .int .i64 0, .int .i64 0], .bool false]) ∧ Below W.heap.size W w' ∧ Below w.heap.size w w')
  have Hcall := Lib.hid hcall
  clear hcall h hn hl hh
  go_enter Try.func12, Try.ntmps12
  go_wp2_with fail
  refine (Hcall.out _ (by repeat (first | (with_reducible assumption) | (with_reducible exact Below.refl _ _) | (with_reducible refine Below.drew ?_) | (with_reducible refine bdN ?_ _) | ((with_reducible refine bdS ?_ ?_ _); · first | (simp; done) | omega | (simp; omega)) | ((with_reducible refine bdA ?_ ?_ _); · first | (simp; done) | omega | (simp; omega))))).mono ?_
  rintro e w2 ⟨rfl, hb2, hB2⟩
  have hR : Loc w2 w.heap.size [.int .i64 0, .int .i64 0, .int .i64 0] := Loc.new_ (by repeat (first | (with_reducible refine Loc.drew ?_) | (with_reducible refine Loc.drewN ?_ _) | ((with_reducible refine Loc.far ?_ ?_ _); · first | assumption | omega | (simp; done) | (simp; omega)) | (exact Loc.make (by first | rfl | (simp; done) | (simp; omega)) rfl) | (with_reducible refine Loc.alloc_ ?_ _))) hb2
  have z0 := hR.get 0 rfl
  have z1 := hR.get 1 rfl
  have z2 := hR.get 2 rfl
  have fR := hR.free
  have lR := hR.lt
  go_wp2
  refine bodyPost_ret (v := .tuple #[.agg #[.int .i64 0, .int .i64 0, .int .i64 0], .bool false]) (by simp [results, Try.results12, go_sem, lR, z0, z1, z2]) rfl ⟨rfl, ?_⟩
  repeat (first | (with_reducible assumption) | (with_reducible exact Below.refl _ _) | (with_reducible refine Below.drew ?_) | (with_reducible refine bdN ?_ _) | ((with_reducible refine bdS ?_ ?_ _); · first | (simp; done) | omega | (simp; omega)) | ((with_reducible refine bdA ?_ ?_ _); · first | (simp; done) | omega | (simp; omega)))

theorem take_some (w : World) (ow : Ow) (p : List Nat) (g : Nat) (qs : List (List Wt)) (act : List Int) (h : QQ w ow p g qs act) (hn : ∀ xs ∈ qs, xs.length ≤ 1099511627776) (hl : qs.length ≤ 32) (i : Nat) (x : Wt) (xs : List Wt) (hh : hiTo qs qs.length = i + 1) (hi : qs[i]? = some (x :: xs)) (t : Nat) (ht : x.task = t) (a : Int) (ha : act[t]? = some a) (a0 : 0 ≤ a) (a8 : a ≤ 8) :
    Calls Try.prog 12 #[.pointer (some ⟨g, 0, none⟩)] w fun e w' => ∃ ow', e = .returned (.tuple #[.agg #[.int .i64 x.job, .int .i64 x.task, .int .i64 x.level], .bool true]) ∧ QQ w' ow' p g (qs.set i xs) (act.set t (a - 1)) ∧ Turn p w ow w' ow' := by
  obtain ⟨xj, xt, xl⟩ := x
  simp only at ht
  subst ht
  have hlt : t < 64 := by rw [← h.2.1]; exact (List.getElem?_eq_some_iff.1 ha).1
  have g1 : (t : Int) < 64 := by omega
  have hcall := l_take_some ((w.alloc (.cells #[.int .i64 0, .int .i64 0, .int .i64 0] 27))) (ow.set w.heap.size (p ++ [2])) (p ++ [0]) g 0 qs i ⟨xj, t, xl⟩ xs (h.1.new_ ((New.refl _ _).alloc _ _)) hn hl hh hi
  have H := Lib.hid h
  have Hcall := Lib.hid hcall
  have Ha := Lib.hid ha
  have h64 := h.2.1
  have hlg := h.1.lt
  clear hcall h hn hl hh hi ha
  go_enter Try.func12, Try.ntmps12
  go_wp2_with fail
  refine Hcall.out.mono ?_
  rintro e w2 ⟨ow2, rfl, hL2, hT2⟩
  have n1 : New w ow (w.alloc (.cells #[.int .i64 0, .int .i64 0, .int .i64 0] 27)) (ow.set w.heap.size (p ++ [2])) := (New.refl _ _).alloc _ _
  have hR := (Cells.new w ow (p ++ [2]) [.int .i64 0, .int .i64 0, .int .i64 0] 27).keep hT2 (by simp)
  have hA := (H.out.2.2.new_ n1).keep hT2 (by simp)
  have cA := hA.get t (by rw [List.getElem?_map, Ha.out]; rfl)
  have fA := hA.free (1 + t)
  have wa : IntKind.i64.wrap (a - 1) = a - 1 := by rw [IntKind.wrap_i64]; omega
  have hX := Cells.new w2 ow2 (p ++ [3]) [.int .i64 xj, .int .i64 t, .int .i64 xl] 27
  have lg2 := hA.lt
  have lR2 := hR.lt
  have z0 := hR.get 0 rfl
  have z1 := hR.get 1 rfl
  have z2 := hR.get 2 rfl
  have fR := hR.free
  have nR : ¬ w2.heap.size = w.heap.size := by omega
  have ng : ¬ g = w.heap.size := by omega
  have ng2 : ¬ w.heap.size = g := by omega
  have hset := hA.set t (.int .i64 (a - 1)) (by rw [List.length_map, h64]; exact hlt)
  have htn := hA.turn t (.int .i64 (a - 1)) (by rw [List.length_map, h64]; exact hlt)
  rw [← List.map_set] at hset
  have fin : ∀ Wf, Turn (p ++ [2]) (w2.setCell ⟨g, 1 + t, none⟩ (.int .i64 (a - 1))) ow2 Wf ow2 → ∃ ow', QQ Wf ow' p g (qs.set i xs) (act.set t (a - 1)) ∧ Turn p w ow Wf ow' := fun Wf tl =>
    ⟨ow2, ⟨(hL2.keep htn (by simp) (by simp)).keep tl (by simp) (by simp), by simpa using h64, hset.keep tl (by simp)⟩, ((n1.turn p).trans (hT2.up (List.prefix_append _ _))).trans ((htn.up (List.prefix_append _ _)).trans (tl.up (List.prefix_append _ _)))⟩
  have fin := Lib.hid fin
  clear hset htn
  have ob : ∀ i, p ++ [2] <+: ow2 w.heap.size i := fun i => by
    rw [hT2.own _ _ (by simp), Ow.set_same]; exact List.prefix_refl _
  have ob := Lib.hid ob
  go_wp2
  go_region
  all_goals
    go_wp2
    refine bodyPost_ret (v := .tuple #[.agg #[.int .i64 xj, .int .i64 t, .int .i64 xl], .bool true]) (by simp [results, Try.results12, go_sem, lR2, z0, z1, z2, ng, ng2]) rfl ?_
    have ob := ob.out
    refine Exists.imp (fun _ h => ⟨rfl, h⟩) (fin.out _ ?_)
    repeat (first | (with_reducible exact Turn.refl _ _ _) | (with_reducible refine Turn.drew ?_) | (with_reducible refine Turn.drewN ?_ _) | (with_reducible refine Turn.alloc_ ?_ _) | ((with_reducible refine Turn.setNew ?_ ?_ _); · first | (simp; done) | omega | (simp; omega)) | ((with_reducible refine Turn.setO ?_ ?_ _); · first | assumption | exact ob _ | (simp [*]; done)))

end EQ
end Go.Proofs.Ytnpcikghgfbfoaa
