/-
  SHELF.RING of int: its functions' contracts.
-/
import Derived.Test.YtppikbdeopagkaaEIntQ2
import Derived.Test.YtppikbdeopagkaaMore
set_option linter.unusedVariables false
set_option linter.unusedSimpArgs false
namespace Go.Proofs.Ytppikbdeopagkaa
open Go Go.RowKit
namespace EInt

/-- A ring: its queue, its room, how many went. -/
def Rg (w : World) (ow : Ow) (p : List Nat) (g n d : Nat) (xs : List Int) : Prop :=
  Q w ow (p ++ [0]) g 0 xs ∧ Cells w ow (p ++ [1]) g 2 [.int .i64 (n : Int), .int .i64 (d : Int)]
theorem Rg.keep {w w1 : World} {ow ow1 : Ow} {p q : List Nat} {g n d : Nat} {xs : List Int} (h : Rg w ow p g n d xs) (t : Turn q w ow w1 ow1) (hq : ∀ s, ¬ q <+: p ++ s) : Rg w1 ow1 p g n d xs :=
  ⟨h.1.keep t (by simpa using hq [0, 0]) (by simpa using hq [0, 1]), h.2.keep t (hq _)⟩
theorem Rg.new_ {w w1 : World} {ow ow1 : Ow} {p : List Nat} {g n d : Nat} {xs : List Int} (h : Rg w ow p g n d xs) (t : New w ow w1 ow1) : Rg w1 ow1 p g n d xs := ⟨h.1.new_ t, h.2.new_ t⟩

set_option maxHeartbeats 400000 in
theorem r_new_out (w : World) (n : Int) (hn : n < 1 ∨ 4096 < n) :
    Calls Try.prog 25 #[.int .i64 n] w fun e w' => e = .returned (.tuple #[.pointer none, .int .i64 1]) ∧ ∃ k, w' = w.drewN k := by
  go_enter Try.func25, Try.ntmps25
  by_cases h1 : n < 1
  · go_wp2
    go_ret2
    exact ⟨rfl, 0, rfl⟩
  · have h2 : 4096 < n := by omega
    go_wp2
    go_ret2
    exact ⟨rfl, 0, rfl⟩

def MadeR (w : World) (ow : Ow) (q : List Nat) (n : Nat) (e : Ending) (w' : World) : Prop :=
  ∃ (g : Nat) (ow' : Ow), e = .returned (.tuple #[.pointer (some ⟨g, 0, none⟩), .int .i64 0]) ∧ Rg w' ow' q g n 0 [] ∧ New w ow w' ow' ∧ w.heap.size ≤ g

set_option maxHeartbeats 400000 in
theorem r_new (w : World) (ow : Ow) (q : List Nat) (n : Nat) (h1 : 1 ≤ n) (h2 : n ≤ 4096) : Calls Try.prog 25 #[.int .i64 (n : Int)] w (MadeR w ow q n) := by
  have b1 : ¬ (n : Int) < 1 := by omega
  have b2 : ¬ (4096 : Int) < n := by omega
  go_enter Try.func25, Try.ntmps25
  go_wp2
  go_ret2
  have hn := (New.refl w ow).allocF (Obj.cells #[.slice none 0 0, .int .i64 0, .int .i64 (n : Int), .int .i64 0] 135) (fun o => if o < 2 then q ++ [0] ++ [0] else q ++ [1])
  refine ⟨w.heap.size, _, rfl, ⟨⟨.slice none 0 0, [], 0, ?_, Row.nil _ _ _ _ _, Nat.le_refl _, rfl⟩, ?_⟩, hn, Nat.le_refl _⟩
  · refine Cells.newF w ow _ _ _ _ _ _ fun j u hj => ?_
    match j, hj with
    | 0, hj => obtain rfl := Option.some.inj hj; exact ⟨rfl, rfl⟩
    | 1, hj => obtain rfl := Option.some.inj hj; exact ⟨rfl, rfl⟩
    | j + 2, hj => simp at hj
  · refine Cells.newF w ow _ _ _ _ _ _ fun j u hj => ?_
    match j, hj with
    | 0, hj => obtain rfl := Option.some.inj hj; exact ⟨rfl, rfl⟩
    | 1, hj => obtain rfl := Option.some.inj hj; exact ⟨rfl, rfl⟩
    | j + 2, hj => simp at hj

/-- What Put leaves. -/
def RgL (w : World) (ow : Ow) (p : List Nat) (g n d : Nat) (xs : List Int) (e : Ending) (w' : World) : Prop :=
  ∃ ow', e = .returned (.tuple #[]) ∧ Rg w' ow' p g n d xs ∧ Turn p w ow w' ow'

set_option maxHeartbeats 1000000 in
theorem r_put_room (w : World) (ow : Ow) (p : List Nat) (g n d : Nat) (xs : List Int) (x : Int) (h : Rg w ow p g n d xs) (hn : n ≤ 4096) (hx : xs.length < n) :
    Calls Try.prog 29 #[.pointer (some ⟨g, 0, none⟩), .int .i64 x] w (RgL w ow p g n d (xs ++ [x])) := by
  have hlen := fun W (hW : Below w.heap.size w W) => q_len W ow (p ++ [0]) g 0 xs (h.1.new_ (hW.nw ow)) (by omega)
  have hput := fun W (hW : Below w.heap.size w W) => (q_put W ow (p ++ [0]) g 0 xs x (h.1.new_ (hW.nw ow)) (by omega)).mono fun e w' ⟨ow', he, hQ, hT⟩ => (⟨ow', he, hQ, ((hW.nw ow).turn _).trans hT⟩ : ∃ ow', e = Ending.returned (.tuple #[]) ∧ Q w' ow' (p ++ [0]) g 0 (xs ++ [x]) ∧ Turn (p ++ [0]) w ow w' ow')
  have Hlen := Lib.hid hlen
  have Hput := Lib.hid hput
  have c2 := h.2.get0
  have lg := h.2.lt
  have n1 : ((xs.length : Int) == (n : Int)) = false := by simp; omega
  clear hlen hput
  go_enter Try.func29, Try.ntmps29
  go_wp2
  go_quiet ((go_at_call 70; exact Calls.quiet_of (Hlen.out _ (by repeat (first | (with_reducible assumption) | (with_reducible exact Below.refl _ _) | (with_reducible refine Below.drew ?_) | (with_reducible refine bdN ?_ _) | ((with_reducible refine bdS ?_ ?_ _); · first | (simp; done) | omega | (simp; omega)) | ((with_reducible refine bdA ?_ ?_ _); · first | (simp; done) | omega | (simp; omega)))))))
  go_wp2_with (go_at_call 47; refine (Hput.out _ (by repeat (first | (with_reducible assumption) | (with_reducible exact Below.refl _ _) | (with_reducible refine Below.drew ?_) | (with_reducible refine bdN ?_ _) | ((with_reducible refine bdS ?_ ?_ _); · first | (simp; done) | omega | (simp; omega)) | ((with_reducible refine bdA ?_ ?_ _); · first | (simp; done) | omega | (simp; omega))))).mono ?_; rintro e w1 ⟨ow1, rfl, hq1, ht1⟩)
  go_end0
  exact ⟨ow1, rfl, ⟨hq1, h.2.keep ht1 (by simp)⟩, ht1.up (by simp)⟩

set_option maxHeartbeats 1000000 in
theorem r_put_full (w : World) (ow : Ow) (p : List Nat) (g n d : Nat) (y : Int) (xs : List Int) (x : Int) (h : Rg w ow p g n d (y :: xs)) (hn : n ≤ 4096) (hx : xs.length + 1 = n) (hd : d ≤ 1099511627776) :
    Calls Try.prog 29 #[.pointer (some ⟨g, 0, none⟩), .int .i64 x] w (RgL w ow p g n (d + 1) (xs ++ [x])) := by
  have hlen := fun W (hW : Below w.heap.size w W) => q_len W ow (p ++ [0]) g 0 (y :: xs) (h.1.new_ (hW.nw ow)) (by simp only [List.length_cons]; omega)
  have htake := fun W (hW : Below w.heap.size w W) => (q_take_some W ow (p ++ [0]) g 0 y xs (h.1.new_ (hW.nw ow)) (by omega)).mono fun e w' ⟨ow', he, hQ, hT⟩ => (⟨ow', he, hQ, ((hW.nw ow).turn _).trans hT⟩ : ∃ ow', e = Ending.returned (.tuple #[.int .i64 y, .bool true]) ∧ Q w' ow' (p ++ [0]) g 0 xs ∧ Turn (p ++ [0]) w ow w' ow')
  have Hlen := Lib.hid hlen
  have Htake := Lib.hid htake
  have hc := h.2
  have c2 := hc.get0
  have lg := hc.lt
  have n1 : ((xs.length : Int) + 1 == (n : Int)) = true := by simp; omega
  have bx : xs.length ≤ 1099511627776 := by omega
  clear hlen htake h hx hn
  go_enter Try.func29, Try.ntmps29
  go_wp2
  go_quiet ((go_at_call 70; exact Calls.quiet_of (Hlen.out _ (by repeat (first | (with_reducible assumption) | (with_reducible exact Below.refl _ _) | (with_reducible refine Below.drew ?_) | (with_reducible refine bdN ?_ _) | ((with_reducible refine bdS ?_ ?_ _); · first | (simp; done) | omega | (simp; omega)) | ((with_reducible refine bdA ?_ ?_ _); · first | (simp; done) | omega | (simp; omega)))))))
  go_wp2_with fail
  refine (Htake.out _ (by repeat (first | (with_reducible assumption) | (with_reducible exact Below.refl _ _) | (with_reducible refine Below.drew ?_) | (with_reducible refine bdN ?_ _) | ((with_reducible refine bdS ?_ ?_ _); · first | (simp; done) | omega | (simp; omega)) | ((with_reducible refine bdA ?_ ?_ _); · first | (simp; done) | omega | (simp; omega))))).mono ?_
  rintro e w1 ⟨ow1, rfl, hq1, ht1⟩
  have hc1 := hc.keep ht1 (by simp)
  have d1 := hc1.get 1 rfl
  have f1 := hc1.free (2 + 1)
  have lg1 := hc1.lt
  have tb := hc1.turn 1 (.int .i64 ((d : Int) + 1)) (by simp)
  have hc2 := hc1.set 1 (.int .i64 ((d : Int) + 1)) (by simp)
  have hq2 := hq1.keep tb (by simp) (by simp)
  simp only [List.set_cons_succ, List.set_cons_zero, Nat.reduceAdd] at hc2 tb hq2 d1 f1
  have hput := fun W (hW : Below (w1.setCell ⟨g, 3, none⟩ (.int .i64 ((d : Int) + 1))).heap.size (w1.setCell ⟨g, 3, none⟩ (.int .i64 ((d : Int) + 1))) W) => (q_put W ow1 (p ++ [0]) g 0 xs x (hq2.new_ (hW.nw ow1)) bx).mono fun e w' ⟨ow', he, hQ, hT⟩ => (⟨ow', he, hQ, ((hW.nw ow1).turn _).trans hT⟩ : ∃ ow', e = Ending.returned (.tuple #[]) ∧ Q w' ow' (p ++ [0]) g 0 (xs ++ [x]) ∧ Turn (p ++ [0]) (w1.setCell ⟨g, 3, none⟩ (.int .i64 ((d : Int) + 1))) ow1 w' ow')
  have Hput := Lib.hid hput
  clear hput hq1 hq2 c2
  go_wp2_with fail
  refine (Hput.out _ (Below.refl _ _)).mono ?_
  rintro e w2 ⟨ow2, rfl, hq3, ht3⟩
  go_wp2
  go_end0
  exact ⟨ow2, rfl, ⟨hq3, (hc2.keep ht3 (by simp))⟩, ((ht1.up (by simp)).trans (tb.up (by simp))).trans (ht3.up (by simp))⟩

set_option maxHeartbeats 400000 in
theorem r_dropped (w : World) (ow : Ow) (p : List Nat) (g n d : Nat) (xs : List Int) (h : Rg w ow p g n d xs) :
    Calls Try.prog 30 #[.pointer (some ⟨g, 0, none⟩)] w fun e w' => e = .returned (.int .i64 (d : Int)) ∧ ∃ k, w' = w.drewN k := by
  have d1 := h.2.get 1 rfl
  simp only [Nat.reduceAdd] at d1
  go_enter Try.func30, Try.ntmps30
  go_wp2
  go_ret
  exact ⟨rfl, 0, rfl⟩

set_option maxHeartbeats 400000 in
theorem r_len (w : World) (ow : Ow) (p : List Nat) (g n d : Nat) (xs : List Int) (h : Rg w ow p g n d xs) (hn : xs.length ≤ 1099511627776) :
    Calls Try.prog 31 #[.pointer (some ⟨g, 0, none⟩)] w fun e w' => e = .returned (.int .i64 (xs.length : Int)) ∧ ∃ k, w' = w.drewN k := by
  have hcall := q_len w ow (p ++ [0]) g 0 xs h.1 hn
  have Hcall := Lib.hid hcall
  clear hcall
  go_enter Try.func31, Try.ntmps31
  go_wp2_with fail
  refine Hcall.out.mono ?_
  rintro e w4 ⟨rfl, k, rfl⟩
  go_wp2
  go_ret
  exact ⟨rfl, k, rfl⟩

set_option maxHeartbeats 400000 in
theorem r_list (w : World) (ow : Ow) (p q : List Nat) (g n d : Nat) (xs : List Int) (h : Rg w ow p g n d xs) (hn : xs.length ≤ 1099511627776) :
    Calls Try.prog 33 #[.pointer (some ⟨g, 0, none⟩)] w fun e w' => ∃ v' ow', e = .returned v' ∧ Row w' ow' q 3 1 v' xs.length (css xs) ∧ New w ow w' ow' ∧ Fresh w.heap.size v' := by
  have hcall := q_list w ow (p ++ [0]) q g 0 xs h.1 hn
  have Hcall := Lib.hid hcall
  clear hcall
  go_enter Try.func33, Try.ntmps33
  go_wp2_with fail
  refine Hcall.out.mono ?_
  rintro e w4 ⟨v4, ow4, rfl, hrow4, hnew4, hfr4⟩
  go_wp2
  go_ret
  exact ⟨_, _, rfl, hrow4, hnew4, hfr4⟩

end EInt
end Go.Proofs.Ytppikbdeopagkaa
