/-
  SHELF.LEVELS of int: its functions' contracts.
-/
import Derived.Test.YtppikbdeopagkaaEIntQ
import Derived.LoopTactic
import Derived.Deep.LoopGhost
set_option linter.unusedVariables false
set_option linter.unusedSimpArgs false
namespace Go.Proofs.Ytppikbdeopagkaa
open Go Go.RowKit
namespace EInt

/-- Levels: one cell, the slice of the queues; each queue has an owner of its own. -/
def L (w : World) (ow : Ow) (p : List Nat) (g o : Nat) (qs : List (List Int)) : Prop :=
  ∃ (G O cap : Nat), Cells w ow (p ++ [0]) g o [.slice (some ⟨G, O, none⟩) qs.length cap] ∧ ∀ i xs, qs[i]? = some xs → Q w ow (p ++ [1, i]) G (O + i * 2) xs

theorem L.keep {w w1 : World} {ow ow1 : Ow} {p q : List Nat} {g o : Nat} {qs : List (List Int)} (h : L w ow p g o qs) (t : Turn q w ow w1 ow1) (h0 : ¬ q <+: p ++ [0]) (h1 : ∀ i j, ¬ q <+: p ++ [1, i, j]) : L w1 ow1 p g o qs := by
  obtain ⟨G, O, cap, hc, hq⟩ := h
  exact ⟨G, O, cap, hc.keep t h0, fun i xs hi => (hq i xs hi).keep t (by simpa using h1 i 0) (by simpa using h1 i 1)⟩
theorem L.new_ {w w1 : World} {ow ow1 : Ow} {p : List Nat} {g o : Nat} {qs : List (List Int)} (h : L w ow p g o qs) (t : New w ow w1 ow1) : L w1 ow1 p g o qs := by
  obtain ⟨G, O, cap, hc, hq⟩ := h
  exact ⟨G, O, cap, hc.new_ t, fun i xs hi => (hq i xs hi).new_ t⟩
theorem L.lt {w : World} {ow : Ow} {p : List Nat} {g o : Nat} {qs : List (List Int)} (h : L w ow p g o qs) : g < w.heap.size := by
  obtain ⟨G, O, cap, hc, hq⟩ := h
  exact hc.lt

theorem L.upd {w w1 : World} {ow ow1 : Ow} {p : List Nat} {g o G O cap i : Nat} {qs : List (List Int)} {xs ys : List Int} (hc : Cells w ow (p ++ [0]) g o [.slice (some ⟨G, O, none⟩) qs.length cap])
    (hq : ∀ i xs, qs[i]? = some xs → Q w ow (p ++ [1, i]) G (O + i * 2) xs) (hi : qs[i]? = some xs) (t : Turn (p ++ [1, i]) w ow w1 ow1) (h : Q w1 ow1 (p ++ [1, i]) G (O + i * 2) ys) : L w1 ow1 p g o (qs.set i ys) := by
  refine ⟨G, O, cap, by rw [List.length_set]; exact hc.keep t (by simp), fun j zs hj => ?_⟩
  by_cases e : j = i
  · subst e
    have hlt : j < qs.length := (List.getElem?_eq_some_iff.1 hi).1
    have : zs = ys := by simpa [hlt] using hj.symm
    subst this
    exact h
  · rw [List.getElem?_set_ne (Ne.symm e)] at hj
    exact (hq j zs hj).keep t (by simp [Ne.symm e]) (by simp [Ne.symm e])

/-- The highest level, of the first n, that is not empty; 0: all are. -/
def hiTo (qs : List (List Int)) : Nat → Nat
  | 0 => 0
  | n + 1 => if (qs[n]?).getD [] = [] then hiTo qs n else n + 1

set_option maxHeartbeats 400000 in
theorem l_highest (w : World) (ow : Ow) (p : List Nat) (g o : Nat) (qs : List (List Int)) (h : L w ow p g o qs) (hn : ∀ xs ∈ qs, xs.length ≤ 1099511627776) (hl : qs.length ≤ 32) :
    Calls Try.prog 131 #[.pointer (some ⟨g, o, none⟩)] w fun e w' => e = .returned (.int .i64 (hiTo qs qs.length : Int)) ∧ ∃ k, w' = w.drewN k := by
  obtain ⟨G, O, cap, hc, hq⟩ := h
  have c0 := hc.get0
  have Hq := Lib.hid hq
  have Hn := Lib.hid hn
  clear hq hn
  go_enter Try.func131, Try.ntmps131
  go_wp2
  go_loopw [3] (fun i wr => ∃ m : Nat, m ≤ qs.length ∧ i = .int .i64 m ∧ hiTo qs m = hiTo qs qs.length ∧ ∃ k, wr = w.drewN k) (fun i _ => (intOf i).toNat)
  case atStart => exact ⟨qs.length, Nat.le_refl _, rfl, rfl, 0, rfl⟩
  case round =>
    obtain ⟨m, hm, rfl, hh, k, rfl⟩ := hrel
    have Hh := Lib.hid hh
    clear hh
    cases m with
    | zero =>
      go_wp2
      go_ret
      exact ⟨by rw [← Hh.out]; rfl, _, rfl⟩
    | succ m =>
      obtain ⟨xs, hx⟩ : ∃ xs, qs[m]? = some xs := ⟨_, List.getElem?_eq_getElem (by omega)⟩
      have hcall := fun W (hW : Below w.heap.size w W) => q_len W ow _ _ _ _ ((Hq.out m _ hx).new_ (hW.nw ow)) (Hn.out _ (List.mem_of_getElem? hx))
      have i1 : (m : Int) < (qs.length : Int) := by omega
      have Hx := Lib.hid hx
      clear hx
      cases xs with
      | nil =>
        have Hcall := Lib.hid hcall
        clear hcall
        go_wp2_with (go_at_call 70; refine (Hcall.out _ (by repeat (first | (with_reducible assumption) | (with_reducible exact Below.refl _ _) | (with_reducible refine Below.drew ?_) | (with_reducible refine bdN ?_ _) | ((with_reducible refine bdS ?_ ?_ _); · first | (simp; done) | omega | (simp; omega)) | ((with_reducible refine bdA ?_ ?_ _); · first | (simp; done) | omega | (simp; omega))))).mono ?_; rintro e w1 ⟨rfl, k1, rfl⟩)
        refine ⟨⟨m, by omega, rfl, ?_, _, rfl⟩, ?_⟩
        · rw [← Hh.out]
          simp [hiTo, Hx.out]
        · simp [intOf]
      | cons x xs =>
        have Hcall := Lib.hid hcall
        clear hcall
        have hpos : (0 : Int) < (xs.length : Int) + 1 := by omega
        go_wp2_with (go_at_call 70; refine (Hcall.out _ (by repeat (first | (with_reducible assumption) | (with_reducible exact Below.refl _ _) | (with_reducible refine Below.drew ?_) | (with_reducible refine bdN ?_ _) | ((with_reducible refine bdS ?_ ?_ _); · first | (simp; done) | omega | (simp; omega)) | ((with_reducible refine bdA ?_ ?_ _); · first | (simp; done) | omega | (simp; omega))))).mono ?_; rintro e w1 ⟨rfl, k1, rfl⟩)
        go_ret
        refine ⟨?_, _, rfl⟩
        rw [← Hh.out]
        simp [hiTo, Hx.out]

/-- How many there are in all. -/
def total (qs : List (List Int)) : Nat := (qs.map List.length).sum

theorem total_take (qs : List (List Int)) (m : Nat) (xs : List Int) (h : qs[m]? = some xs) : total (qs.take (m + 1)) = total (qs.take m) + xs.length := by
  have hlt : m < qs.length := (List.getElem?_eq_some_iff.1 h).1
  have : qs.take (m + 1) = qs.take m ++ [xs] := by
    rw [List.take_add_one, h]; rfl
  rw [this]; simp [total]

set_option maxHeartbeats 400000 in
theorem l_len (w : World) (ow : Ow) (p : List Nat) (g o : Nat) (qs : List (List Int)) (h : L w ow p g o qs) (hn : ∀ xs ∈ qs, xs.length ≤ 1099511627776) (hl : qs.length ≤ 32) (ht : ∀ m, total (qs.take m) ≤ 1099511627776) :
    Calls Try.prog 68 #[.pointer (some ⟨g, o, none⟩)] w fun e w' => e = .returned (.int .i64 (total qs : Int)) ∧ ∃ k, w' = w.drewN k := by
  obtain ⟨G, O, cap, hc, hq⟩ := h
  have c0 := hc.get0
  have Hq := Lib.hid hq
  have Hn := Lib.hid hn
  have Ht := Lib.hid ht
  clear hq hn ht
  go_enter Try.func68, Try.ntmps68
  go_wp2
  go_loopw [3, 10] (fun n i wr => ∃ m : Nat, m ≤ qs.length ∧ i = .int .i64 m ∧ n = .int .i64 (total (qs.take m) : Nat) ∧ ∃ k, wr = w.drewN k) (fun _ i _ => qs.length - (intOf i).toNat)
  case atStart => exact ⟨0, Nat.zero_le _, rfl, rfl, 0, rfl⟩
  case round =>
    obtain ⟨m, hm, rfl, rfl, k, rfl⟩ := hrel
    by_cases hlt : m < qs.length
    · obtain ⟨xs, hx⟩ : ∃ xs, qs[m]? = some xs := ⟨_, List.getElem?_eq_getElem (by omega)⟩
      have hcall := fun W (hW : Below w.heap.size w W) => q_len W ow _ _ _ _ ((Hq.out m _ hx).new_ (hW.nw ow)) (Hn.out _ (List.mem_of_getElem? hx))
      have i1 : (m : Int) < (qs.length : Int) := by omega
      have Hx := Lib.hid (total_take qs m xs hx)
      have hb1 := Ht.out m
      have hb2 := Ht.out (m + 1)
      rw [Hx.out] at hb2
      have Hcall := Lib.hid hcall
      clear hcall hx
      go_wp2_with (go_at_call 70; refine (Hcall.out _ (by repeat (first | (with_reducible assumption) | (with_reducible exact Below.refl _ _) | (with_reducible refine Below.drew ?_) | (with_reducible refine bdN ?_ _) | ((with_reducible refine bdS ?_ ?_ _); · first | (simp; done) | omega | (simp; omega)) | ((with_reducible refine bdA ?_ ?_ _); · first | (simp; done) | omega | (simp; omega))))).mono ?_; rintro e w1 ⟨rfl, k1, rfl⟩)
      refine ⟨⟨m + 1, by omega, by go_num, ?_, _, rfl⟩, ?_⟩
      · rw [Hx.out]; go_num
      · simp [intOf]; omega
    · obtain rfl : m = qs.length := by omega
      go_wp2
      go_ret
      exact ⟨by rw [List.take_length]; rfl, _, rfl⟩

set_option maxHeartbeats 400000 in
theorem l_put_out (w : World) (ow : Ow) (p : List Nat) (g o : Nat) (qs : List (List Int)) (lv : Int) (x : Int) (h : L w ow p g o qs) (hl : qs.length ≤ 32) (hlv : lv < 1 ∨ (qs.length : Int) < lv) :
    Calls Try.prog 66 #[.pointer (some ⟨g, o, none⟩), .int .i64 lv, .int .i64 x] w fun e w' => e = .returned (.int .i64 1) ∧ Below w.heap.size w w' := by
  have hlg := h.lt
  obtain ⟨G, O, cap, hc, hq⟩ := h
  have c0 := hc.get0
  have hn : ¬ g = w.heap.size := by omega
  clear hq
  go_enter Try.func66, Try.ntmps66
  by_cases h1 : lv < 1
  · go_wp2
    go_ret
    refine ⟨rfl, ?_⟩
    repeat (first | (with_reducible assumption) | (with_reducible exact Below.refl _ _) | (with_reducible refine Below.drew ?_) | (with_reducible refine bdN ?_ _) | ((with_reducible refine bdS ?_ ?_ _); · first | (simp; done) | omega | (simp; omega)) | ((with_reducible refine bdA ?_ ?_ _); · first | (simp; done) | omega | (simp; omega)))
  · have h2 : (qs.length : Int) < lv := by omega
    go_wp2
    go_ret
    refine ⟨rfl, ?_⟩
    repeat (first | (with_reducible assumption) | (with_reducible exact Below.refl _ _) | (with_reducible refine Below.drew ?_) | (with_reducible refine bdN ?_ _) | ((with_reducible refine bdS ?_ ?_ _); · first | (simp; done) | omega | (simp; omega)) | ((with_reducible refine bdA ?_ ?_ _); · first | (simp; done) | omega | (simp; omega)))

set_option maxHeartbeats 1000000 in
theorem l_put (w : World) (ow : Ow) (p : List Nat) (g o : Nat) (qs : List (List Int)) (lv : Int) (i : Nat) (xs : List Int) (x : Int) (h : L w ow p g o qs) (hl : qs.length ≤ 32) (hlv : lv = (i : Int) + 1) (hi : qs[i]? = some xs) (hn : xs.length ≤ 1099511627776) :
    Calls Try.prog 66 #[.pointer (some ⟨g, o, none⟩), .int .i64 lv, .int .i64 x] w fun e w' => ∃ ow', e = .returned (.int .i64 0) ∧ L w' ow' p g o (qs.set i (xs ++ [x])) ∧ Turn p w ow w' ow' := by
  have h0 := h
  have hlg := h.lt
  obtain ⟨G, O, cap, hc, hq⟩ := h
  have c0 := hc.get0
  have hlt : i < qs.length := (List.getElem?_eq_some_iff.1 hi).1
  have i1 : (i : Int) < (qs.length : Int) := by omega
  have i2 : (i : Int) + 1 ≤ (qs.length : Int) := by omega
  have hcall := fun W (hW : Below w.heap.size w W) => (q_put W ow _ _ _ _ x ((hq i xs hi).new_ (hW.nw ow)) hn).mono fun e w' ⟨ow', he, hQ, hT⟩ => (⟨ow', he, hQ, ((hW.nw ow).turn _).trans hT⟩ : ∃ ow', e = Ending.returned (.tuple #[]) ∧ Q w' ow' (p ++ [1, i]) G (O + i * 2) (xs ++ [x]) ∧ Turn (p ++ [1, i]) w ow w' ow')
  have Hcall := Lib.hid hcall
  have H0 := Lib.hid h0
  have Hq := Lib.hid hq
  have Hi := Lib.hid hi
  clear hcall h0 hq hi hn
  subst hlv
  have wr0 : IntKind.i64.wrap ((i : Int) + 1 - 1) = (i : Int) := by rw [IntKind.wrap_i64]; omega
  have wr1 : IntKind.i64.wrap (i : Int) = (i : Int) := by rw [IntKind.wrap_i64]; omega
  go_enter Try.func66, Try.ntmps66
  go_wp2_with (go_at_call 47; refine (Hcall.out _ (by repeat (first | (with_reducible assumption) | (with_reducible exact Below.refl _ _) | (with_reducible refine Below.drew ?_) | (with_reducible refine bdN ?_ _) | ((with_reducible refine bdS ?_ ?_ _); · first | (simp; done) | omega | (simp; omega)) | ((with_reducible refine bdA ?_ ?_ _); · first | (simp; done) | omega | (simp; omega))))).mono ?_; rintro e w1 ⟨ow1, rfl, hq1, ht1⟩)
  all_goals
    go_wp2
    go_ret
    exact ⟨_, rfl, L.upd hc Hq.out Hi.out ht1 hq1, ht1.up (by simp)⟩

set_option maxHeartbeats 400000 in
theorem l_front_none (w : World) (ow : Ow) (p : List Nat) (g o : Nat) (qs : List (List Int)) (h : L w ow p g o qs) (hn : ∀ xs ∈ qs, xs.length ≤ 1099511627776) (hl : qs.length ≤ 32) (hh : hiTo qs qs.length = 0) :
    Calls Try.prog 92 #[.pointer (some ⟨g, o, none⟩)] w fun e w' => e = .returned (.tuple #[.int .i64 0, .int .i64 0, .bool false]) ∧ Below w.heap.size w w' := by
  have hcall := l_highest w ow p g o qs h hn hl
  rw [hh] at hcall
  have Hcall := Lib.hid hcall
  clear hcall h hn hl hh
  go_enter Try.func92, Try.ntmps92
  go_wp2_with (go_at_call 131; refine Hcall.out.mono ?_; rintro e w1 ⟨rfl, k1, rfl⟩)
  go_ret3
  refine ⟨rfl, ?_⟩
  repeat (first | (with_reducible assumption) | (with_reducible exact Below.refl _ _) | (with_reducible refine Below.drew ?_) | (with_reducible refine bdN ?_ _) | ((with_reducible refine bdS ?_ ?_ _); · first | (simp; done) | omega | (simp; omega)) | ((with_reducible refine bdA ?_ ?_ _); · first | (simp; done) | omega | (simp; omega)))

set_option maxHeartbeats 1000000 in
theorem l_front_some (w : World) (ow : Ow) (p : List Nat) (g o : Nat) (qs : List (List Int)) (i : Nat) (x : Int) (xs : List Int) (h : L w ow p g o qs) (hn : ∀ xs ∈ qs, xs.length ≤ 1099511627776) (hl : qs.length ≤ 32) (hh : hiTo qs qs.length = i + 1) (hi : qs[i]? = some (x :: xs)) :
    Calls Try.prog 92 #[.pointer (some ⟨g, o, none⟩)] w fun e w' => e = .returned (.tuple #[.int .i64 ((i : Int) + 1), .int .i64 x, .bool true]) ∧ Below w.heap.size w w' := by
  have hcall := l_highest w ow p g o qs h hn hl
  rw [hh] at hcall
  have hlg := h.lt
  obtain ⟨G, O, cap, hc, hq⟩ := h
  have c0 := hc.get0
  have hlt : i < qs.length := (List.getElem?_eq_some_iff.1 hi).1
  have i1 : (i : Int) < (qs.length : Int) := by omega
  have hcal2 := fun W (hW : Below w.heap.size w W) => (q_front_some W ow _ _ _ x xs ((hq i _ hi).new_ (hW.nw ow)) (by have := hn _ (List.mem_of_getElem? hi); simpa using this)).mono fun e w' ⟨he, hb⟩ => (⟨he, hb, hW.trans (hb.mono hW.size)⟩ : e = Ending.returned (.tuple #[.int .i64 x, .bool true]) ∧ Below W.heap.size W w' ∧ Below w.heap.size w w')
  have Hcall := Lib.hid hcall
  have Hcal2 := Lib.hid hcal2
  clear hcall hcal2 hn hh hi hq
  have n1 : ((i : Int) + 1 == 0) = false := by simp; omega
  go_enter Try.func92, Try.ntmps92
  go_wp2_with (go_at_call 131; refine Hcall.out.mono ?_; rintro e w1 ⟨rfl, k1, rfl⟩)
  refine (Hcal2.out _ (by repeat (first | (with_reducible assumption) | (with_reducible exact Below.refl _ _) | (with_reducible refine Below.drew ?_) | (with_reducible refine bdN ?_ _) | ((with_reducible refine bdS ?_ ?_ _); · first | (simp; done) | omega | (simp; omega)) | ((with_reducible refine bdA ?_ ?_ _); · first | (simp; done) | omega | (simp; omega))))).mono ?_
  rintro e w2 ⟨rfl, hb2, hB2⟩
  go_wp2
  go_ret3
  exact ⟨rfl, hB2⟩

set_option maxHeartbeats 400000 in
theorem l_take_none (w : World) (ow : Ow) (p : List Nat) (g o : Nat) (qs : List (List Int)) (h : L w ow p g o qs) (hn : ∀ xs ∈ qs, xs.length ≤ 1099511627776) (hl : qs.length ≤ 32) (hh : hiTo qs qs.length = 0) :
    Calls Try.prog 67 #[.pointer (some ⟨g, o, none⟩)] w fun e w' => e = .returned (.tuple #[.int .i64 0, .int .i64 0, .bool false]) ∧ Below w.heap.size w w' := by
  have hcall := l_front_none w ow p g o qs h hn hl hh
  have Hcall := Lib.hid hcall
  clear hcall h hn hl hh
  go_enter Try.func67, Try.ntmps67
  go_wp2_with fail
  refine Hcall.out.mono ?_
  rintro e w2 ⟨rfl, hb2⟩
  go_wp2
  go_ret3
  exact ⟨rfl, hb2⟩

set_option maxHeartbeats 1000000 in
theorem l_take_some (w : World) (ow : Ow) (p : List Nat) (g o : Nat) (qs : List (List Int)) (i : Nat) (x : Int) (xs : List Int) (h : L w ow p g o qs) (hn : ∀ xs ∈ qs, xs.length ≤ 1099511627776) (hl : qs.length ≤ 32) (hh : hiTo qs qs.length = i + 1) (hi : qs[i]? = some (x :: xs)) :
    Calls Try.prog 67 #[.pointer (some ⟨g, o, none⟩)] w fun e w' => ∃ ow', e = .returned (.tuple #[.int .i64 ((i : Int) + 1), .int .i64 x, .bool true]) ∧ L w' ow' p g o (qs.set i xs) ∧ Turn p w ow w' ow' := by
  have hcall := l_front_some w ow p g o qs i x xs h hn hl hh hi
  have hlg := h.lt
  obtain ⟨G, O, cap, hc, hq⟩ := h
  have hlt : i < qs.length := (List.getElem?_eq_some_iff.1 hi).1
  have i1 : (i : Int) < (qs.length : Int) := by omega
  have hcal2 := fun W (hW : Below w.heap.size w W) => (q_take_some W ow _ _ _ x xs ((hq i _ hi).new_ (hW.nw ow)) (by have := hn _ (List.mem_of_getElem? hi); simpa using this)).mono fun e w' ⟨ow', he, hQ, hT⟩ => (⟨ow', he, hQ, ((hW.nw ow).turn _).trans hT⟩ : ∃ ow', e = Ending.returned (.tuple #[.int .i64 x, .bool true]) ∧ Q w' ow' (p ++ [1, i]) G (O + i * 2) xs ∧ Turn (p ++ [1, i]) w ow w' ow')
  have Hcall := Lib.hid hcall
  have Hcal2 := Lib.hid hcal2
  have Hq := Lib.hid hq
  have Hi := Lib.hid hi
  clear hcall hcal2 hn hh hi hq
  go_enter Try.func67, Try.ntmps67
  go_wp2_with fail
  refine Hcall.out.mono ?_
  rintro e w2 ⟨rfl, hB2⟩
  have c0 := (hc.new_ (hB2.nw ow)).get0
  have lg2 : g < w2.heap.size := by have := hB2.size; omega
  go_wp2_with fail
  refine (Hcal2.out _ (by repeat (first | (with_reducible assumption) | (with_reducible exact Below.refl _ _) | (with_reducible refine Below.drew ?_) | (with_reducible refine bdN ?_ _) | ((with_reducible refine bdS ?_ ?_ _); · first | (simp; done) | omega | (simp; omega)) | ((with_reducible refine bdA ?_ ?_ _); · first | (simp; done) | omega | (simp; omega))))).mono ?_
  rintro e w3 ⟨ow3, rfl, hq3, ht3⟩
  clear c0
  go_wp2
  go_ret3
  exact ⟨ow3, rfl, L.upd hc Hq.out Hi.out ht3 hq3, ht3.up (by simp)⟩

end EInt
end Go.Proofs.Ytppikbdeopagkaa
