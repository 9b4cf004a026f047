/-
  SHELF.QUEUE of string: its functions' contracts.
-/
import Derived.Test.YtppikbdeopagkaaEStr
import Derived.Outline
import Derived.Lib.Hide
import Derived.Deep.Light
import Derived.Deep.RegionWith
set_option linter.unusedVariables false
set_option linter.unusedSimpArgs false
namespace Go.Proofs.Ytppikbdeopagkaa
open Go Go.RowKit
namespace EStr

set_option maxHeartbeats 400000 in
theorem copied (w : World) (ow : Ow) (q : List Nat) (v : Value) (n : Nat) (xs : List ByteArray) (hr : Reads w v n (css xs)) (hl : xs.length = n) (hn : n ≤ 1099511627776) :
    Calls Try.prog 98 #[v] w fun e w' => ∃ v' ow', e = .returned v' ∧ Row w' ow' q 9 1 v' n (css xs) ∧ New w ow w' ow' ∧ Fresh w.heap.size v' := by
  obtain ⟨A, c, rfl, hnc⟩ := hr.slice
  have hwl := css_length xs
  go_enter Try.func98, Try.ntmps98
  go_wp2_with (at_make; refine wpList_make_row [1] ow0 rfl _ _ 30 rfl 9 _ 1 16 Try.underlying30 info rfl _ _ _ _ 0 n rfl rfl rfl rfl (by omega) (by omega) (by unfold maxLen; omega) ?_)
  intro v1 w1 ow1 hrow hnew
  go_wp2_with (at_builtin; refine wpList_append_row rfl _ _ 30 30 rfl 9 _ 1 16 Try.underlying30 info rfl rfl hrow rfl ((hr.new_ hnew.below).src Try.underlying30 (by rw [hwl, hl]) (css_one xs)) (by unfold maxLen; omega) (by omega) ?_)
  intro v2 w2 ow2 hrow2 ht
  go_wp2
  go_ret
  have t := (hnew.turn [1]).trans ht
  exact ⟨_, _, rfl, by have := hrow2.ren t ow q; simpa [hl, madeCells] using this, t.new_ ow q, hrow2.fresh t⟩

/-- A queue: its two cells, its list, those ahead of 'from' gone. -/
def Q (w : World) (ow : Ow) (p : List Nat) (g o : Nat) (xs : List ByteArray) : Prop :=
  ∃ (v : Value) (all : List ByteArray) (k : Nat), Cells w ow (p ++ [0]) g o [v, .int .i64 (k : Int)] ∧ Row w ow (p ++ [1]) 9 1 v all.length (css all) ∧ 2 * k ≤ all.length ∧ xs = all.drop k

theorem Q.keep {w w1 : World} {ow ow1 : Ow} {p q : List Nat} {g o : Nat} {xs : List ByteArray} (h : Q w ow p g o xs) (t : Turn q w ow w1 ow1) (h0 : ¬ q <+: p ++ [0]) (h1 : ¬ q <+: p ++ [1]) : Q w1 ow1 p g o xs := by
  obtain ⟨v, all, k, hc, hr, r⟩ := h
  exact ⟨v, all, k, hc.keep t h0, hr.keep t h1, r⟩
theorem Q.new_ {w w1 : World} {ow ow1 : Ow} {p : List Nat} {g o : Nat} {xs : List ByteArray} (h : Q w ow p g o xs) (t : New w ow w1 ow1) : Q w1 ow1 p g o xs := by
  obtain ⟨v, all, k, hc, hr, r⟩ := h
  exact ⟨v, all, k, hc.new_ t, hr.new_ t, r⟩
theorem Q.lt {w : World} {ow : Ow} {p : List Nat} {g o : Nat} {xs : List ByteArray} (h : Q w ow p g o xs) : g < w.heap.size := by
  obtain ⟨v, all, k, hc, hr, r⟩ := h
  exact hc.lt

set_option maxHeartbeats 400000 in
theorem q_len (w : World) (ow : Ow) (p : List Nat) (g o : Nat) (xs : List ByteArray) (h : Q w ow p g o xs) (hn : xs.length ≤ 1099511627776) :
    Calls Try.prog 23 #[.pointer (some ⟨g, o, none⟩)] w fun e w' => e = .returned (.int .i64 (xs.length : Int)) ∧ ∃ k, w' = w.drewN k := by
  obtain ⟨v, all, k, hc, hr, hk, rfl⟩ := h
  obtain ⟨A, c, rfl, hnc⟩ := hr.slice
  have c0 := hc.get0
  have c1 := hc.get 1 rfl
  have hl : (all.drop k).length = all.length - k := List.length_drop
  have b1 : all.length ≤ 4398046511104 := by omega
  have e1 : (((all.drop k).length : Nat) : Int) = (all.length : Int) - (k : Int) := by omega
  have H := Lib.hid e1
  clear hl e1 hn
  go_enter Try.func23, Try.ntmps23
  go_wp2
  go_quiet (fail)
  go_wp2
  go_ret
  exact ⟨by rw [H.out]; rfl, _, rfl⟩

set_option maxHeartbeats 400000 in
theorem q_put (w : World) (ow : Ow) (p : List Nat) (g o : Nat) (xs : List ByteArray) (x : ByteArray) (h : Q w ow p g o xs) (hn : xs.length ≤ 1099511627776) :
    Calls Try.prog 20 #[.pointer (some ⟨g, o, none⟩), .string x] w fun e w' => ∃ ow', e = .returned (.tuple #[]) ∧ Q w' ow' p g o (xs ++ [x]) ∧ Turn p w ow w' ow' := by
  obtain ⟨v, all, k, hc, hr, hk, rfl⟩ := h
  obtain ⟨A, c, rfl, hnc⟩ := hr.slice
  have hl : (all.drop k).length = all.length - k := List.length_drop
  have b1 : all.length ≤ 4398046511104 := by omega
  clear hl hn
  go_enter Try.func20, Try.ntmps20
  have c0 := hc.get0
  have f0 := hc.free o
  have lg := hc.lt
  go_wp2_with (at_builtin; refine wpList_append_row rfl (.tmp 8) (.tmp 10) 30 30 rfl 9 _ 1 16 Try.underlying30 info rfl rfl (hr.alloc_ _) rfl ((Reads.new _ (cs x) _ 1 1 (Nat.le_refl _)).src Try.underlying30 rfl (cs_one x)) (by unfold maxLen; omega) (by omega) ?_)
  intro v' w' ow' hrow' ht'
  obtain ⟨A', c', rfl, hnc'⟩ := hrow'.slice
  have ht1 := ((Turn.refl (p ++ [1]) w ow).alloc_ (.cells (cs x).toArray 9)).trans ht'
  have hcc := hc.keep ht1 (by simp)
  have c2 := hcc.get0
  have f2 := hcc.free o
  have lg2 := hcc.lt
  go_wp2
  go_end0
  refine ⟨_, rfl, ⟨_, all ++ [x], k, hcc.set0 _, ?_, ?_, ?_⟩, ?_⟩
  · rw [css_snoc, List.length_append]
    exact hrow'.keep (hcc.turn 0 _ (by simp)) (by simp)
  · rw [List.length_append]; omega
  · rw [List.drop_append_of_le_length (by omega)]
  · exact (ht1.up (by simp)).setCell _ (hcc.under0 (by simp))

set_option maxHeartbeats 400000 in
theorem q_front_none (w : World) (ow : Ow) (p : List Nat) (g o : Nat) (h : Q w ow p g o []) :
    Calls Try.prog 22 #[.pointer (some ⟨g, o, none⟩)] w fun e w' => e = .returned (.tuple #[.string ⟨#[]⟩, .bool false]) ∧ Below w.heap.size w w' := by
  go_enter Try.func22, Try.ntmps22
  go_wp2_with fail
  refine (q_len _ ow p g o [] (h.new_ (by refine New.of_below ?_ _; repeat (first | (with_reducible assumption) | (with_reducible exact Below.refl _ _) | (with_reducible refine Below.drew ?_) | (with_reducible refine bdN ?_ _) | ((with_reducible refine bdS ?_ ?_ _); · first | (simp; done) | omega | (simp; omega)) | ((with_reducible refine bdA ?_ ?_ _); · first | (simp; done) | omega | (simp; omega))))) (by simp)).mono ?_
  rintro e w' ⟨rfl, k, rfl⟩
  go_wp2
  (go_ret2; refine ⟨rfl, ?_⟩)
  repeat (first | (with_reducible assumption) | (with_reducible exact Below.refl _ _) | (with_reducible refine Below.drew ?_) | (with_reducible refine bdN ?_ _) | ((with_reducible refine bdS ?_ ?_ _); · first | (simp; done) | omega | (simp; omega)) | ((with_reducible refine bdA ?_ ?_ _); · first | (simp; done) | omega | (simp; omega)))

set_option maxHeartbeats 400000 in
theorem q_front_some (w : World) (ow : Ow) (p : List Nat) (g o : Nat) (x : ByteArray) (xs : List ByteArray) (h : Q w ow p g o (x :: xs)) (hn : xs.length + 1 ≤ 1099511627776) :
    Calls Try.prog 22 #[.pointer (some ⟨g, o, none⟩)] w fun e w' => e = .returned (.tuple #[.string x, .bool true]) ∧ Below w.heap.size w w' := by
  have hq := fun w1 (hb : Below w.heap.size w w1) => q_len w1 ow p g o (x :: xs) (h.new_ (hb.nw ow)) (by simpa using hn)
  obtain ⟨v, all, k, hc, hr, hk, he⟩ := h
  have hx : all[k]? = some x := by have := congrArg (fun l => l[0]?) he; simpa using this.symm
  have hlt : k < all.length := (List.getElem?_eq_some_iff.1 hx).1
  obtain ⟨b, off, cap, rfl, hnc, hm, hb, ho, hf, hcell⟩ := hr.at (by omega)
  have e0 := hcell (k * 1 + 0) _ (css_at all k x hx 0 _ rfl (by omega))
  simp only [Nat.add_zero, Nat.mul_one, ← Nat.add_assoc] at e0
  have c0 := hc.get0
  have c1 := hc.get 1 rfl
  have lg := hc.lt
  have i0 : (k : Int) < (all.length : Int) := by omega
  have hlen : all.length = (x :: xs).length + k := by rw [he, List.length_drop]; omega
  have b1 : all.length ≤ 4398046511104 := by simp only [List.length_cons] at hlen; omega
  have hq := Lib.hid hq
  clear hlen hn hr hx hcell he
  go_enter Try.func22, Try.ntmps22
  go_wp2_with fail
  refine (hq.out _ (by repeat (first | (with_reducible assumption) | (with_reducible exact Below.refl _ _) | (with_reducible refine Below.drew ?_) | (with_reducible refine bdN ?_ _) | ((with_reducible refine bdS ?_ ?_ _); · first | (simp; done) | omega | (simp; omega)) | ((with_reducible refine bdA ?_ ?_ _); · first | (simp; done) | omega | (simp; omega))))).mono ?_
  rintro e w' ⟨rfl, nq, rfl⟩
  go_wp2
  go_region
  all_goals
    go_wp2
    (go_ret2; refine ⟨rfl, ?_⟩)
    repeat (first | (with_reducible assumption) | (with_reducible exact Below.refl _ _) | (with_reducible refine Below.drew ?_) | (with_reducible refine bdN ?_ _) | ((with_reducible refine bdS ?_ ?_ _); · first | (simp; done) | omega | (simp; omega)) | ((with_reducible refine bdA ?_ ?_ _); · first | (simp; done) | omega | (simp; omega)))

set_option maxHeartbeats 400000 in
theorem q_take_none (w : World) (ow : Ow) (p : List Nat) (g o : Nat) (h : Q w ow p g o []) :
    Calls Try.prog 21 #[.pointer (some ⟨g, o, none⟩)] w fun e w' => e = .returned (.tuple #[.string ⟨#[]⟩, .bool false]) ∧ Below w.heap.size w w' := by
  go_enter Try.func21, Try.ntmps21
  go_wp2_with fail
  refine (q_front_none _ ow p g o (h.new_ (by refine New.of_below ?_ _; repeat (first | (with_reducible assumption) | (with_reducible exact Below.refl _ _) | (with_reducible refine Below.drew ?_) | (with_reducible refine bdN ?_ _) | ((with_reducible refine bdS ?_ ?_ _); · first | (simp; done) | omega | (simp; omega)) | ((with_reducible refine bdA ?_ ?_ _); · first | (simp; done) | omega | (simp; omega)))))).mono ?_
  rintro e w1 ⟨rfl, hb⟩
  have hB : Below w.heap.size w w1 := hb
  go_wp2
  (go_ret2; refine ⟨rfl, ?_⟩)
  repeat (first | (with_reducible assumption) | (with_reducible exact Below.refl _ _) | (with_reducible refine Below.drew ?_) | (with_reducible refine bdN ?_ _) | ((with_reducible refine bdS ?_ ?_ _); · first | (simp; done) | omega | (simp; omega)) | ((with_reducible refine bdA ?_ ?_ _); · first | (simp; done) | omega | (simp; omega)))

set_option maxHeartbeats 1000000 in
theorem q_take_some (w : World) (ow : Ow) (p : List Nat) (g o : Nat) (x : ByteArray) (xs : List ByteArray) (h : Q w ow p g o (x :: xs)) (hn : xs.length + 1 ≤ 1099511627776) :
    Calls Try.prog 21 #[.pointer (some ⟨g, o, none⟩)] w fun e w' => ∃ ow', e = .returned (.tuple #[.string x, .bool true]) ∧ Q w' ow' p g o xs ∧ Turn p w ow w' ow' := by
  have h0 := h
  go_enter Try.func21, Try.ntmps21
  go_wp2_with fail
  refine (q_front_some _ ow p g o x xs h hn).mono ?_
  rintro e w1 ⟨rfl, hb⟩
  obtain ⟨v, all, k, hc, hr, hk, he⟩ := h
  have hx : all[k]? = some x := by have := congrArg (fun l => l[0]?) he; simpa using this.symm
  have hlt : k < all.length := (List.getElem?_eq_some_iff.1 hx).1
  have hxs : xs = all.drop (k + 1) := by rw [← List.tail_drop, ← he, List.tail_cons]
  obtain ⟨b, off, cap, rfl, hnc, hm, hb0, -, -, -⟩ := hr.at (by omega)
  replace hc := hc.new_ (hb.nw ow)
  replace hr := hr.new_ (hb.nw ow)
  obtain ⟨hb1, ho, hf, hcell⟩ := hr.open_
  have e0 := hcell (k * 1 + 0) _ (css_at all k x hx 0 _ rfl (by omega))
  simp only [Nat.add_zero, Nat.mul_one] at e0
  have c0 := hc.get0
  have c1 := hc.get 1 rfl
  have fg := hc.free
  have lg := hc.lt
  have i0 : (k : Int) < (all.length : Int) := by omega
  have hlen : all.length = (x :: xs).length + k := by rw [he, List.length_drop]; omega
  have b1 : all.length ≤ 4398046511104 := by simp only [List.length_cons] at hlen; omega
  have b2 : all.length - (k + 1) ≤ 1099511627776 := by simp only [List.length_cons] at hlen; omega
  have gb : ¬ g = b := hr.ne hc (by simp) (by simp)
  have gb' : ¬ b = g := fun e => gb e.symm
  have hcz := css_cells all k (⟨#[]⟩ : ByteArray)
  have hrA : Row (w1.setCell ⟨b, off + k, none⟩ (.string ⟨#[]⟩)) ow (p ++ [1]) 9 1 (.slice (some ⟨b, off, none⟩) all.length cap) all.length (css (all.set k (⟨#[]⟩ : ByteArray))) := by
    rw [← hcz]
    have := hr.set (k * 1) (.string ⟨#[]⟩)
    simpa using this
  have hcA : Cells (w1.setCell ⟨b, off + k, none⟩ (.string ⟨#[]⟩)) ow (p ++ [0]) g o [.slice (some ⟨b, off, none⟩) all.length cap, .int .i64 (k : Int)] := by
    repeat (first | (with_reducible exact hc) | (with_reducible refine Cells.drew ?_) | (with_reducible refine Cells.drewN ?_ _) | (with_reducible refine Cells.alloc_ ?_ _) | ((with_reducible refine Cells.far ?_ ?_ _); · first | assumption | omega | (simp; done) | (simp; omega)))
  have hcB := fun u => hcA.set 1 u (by simp)
  simp only [List.set_cons_succ, List.set_cons_zero] at hcB
  have og : p <+: ow g (o + 1) := hcA.under 1 (by simp) (by simp)
  have og0 : p <+: ow g o := hcA.under0 (by simp)
  have ob : ∀ i, p <+: ow b i := fun i => by rw [ho]; simp
  have HrA := Lib.hid hrA
  have HcA := Lib.hid hcA
  have HcB := Lib.hid hcB
  have Hob := Lib.hid ob
  have Hxs := Lib.hid hxs
  clear hrA hcA hcB ob hxs hx hcz hlen hn hcell he ho hr hc hm
  by_cases hcut : (all.length : Int) < 2 * ((k : Int) + 1)
  · go_wp2
    go_region
    all_goals go_wp2
    go_region
    all_goals go_wp2
    refine gen_world (fun W => Cells W ow (p ++ [0]) g o [.slice (some ⟨b, off, none⟩) all.length cap, .int .i64 ((k : Int) + 1)] ∧ Row W ow (p ++ [1]) 9 1 (.slice (some ⟨b, off, none⟩) all.length cap) all.length (css (all.set k (⟨#[]⟩ : ByteArray))) ∧ Turn p w ow W ow) ?_ ?_
    · refine ⟨?_, ?_, ?_⟩
      · repeat (first | (with_reducible exact HcB.out _) | (with_reducible refine Cells.drew ?_) | (with_reducible refine Cells.drewN ?_ _) | (with_reducible refine Cells.alloc_ ?_ _) | ((with_reducible refine Cells.far ?_ ?_ _); · first | assumption | omega | (simp; done) | (simp; omega)))
      · repeat (first | (with_reducible exact HrA.out) | (with_reducible refine Row.drew ?_) | (with_reducible refine Row.drewN ?_ _) | (with_reducible refine Row.alloc_ ?_ _) | ((with_reducible refine Row.far ?_ ?_ _); · first | assumption | omega | (simp; done) | (simp; omega)))
      · have ob := Hob.out
        repeat (first | (with_reducible exact ((hb.nw ow).turn p)) | (with_reducible exact Turn.refl _ _ _) | (with_reducible refine Turn.drew ?_) | (with_reducible refine Turn.drewN ?_ _) | (with_reducible refine Turn.alloc_ ?_ _) | ((with_reducible refine Turn.setNew ?_ ?_ _); · first | (simp; done) | omega | (simp; omega)) | ((with_reducible refine Turn.setO ?_ ?_ _); · first | assumption | exact ob _ | (simp [*]; done)))
    · rintro w3 ⟨hc3, hr3, ht3⟩
      have c0 := hc3.get0
      have c1 := hc3.get 1 rfl
      have fg := hc3.free
      have lg3 := hc3.lt
      have hlz : (css (all.set k (⟨#[]⟩ : ByteArray))).drop ((k + 1) * 1) = css (all.drop (k + 1)) := by rw [← css_drop, List.drop_set_of_lt (by omega)]
      obtain ⟨A, hA, hrd⟩ : ∃ A, (if cap = k + 1 then some (⟨b, off, none⟩ : Addr) else some ⟨b, off + (k + 1), none⟩) = A ∧ Reads w3 (.slice A (all.length - (k + 1)) (cap - (k + 1))) (all.length - (k + 1)) (css (all.drop (k + 1))) := ⟨_, rfl, by rw [← hlz]; have := hr3.readsFrom (k + 1) (by omega); simpa using this⟩
      have ht1 : ((k : Int) + 1).toNat = k + 1 := by omega
      have hk1 : (k : Int) + 1 ≤ (all.length : Int) := by omega
      have hk2 : (0 : Int) ≤ (k : Int) + 1 := by omega
      have hcall := fun W (hW : Below w3.heap.size w3 W) => (copied W ow (p ++ [1]) _ _ (all.drop (k + 1)) (hrd.new_ hW) List.length_drop b2).mono fun e w' ⟨v', ow', he, hr, hn, hfr⟩ => (⟨v', ow', he, hr, (hW.nw ow).trans hn, hfr.mono hW.size⟩ : ∃ v' ow', e = Ending.returned v' ∧ Row w' ow' (p ++ [1]) 9 1 v' (all.length - (k + 1)) (css (all.drop (k + 1))) ∧ New w3 ow w' ow' ∧ Fresh w3.heap.size v')
      have Hcall := Lib.hid hcall
      have Hlz := Lib.hid hlz
      clear hcall hlz
      go_region_with (go_at_call 98; refine (Hcall.out _ (by repeat (first | (with_reducible assumption) | (with_reducible exact Below.refl _ _) | (with_reducible refine Below.drew ?_) | (with_reducible refine bdN ?_ _) | ((with_reducible refine bdS ?_ ?_ _); · first | (simp; done) | omega | (simp; omega)) | ((with_reducible refine bdA ?_ ?_ _); · first | (simp; done) | omega | (simp; omega))))).mono ?_; rintro e w4 ⟨v4, ow4, rfl, hrow4, hnew4, hfr4⟩; obtain ⟨A4, c4, rfl, hnc4⟩ := hrow4.slice; have hc4 := hc3.new_ hnew4; have c40 := hc4.get0; have c41 := hc4.get 1 rfl; have fg4 := hc4.free)
      all_goals
        go_wp2
        go_ret2
        refine ⟨ow4, rfl, ⟨.slice A4 (all.length - (k + 1)) c4, all.drop (k + 1), 0, ?_, ?_, ?_, ?_⟩, ?_⟩
        · have hcE : ∀ u u', Cells ((w4.setCell ⟨g, o, none⟩ u).setCell ⟨g, o + 1, none⟩ u') ow4 (p ++ [0]) g o [u, u'] := fun u u' => (hc4.set0 u).set 1 u' (by simp)
          rw [show ((0 : Nat) : Int) = 0 from rfl]
          repeat (first | (with_reducible exact hcE _ _) | (with_reducible refine Cells.drew ?_) | (with_reducible refine Cells.drewN ?_ _) | (with_reducible refine Cells.alloc_ ?_ _) | ((with_reducible refine Cells.far ?_ ?_ _); · first | assumption | omega | (simp; done) | (simp; omega)))
        · rw [List.length_drop]
          repeat (first | (with_reducible exact hrow4) | (with_reducible refine Row.drew ?_) | (with_reducible refine Row.drewN ?_ _) | (with_reducible refine Row.alloc_ ?_ _) | ((with_reducible refine Row.farF hfr4 ?_ ?_ _); · omega))
        · omega
        · simpa using Hxs.out
        · have og4 : p <+: ow4 g o := hc4.under0 (by simp)
          have og41 : p <+: ow4 g (o + 1) := hc4.under 1 (by simp) (by simp)
          repeat (first | (with_reducible exact (ht3.trans (hnew4.turn p))) | (with_reducible exact Turn.refl _ _ _) | (with_reducible refine Turn.drew ?_) | (with_reducible refine Turn.drewN ?_ _) | (with_reducible refine Turn.alloc_ ?_ _) | ((with_reducible refine Turn.setNew ?_ ?_ _); · first | (simp; done) | omega | (simp; omega)) | ((with_reducible refine Turn.setO ?_ ?_ _); · first | assumption | exact ob _ | (simp [*]; done)))
  · go_wp2
    go_region
    all_goals go_wp2
    go_region
    all_goals
      go_wp2
      go_ret2
      refine ⟨ow, rfl, ⟨.slice (some ⟨b, off, none⟩) all.length cap, all.set k (⟨#[]⟩ : ByteArray), k + 1, ?_, ?_, ?_, ?_⟩, ?_⟩
      · rw [show ((k + 1 : Nat) : Int) = (k : Int) + 1 from by omega]
        repeat (first | (with_reducible exact HcB.out _) | (with_reducible refine Cells.drew ?_) | (with_reducible refine Cells.drewN ?_ _) | (with_reducible refine Cells.alloc_ ?_ _) | ((with_reducible refine Cells.far ?_ ?_ _); · first | assumption | omega | (simp; done) | (simp; omega)))
      · rw [List.length_set]
        repeat (first | (with_reducible exact HrA.out) | (with_reducible refine Row.drew ?_) | (with_reducible refine Row.drewN ?_ _) | (with_reducible refine Row.alloc_ ?_ _) | ((with_reducible refine Row.far ?_ ?_ _); · first | assumption | omega | (simp; done) | (simp; omega)))
      · rw [List.length_set]; omega
      · rw [Hxs.out, List.drop_set_of_lt (by omega)]
      · have ob := Hob.out
        repeat (first | (with_reducible exact ((hb.nw ow).turn p)) | (with_reducible exact Turn.refl _ _ _) | (with_reducible refine Turn.drew ?_) | (with_reducible refine Turn.drewN ?_ _) | (with_reducible refine Turn.alloc_ ?_ _) | ((with_reducible refine Turn.setNew ?_ ?_ _); · first | (simp; done) | omega | (simp; omega)) | ((with_reducible refine Turn.setO ?_ ?_ _); · first | assumption | exact ob _ | (simp [*]; done)))


end EStr
end Go.Proofs.Ytppikbdeopagkaa
