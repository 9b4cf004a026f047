/-
  SHELF.QUEUE of int: List.
-/
import Derived.Test.YtppikbdeopagkaaEIntQ
set_option linter.unusedVariables false
set_option linter.unusedSimpArgs false
namespace Go.Proofs.Ytppikbdeopagkaa
open Go Go.RowKit
namespace EInt

set_option maxHeartbeats 1600000 in
theorem q_list (w : World) (ow : Ow) (p q : List Nat) (g o : Nat) (xs : List Int) (h : Q w ow p g o xs) (hn : xs.length ≤ 1099511627776) :
    Calls Try.prog 49 #[.pointer (some ⟨g, o, none⟩)] w fun e w' => ∃ v' ow', e = .returned v' ∧ Row w' ow' q 3 1 v' xs.length (css xs) ∧ New w ow w' ow' ∧ Fresh w.heap.size v' := by
  obtain ⟨v, all, k, hc, hr, hk, rfl⟩ := h
  obtain ⟨A, c, rfl, hnc⟩ := hr.slice
  have c0 := hc.get0
  have c1 := hc.get 1 rfl
  have hl : (all.drop k).length = all.length - k := List.length_drop
  have b1 : all.length ≤ 4398046511104 := by omega
  have hk1 : (k : Int) ≤ (all.length : Int) := by omega
  rcases Nat.eq_zero_or_pos all.length with h0 | h0
  · have hall : all = [] := List.eq_nil_of_length_eq_zero h0
    subst hall
    have hk0 : k = 0 := by simp only [List.length_nil] at hk; omega
    subst hk0
    have hrd : Reads w (.slice A 0 c) 0 (css []) := hr.reads
    have hcall := fun W (hW : Below w.heap.size w W) => (copied W ow q _ _ [] (hrd.new_ hW) rfl (by omega)).mono fun e w' ⟨v', ow', he, hr, hn, hfr⟩ => (⟨v', ow', he, hr, (hW.nw ow).trans hn, hfr.mono hW.size⟩ : ∃ v' ow', e = Ending.returned v' ∧ Row w' ow' q 3 1 v' 0 (css []) ∧ New w ow w' ow' ∧ Fresh w.heap.size v')
    have Hcall := Lib.hid hcall
    clear hcall hr hl hk hn hrd h0
    simp only [List.length_nil] at c0 hnc
    go_enter Try.func49, Try.ntmps49
    go_wp2
    go_region_with (go_at_call 111; refine (Hcall.out _ (by repeat (first | (with_reducible assumption) | (with_reducible exact Below.refl _ _) | (with_reducible refine Below.drew ?_) | (with_reducible refine bdN ?_ _) | ((with_reducible refine bdS ?_ ?_ _); · first | (simp; done) | omega | (simp; omega)) | ((with_reducible refine bdA ?_ ?_ _); · first | (simp; done) | omega | (simp; omega))))).mono ?_; rintro e w4 ⟨v4, ow4, rfl, hrow4, hnew4, hfr4⟩)
    all_goals
      go_wp2
      go_ret
      exact ⟨_, _, rfl, hrow4, hnew4, hfr4⟩
  · obtain ⟨b, off, cap, hv, -⟩ := hr.at h0
    simp only [Value.slice.injEq] at hv
    obtain ⟨rfl, -, rfl⟩ := hv
    obtain ⟨A', hA, hrd⟩ : ∃ A', (if c = k then some (⟨b, off, none⟩ : Addr) else some ⟨b, off + k, none⟩) = A' ∧ Reads w (.slice A' (all.length - k) (c - k)) (all.length - k) (css (all.drop k)) := ⟨_, rfl, by rw [css_drop]; have := hr.readsFrom k (by omega); simpa using this⟩
    have hcall := fun W (hW : Below w.heap.size w W) => (copied W ow q _ _ (all.drop k) (hrd.new_ hW) List.length_drop (by omega)).mono fun e w' ⟨v', ow', he, hr, hn, hfr⟩ => (⟨v', ow', he, hr, (hW.nw ow).trans hn, hfr.mono hW.size⟩ : ∃ v' ow', e = Ending.returned v' ∧ Row w' ow' q 3 1 v' (all.length - k) (css (all.drop k)) ∧ New w ow w' ow' ∧ Fresh w.heap.size v')
    have Hcall := Lib.hid hcall
    have Hl := Lib.hid hl
    clear hcall hr hl hn hrd
    go_enter Try.func49, Try.ntmps49
    go_wp2
    go_region_with (go_at_call 111; refine (Hcall.out _ (by repeat (first | (with_reducible assumption) | (with_reducible exact Below.refl _ _) | (with_reducible refine Below.drew ?_) | (with_reducible refine bdN ?_ _) | ((with_reducible refine bdS ?_ ?_ _); · first | (simp; done) | omega | (simp; omega)) | ((with_reducible refine bdA ?_ ?_ _); · first | (simp; done) | omega | (simp; omega))))).mono ?_; rintro e w4 ⟨v4, ow4, rfl, hrow4, hnew4, hfr4⟩)
    all_goals
      go_wp2
      go_ret
      exact ⟨_, _, rfl, by rw [Hl.out]; exact hrow4, hnew4, hfr4⟩

end EInt
end Go.Proofs.Ytppikbdeopagkaa
