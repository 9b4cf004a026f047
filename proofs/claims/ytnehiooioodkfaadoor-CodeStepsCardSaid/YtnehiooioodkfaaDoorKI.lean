/-
  CODE: Count, Steps.
-/
import Derived.Test.YtnehiooioodkfaaDoorKH
set_option linter.unusedVariables false
set_option linter.unusedSimpArgs false
namespace Go.Proofs.YtnehiooioodkfaaDoor
open Go Go.RowKit
namespace CD
/-- The ends are told apart, and well nested: what a right program is. -/
def Nested (xs : List Op4) : Prop := NS xs (endsB xs) (xs.length + 1) 0 xs.length = true ∧ (endsB xs).length = xs.length ∧ ∀ o ∈ xs, o.n ≤ 1000000
/-- What Count answers, what Steps answers. -/
def countB (xs : List Op4) : Int × Int := if (checkB xs).2 = 0 then walkN xs else (0, (checkB xs).2)
def listB (xs : List Op4) : List Op4 × Int := if (countB xs).2 = 0 then (walkT xs, 0) else ([], (countB xs).2)
set_option maxRecDepth 100000 in
set_option maxHeartbeats 1000000 in
theorem walk_no (w : World) (v tv : Value) (xs : List Op4) (h : Rd4 w v xs) (hn : xs.length ≤ 1000000) (hck : (checkB xs).2 ≠ 0) :
    Calls Tryd.prog 41 #[v, tv] w fun e w' => e = .returned (.tuple #[.int .i64 0, .int .i64 (checkB xs).2]) ∧ Below w.heap.size w w' := by
  have hcheck := check w v xs h hn
  have hb : ((checkB xs).2 != 0) = true := by simp [hck]
  clear h hck
  go_enter Tryd.func41, Tryd.ntmps41
  go_wp2_with fail
  refine hcheck.mono ?_
  rintro e w1 ⟨rfl, bd⟩
  go_wp2
  go_ret2
  exact ⟨rfl, bd⟩
set_option maxRecDepth 100000 in
set_option maxHeartbeats 1000000 in
theorem count (w : World) (v : Value) (xs : List Op4) (h : Rd4 w v xs) (hn : xs.length ≤ 1000000) (hne : (checkB xs).2 = 0 → Nested xs) :
    Calls Tryd.prog 16 #[v] w fun e w' => e = .returned (.tuple #[.int .i64 (countB xs).1, .int .i64 (countB xs).2]) ∧ Below w.heap.size w w' := by
  by_cases hck : (checkB xs).2 = 0
  · obtain ⟨h1, h2, h3⟩ := hne hck
    have hw := walk_nil w w ow0 v xs none h hn h3 hck h1 h2 (fun l hl => by cases hl) (Turn.refl _ _ _) rfl
    have hc : countB xs = walkN xs := by unfold countB; rw [if_pos hck]
    rw [hc]
    clear h1 h2 h3 h hne hc
    go_enter Tryd.func16, Tryd.ntmps16
    go_wp2_with fail
    refine hw.mono ?_
    rintro e w1 ⟨OW, rfl, -, t⟩
    have bd := (t.new_ ow0 [1]).below
    clear t
    go_wp2
    go_ret2
    exact ⟨rfl, bd⟩
  · have hw := walk_no w v .nilFunc xs h hn hck
    have hc : countB xs = (0, (checkB xs).2) := by unfold countB; rw [if_neg hck]
    rw [hc]
    clear h hne hc
    go_enter Tryd.func16, Tryd.ntmps16
    go_wp2_with fail
    refine hw.mono ?_
    rintro e w1 ⟨rfl, bd⟩
    go_wp2
    go_ret2
    exact ⟨rfl, bd⟩
theorem walkN_ok {xs : List Op4} (h : (walkN xs).2 = 0) : ∃ m : Nat, (walkN xs).1 = (m : Int) ∧ m ≤ 4096 := by
  have hl := runG_len (segE xs (endsB xs) (xs.length + 1) 0 xs.length) 0 (by omega)
  change 0 + (allE xs).1.length ≤ 4096 at hl
  unfold walkN at h ⊢
  split at h
  · rename_i h1
    rw [if_pos h1]
    split at h
    · cases h
    · rename_i h2
      rw [if_neg h2]
      exact ⟨(allE xs).1.length + 1, rfl, by omega⟩
  · rename_i h1
    rw [if_neg h1]
    split at h
    · cases h
    · rename_i h2
      rw [if_neg h2]
      exact ⟨(allE xs).1.length, rfl, by omega⟩
/-- What Steps leaves. -/
def StepsP (w : World) (xs : List Op4) (e : Ending) (w' : World) : Prop :=
  ∃ (OW : Ow) (v : Value), e = .returned (.tuple #[v, .int .i64 (listB xs).2]) ∧ Row w' OW [1, 2, 1, 1] 32 4 v (listB xs).1.length (EOq.css (listB xs).1) ∧ Turn [1] w ow0 w' OW
set_option maxRecDepth 100000 in
set_option maxHeartbeats 2000000 in
theorem steps (w : World) (v : Value) (xs : List Op4) (h : Rd4 w v xs) (hn : xs.length ≤ 1000000) (hne : (checkB xs).2 = 0 → Nested xs) :
    Calls Tryd.prog 19 #[v] w (StepsP w xs) := by
  unfold StepsP
  have hcount := count w v xs h hn hne
  by_cases hc : (countB xs).2 = 0
  rotate_left
  · have hl : listB xs = ([], (countB xs).2) := by unfold listB; rw [if_neg hc]
    rw [hl]
    have hb : ((countB xs).2 != 0) = true := by simp [hc]
    clear h hne hl
    as_aux_lemma =>
    go_enter Tryd.func19, Tryd.ntmps19
    go_wp2_with fail
    refine hcount.mono ?_
    rintro e w1 ⟨rfl, bd⟩
    go_wp2
    go_ret2
    exact ⟨ow0, _, rfl, Row.nil _ _ _ _ _, (bd.nw ow0).turn [1]⟩
  · have hck : (checkB xs).2 = 0 := by
      unfold countB at hc
      by_cases h0 : (checkB xs).2 = 0
      · exact h0
      · rw [if_neg h0] at hc; exact hc
    obtain ⟨h1, h2, h3⟩ := hne hck
    have hcw : countB xs = walkN xs := by unfold countB; rw [if_pos hck]
    have hl : listB xs = (walkT xs, 0) := by unfold listB; rw [if_pos hc]
    rw [hl]
    rw [hcw] at hcount hc
    obtain ⟨m, hm, hm4⟩ := walkN_ok hc
    rw [hc, hm] at hcount
    have hwk := fun (w1 : World) (ow : Ow) (G : Nat) (hT : Turn [1] w ow0 w1 ow) (hTL : TLc w1 ow G []) => walk_fn w w1 ow v xs G (some []) h hn h3 hck h1 h2 (fun l hl => by cases hl; exact Nat.le_refl _) hT ⟨G, rfl, hTL⟩
    have HWK := Lib.hid hwk
    clear hwk h hne hl h1 h2 h3
    go_enter Tryd.func19, Tryd.ntmps19
    go_wp2_with fail
    refine hcount.mono ?_
    rintro e w1 ⟨rfl, bd⟩
    have n1 := bd.nw ow0
    have t1 := n1.turn [1]
    clear n1 bd hcount
    go_wp2_with (at_make; refine wpList_make_row [1, 2, 1, 1] ow0 rfl _ _ 22 rfl 32 _ 4 32 Tryd.underlying22 EOq.info rfl _ _ _ _ 0 m rfl rfl rfl rfl (by omega) (by omega) (by unfold maxLen; omega) ?_)
    intro lv w2 ow2 hlv n2
    have hlv0 : Row w2 ow2 [1, 2, 1, 1] 32 4 lv 0 (EOq.css []) := by simpa [madeCells, EOq.css_nil] using hlv
    obtain ⟨A, c, rfl, -⟩ := hlv0.slice
    obtain ⟨ow3, hX, n3, -⟩ := SH.add_cells w2 ow2 [1, 2, 1, 0] [.slice A 0 c] 22
    have t3 := t1.trans ((n2.turn [1]).trans (n3.turn [1]))
    have hTL : TLc (w2.alloc (.cells #[.slice A 0 c] 22)) ow3 w2.heap.size [] := ⟨_, hX, hlv0.new_ n3⟩
    have HWK2 := Lib.hid (HWK.out _ ow3 w2.heap.size t3 hTL)
    have HT3 := Lib.hid t3
    clear HWK hX n3 n2 hlv hlv0 t1 t3 hTL
    go_wp2_with fail
    refine HWK2.out.mono ?_
    rintro e w4 ⟨OW4, rfl, hT4, t4⟩
    obtain ⟨G', hG, vs, hc4, hr4⟩ := hT4
    simp only [Value.func.injEq, true_and] at hG
    have hG2 : w2.heap.size = G' := by simpa using hG
    subst hG2
    have c0 := hc4.get0
    have t5 := HT3.out.trans t4
    have hfin : Row w4 OW4 [1, 2, 1, 1] 32 4 vs (walkT xs).length (EOq.css (walkT xs)) := by simpa using hr4
    have HF := Lib.hid (And.intro hfin t5)
    clear hG HWK2 HT3 hr4 hc4 t4 t5 hfin
    go_wp2
    go_ret2
    exact ⟨OW4, _, rfl, HF.out.1, HF.out.2⟩
end CD
end Go.Proofs.YtnehiooioodkfaaDoor
