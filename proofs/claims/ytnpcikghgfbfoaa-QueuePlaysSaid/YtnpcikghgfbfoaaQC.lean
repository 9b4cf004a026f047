/-
  QUEUE: the contracts of the package queue, of a queue that is the list of those that wait.
-/
import Derived.Test.YtnpcikghgfbfoaaQA
namespace Go.Proofs.Ytnpcikghgfbfoaa
open Go Go.RowKit
namespace EQ
open EWt

/-- A queue in memory: those that wait, in the order of their Puts. -/
def QA (w : World) (ow : Ow) (p : List Nat) (g : Nat) (l : List Wt) : Prop := Good l ∧ QQ w ow p g (qsOf l) (actOf l)
section
variable {w w1 : World} {ow ow1 : Ow} {p q : List Nat} {g : Nat} {l : List Wt}
theorem QA.keep (h : QA w ow p g l) (t : Turn q w ow w1 ow1) (hq : ∀ s, ¬ q <+: p ++ s) : QA w1 ow1 p g l := ⟨h.1, h.2.keep t hq⟩
theorem QA.new_ (h : QA w ow p g l) (n : New w ow w1 ow1) : QA w1 ow1 p g l := ⟨h.1, h.2.new_ n⟩
theorem QA.total (h : QA w ow p g l) : total (qsOf l) ≤ 512 := by rw [total_qsOf l h.1]; exact h.1.length
theorem QA.small (h : QA w ow p g l) : ∀ xs ∈ qsOf l, xs.length ≤ 1099511627776 := fun xs hx => by have := total_mem _ _ hx; have := h.total; omega
end


def MadeA (w : World) (ow : Ow) (q : List Nat) (e : Ending) (w' : World) : Prop :=
  ∃ (g : Nat) (ow' : Ow), e = .returned (.pointer (some ⟨g, 0, none⟩)) ∧ QA w' ow' q g [] ∧ New w ow w' ow' ∧ w.heap.size ≤ g
theorem newA (w : World) (ow : Ow) (q : List Nat) : Calls Try.prog 7 #[] w (MadeA w ow q) :=
  (new w ow q).mono fun _ _ ⟨g, ow', he, hq, hn, hg⟩ => ⟨g, ow', he, ⟨Good.nil, hq⟩, hn, hg⟩

/-- What a call that may turn the queue leaves. -/
def Left_ (w : World) (ow : Ow) (p : List Nat) (g : Nat) (v : Value) (l : List Wt) (e : Ending) (w' : World) : Prop :=
  ∃ ow', e = .returned v ∧ QA w' ow' p g l ∧ Turn p w ow w' ow'
/-- What a call that only asks leaves. -/
def Asked (w : World) (v : Value) (e : Ending) (w' : World) : Prop := e = .returned v ∧ Below w.heap.size w w'

theorem drewN_below (w : World) (k : Nat) : Below w.heap.size w (w.drewN k) := bdN (Below.refl _ _) k

theorem putQ (w : World) (ow : Ow) (p : List Nat) (g : Nat) (l : List Wt) (h : QA w ow p g l) (t lv j : Int) :
    Calls Try.prog 8 #[.pointer (some ⟨g, 0, none⟩), .int .i64 t, .int .i64 lv, .int .i64 j] w (Left_ w ow p g (.int .i64 (putA l t lv j).1) (putA l t lv j).2) := by
  unfold putA
  by_cases h1 : t < 0 ∨ 64 ≤ t ∨ lv < 1 ∨ 32 < lv ∨ j < 0
  · rw [if_pos h1]
    exact (put_out w g t lv j h1).mono fun e w' ⟨he, k, hk⟩ => ⟨ow, he, h.new_ ((hk ▸ drewN_below w k).nw ow), ((hk ▸ drewN_below w k).nw ow).turn p⟩
  · rw [if_neg h1]
    obtain ⟨n, rfl⟩ : ∃ n : Nat, t = n := ⟨t.toNat, by omega⟩
    have hn : n < 64 := by omega
    have ha := actOf_get l n hn
    by_cases h2 : 8 ≤ cnt l n
    · rw [if_pos h2]
      exact (put_many w ow p g _ _ h.2 n lv j _ ha (by omega) (by omega) (by omega) (by omega)).mono fun e w' ⟨he, k, hk⟩ => ⟨ow, he, h.new_ ((hk ▸ drewN_below w k).nw ow), ((hk ▸ drewN_below w k).nw ow).turn p⟩
    · rw [if_neg h2]
      obtain ⟨i, rfl⟩ : ∃ i : Nat, lv = (i : Int) + 1 := ⟨(lv - 1).toNat, by omega⟩
      have hi : i < 32 := by omega
      have hlev : (lev l i).length ≤ 1099511627776 := by have := h.small _ (List.mem_of_getElem? (qsOf_get l i hi)); exact this
      refine (put w ow p g _ _ h.2 n _ ha (by omega) (by omega) i _ (qsOf_get l i hi) (qsOf_length l) hlev j (by omega)).mono fun e w' ⟨ow', he, hq, ht⟩ => ⟨ow', he, ⟨?_, ?_⟩, ht⟩
      · exact h.1.put _ ⟨by simp only; omega, by simp only; omega⟩ ⟨by simp only; omega, by simp only; omega⟩ (by simp only; omega)
      · have e1 : qsOf (l ++ [⟨j, n, (i : Int) + 1⟩]) = (qsOf l).set i (lev l i ++ [⟨j, n, (i : Int) + 1⟩]) := by
          have := qsOf_set l (l ++ [⟨j, n, (i : Int) + 1⟩]) i hi fun m _ hm => by rw [lev_append, lev_one, if_neg (by simp only; omega), List.append_nil]
          rw [this, lev_append, lev_one, if_pos rfl]
        have e2 : actOf (l ++ [⟨j, n, (i : Int) + 1⟩]) = (actOf l).set n ((cnt l (n : Int) : Int) + 1) := by
          have := actOf_set l (l ++ [⟨j, n, (i : Int) + 1⟩]) n hn fun m _ hm => by rw [cnt_append, cnt_one, if_neg (by simp only; omega), Nat.add_zero]
          rw [this, cnt_append, cnt_one, if_pos rfl]; rfl
        rw [e1, e2]
        exact hq

theorem nextQ (w : World) (ow : Ow) (p : List Nat) (g : Nat) (l : List Wt) (h : QA w ow p g l) :
    Calls Try.prog 9 #[.pointer (some ⟨g, 0, none⟩)] w (Asked w (firstV l)) := by
  cases hf : first l with
  | none =>
    have hl := first_none l hf
    subst hl
    exact (next_none w ow p g _ _ h.2 h.small (by rw [qsOf_length]; omega) (by rw [qsOf_length]; rfl)).mono fun e w' he => he
  | some k =>
    obtain ⟨x, i, t, hx, hi, ht, h1, h2, h3, h4, h5, h6, h7⟩ := first_some l h.1 k hf
    have : firstV l = .tuple #[wt x, .bool true] := by simp [firstV, hf, hx]
    rw [this]
    exact next_some w ow p g _ _ h.2 h.small (by rw [qsOf_length]; omega) i x _ (by rw [qsOf_length]; exact h3) h4

theorem takeQ (w : World) (ow : Ow) (p : List Nat) (g : Nat) (l : List Wt) (h : QA w ow p g l) :
    Calls Try.prog 12 #[.pointer (some ⟨g, 0, none⟩)] w (Left_ w ow p g (firstV l) (takeL l)) := by
  cases hf : first l with
  | none =>
    have hl := first_none l hf
    subst hl
    exact (take_none w ow p g _ _ h.2 h.small (by rw [qsOf_length]; omega) (by rw [qsOf_length]; rfl)).mono fun e w' ⟨he, hb⟩ => ⟨ow, he, h.new_ (hb.nw ow), (hb.nw ow).turn p⟩
  | some k =>
    obtain ⟨x, i, t, hx, hi, ht, h1, h2, h3, h4, h5, h6, h7⟩ := first_some l h.1 k hf
    have e1 : firstV l = .tuple #[wt x, .bool true] := by simp [firstV, hf, hx]
    have e2 : takeL l = l.eraseIdx k := by simp [takeL, hf]
    rw [e1, e2]
    refine (take_some w ow p g _ _ h.2 h.small (by rw [qsOf_length]; omega) i x _ (by rw [qsOf_length]; exact h3) h4 t h2 _ (actOf_get l t ht) (by omega) (by have := h.1.few t; omega)).mono fun e w' ⟨ow', he, hq, htn⟩ => ⟨ow', he, ⟨h7, ?_⟩, htn⟩
    rw [h5, h6]
    exact hq

theorem lenQ (w : World) (ow : Ow) (p : List Nat) (g : Nat) (l : List Wt) (h : QA w ow p g l) :
    Calls Try.prog 13 #[.pointer (some ⟨g, 0, none⟩)] w (Asked w (.int .i64 (l.length : Int))) := by
  have := l_len w ow (p ++ [0]) g 0 (qsOf l) h.2.1 h.small (by rw [qsOf_length]; omega) (fun m => by have := total_take_le (qsOf l) m; have := h.total; omega)
  rw [total_qsOf l h.1] at this
  exact this.mono fun e w' ⟨he, k, hk⟩ => ⟨he, hk ▸ drewN_below w k⟩

theorem activeQ (w : World) (ow : Ow) (p : List Nat) (g : Nat) (l : List Wt) (h : QA w ow p g l) (t : Int) :
    Calls Try.prog 11 #[.pointer (some ⟨g, 0, none⟩), .int .i64 t] w (Asked w (.int .i64 (cnt l t : Int))) := by
  by_cases h1 : t < 0 ∨ 64 ≤ t
  · have h0 : cnt l t = 0 := by
      rw [cnt, List.length_eq_zero_iff, List.filter_eq_nil_iff]
      intro x hx
      have := h.1.task x hx
      simp only [decide_eq_true_eq]; omega
    rw [h0]
    exact (active_out w ow p g [] [] t h1).mono fun e w' ⟨he, k, hk⟩ => ⟨he, hk ▸ drewN_below w k⟩
  · obtain ⟨n, rfl⟩ : ∃ n : Nat, t = n := ⟨t.toNat, by omega⟩
    have := h.1.few n
    exact (active_in w ow p g _ _ h.2 n _ (actOf_get l n (by omega)) (by omega)).mono fun e w' ⟨he, k, hk⟩ => ⟨he, hk ▸ drewN_below w k⟩

theorem listQ (w : World) (ow : Ow) (p q : List Nat) (g : Nat) (l : List Wt) (h : QA w ow p g l) :
    Calls Try.prog 10 #[.pointer (some ⟨g, 0, none⟩)] w (MadeS w ow q (listA l)) := by
  have := list w ow p q g _ _ h.2 (by have := h.total; omega) (by rw [qsOf_length]; omega)
  rwa [ls_qsOf] at this

theorem levelQ (w : World) (ow : Ow) (p q : List Nat) (g : Nat) (l : List Wt) (h : QA w ow p g l) (lv : Int) :
    Calls Try.prog 20 #[.pointer (some ⟨g, 0, none⟩), .int .i64 lv] w (MadeS w ow q (levelA l lv)) := by
  have := level w ow p q g _ _ lv h.2 (by have := h.total; omega) (by rw [qsOf_length]; omega)
  rwa [lvl_qsOf l h.1] at this

end EQ
end Go.Proofs.Ytnpcikghgfbfoaa
