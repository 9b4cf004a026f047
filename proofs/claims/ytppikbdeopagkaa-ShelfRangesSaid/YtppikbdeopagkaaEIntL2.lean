/-
  SHELF.LEVELS of int: NewLevels.
-/
import Derived.Test.YtppikbdeopagkaaEIntL
set_option linter.unusedVariables false
set_option linter.unusedSimpArgs false
namespace Go.Proofs.Ytppikbdeopagkaa
open Go Go.RowKit
namespace EInt

theorem infoQ : (Try.prog.info? 74).map (fun i => (i.zero, i.size, i.bytes)) = some (some (.agg #[.slice none 0 0, .int .i64 0]), 2, 32) := by kernel_rfl

set_option maxHeartbeats 400000 in
theorem l_new_out (w : World) (n : Int) (hn : n < 1 ∨ 32 < n) :
    Calls Try.prog 24 #[.int .i64 n] w fun e w' => e = .returned (.tuple #[.pointer none, .int .i64 1]) ∧ ∃ k, w' = w.drewN k := by
  go_enter Try.func24, Try.ntmps24
  by_cases h1 : n < 1
  · go_wp2
    go_ret2
    exact ⟨rfl, 0, rfl⟩
  · have h2 : 32 < n := by omega
    go_wp2
    go_ret2
    exact ⟨rfl, 0, rfl⟩

def MadeL (w : World) (ow : Ow) (q : List Nat) (n : Nat) (e : Ending) (w' : World) : Prop :=
  ∃ (g : Nat) (ow' : Ow), e = .returned (.tuple #[.pointer (some ⟨g, 0, none⟩), .int .i64 0]) ∧ L w' ow' q g 0 (List.replicate n []) ∧ New w ow w' ow' ∧ w.heap.size ≤ g

set_option maxHeartbeats 400000 in
theorem l_new (w : World) (ow : Ow) (q : List Nat) (n : Nat) (h1 : 1 ≤ n) (h2 : n ≤ 32) :
    Calls Try.prog 24 #[.int .i64 (n : Int)] w (MadeL w ow q n) := by
  have b1 : ¬ (n : Int) < 1 := by omega
  have b2 : ¬ (32 : Int) < n := by omega
  go_enter Try.func24, Try.ntmps24
  go_wp2_with (at_make; refine wpList_make_raw rfl _ _ 131 rfl 74 _ 2 32 Try.underlying131 infoQ _ _ _ _ n n rfl rfl rfl rfl (Nat.le_refl _) (by omega) (by unfold maxLen; omega) ?_)
  go_ret2
  have hn1 := (New.refl w ow).allocF (.cells (madeCells #[.slice none 0 0, .int .i64 0] (n * 2)) 74) (fun o => q ++ [1, o / 2, 0])
  refine ⟨w.heap.size + 1, _, rfl, ⟨w.heap.size, 0, n, ?_, fun i xs hi => ?_⟩, hn1.alloc _ (q ++ [0]), Nat.le_succ _⟩
  · rw [List.length_replicate]
    have := Cells.new (w.alloc (.cells (madeCells #[.slice none 0 0, .int .i64 0] (n * 2)) 74)) (ow.setF w.heap.size (fun o => q ++ [1, o / 2, 0])) (q ++ [0]) [.slice (some ⟨w.heap.size, 0, none⟩) n n] 133
    simpa using this
  · have hlt : i < n := by have := (List.getElem?_eq_some_iff.1 hi).1; simpa using this
    have hx : xs = [] := by simpa [hlt] using hi.symm
    subst hx
    refine Q.new_ (w := w.alloc (.cells (madeCells #[.slice none 0 0, .int .i64 0] (n * 2)) 74)) (ow := ow.setF w.heap.size (fun o => q ++ [1, o / 2, 0])) ?_ ((New.refl _ _).alloc _ _)
    refine ⟨.slice none 0 0, [], 0, ?_, Row.nil _ _ _ _ _, Nat.le_refl _, rfl⟩
    refine Cells.newF w ow _ _ _ _ _ _ fun j u hj => ?_
    cases j with
    | zero =>
      have : u = .slice none 0 0 := by simpa using hj.symm
      subst this
      refine ⟨?_, ?_⟩
      · rw [madeCells_at _ _ _ (by omega)]
        simp [show (0 + i * 2 + 0) % 2 = 0 by omega]
      · show q ++ [1, (0 + i * 2 + 0) / 2, 0] = q ++ [1, i] ++ [0]
        rw [show (0 + i * 2 + 0) / 2 = i by omega]; simp
    | succ j =>
      cases j with
      | succ j => simp at hj
      | zero =>
        have : u = .int .i64 0 := by simpa using hj.symm
        subst this
        refine ⟨?_, ?_⟩
        · rw [madeCells_at _ _ _ (by omega)]
          simp [show (0 + i * 2 + (0 + 1)) % 2 = 1 by omega]
        · show q ++ [1, (0 + i * 2 + (0 + 1)) / 2, 0] = q ++ [1, i] ++ [0]
          rw [show (0 + i * 2 + (0 + 1)) / 2 = i by omega]; simp

end EInt
end Go.Proofs.Ytppikbdeopagkaa
