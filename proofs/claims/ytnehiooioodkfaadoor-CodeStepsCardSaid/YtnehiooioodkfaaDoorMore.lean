/-
  MORE: parts of slices, read.
-/
import Derived.Test.YtnehiooioodkfaaDoorIter
set_option linter.unusedVariables false
set_option linter.unusedSimpArgs false
namespace Go.Proofs.YtnehiooioodkfaaDoor
open Go Go.RowKit

theorem Row.readsTo {w : World} {ow : Ow} {p : List Nat} {T sz n c : Nat} {A : Option Addr} {cs : List Value} (h : Row w ow p T sz (.slice A n c) n cs) (k : Nat) (hk : k ≤ n) : Reads w (.slice A k c) k (cs.take (k * sz)) := by
  rcases h.2 with ⟨hv, h0⟩ | ⟨g, off, cap, c', hv, hg, ho, hn, hm, hs, hc⟩
  · simp only [Value.slice.injEq] at hv
    obtain ⟨rfl, -, rfl⟩ := hv
    have hk0 : k = 0 := by omega
    subst hk0
    exact .inl ⟨rfl, rfl, by simp⟩
  · simp only [Value.slice.injEq] at hv
    obtain ⟨rfl, -, rfl⟩ := hv
    refine .inr ⟨g, off, c, rfl, by omega, fun j u hj => ?_⟩
    rw [List.getElem?_take] at hj
    split at hj
    · simp [World.cell?, hg, hc j u hj]
    · cases hj

theorem Row.cut {w : World} {ow : Ow} {p : List Nat} {T sz n c : Nat} {A : Option Addr} {cs : List Value} (h : Row w ow p T sz (.slice A n c) n cs) (k : Nat) (hk : k ≤ n) : Row w ow p T sz (.slice A k c) k (cs.take (k * sz)) := by
  refine ⟨by rw [List.length_take, h.1]; have := Nat.mul_le_mul_right sz hk; omega, ?_⟩
  rcases h.2 with ⟨hv, h0⟩ | ⟨g, off, cap, c', hv, hg, ho, hn, hm, hs, hc⟩
  · simp only [Value.slice.injEq] at hv
    obtain ⟨rfl, -, rfl⟩ := hv
    have hk0 : k = 0 := by omega
    subst hk0
    exact .inl ⟨rfl, rfl⟩
  · simp only [Value.slice.injEq] at hv
    obtain ⟨rfl, -, rfl⟩ := hv
    refine .inr ⟨g, off, c, c', rfl, hg, ho, by omega, hm, hs, fun j u hj => ?_⟩
    rw [List.getElem?_take] at hj
    split at hj
    · exact hc j u hj
    · cases hj
/-- What lies behind the first k, wherever it stands. -/
theorem Row.readsFrom_ {w : World} {ow : Ow} {p : List Nat} {T sz n b off cap : Nat} {cs : List Value} (h : Row w ow p T sz (.slice (some ⟨b, off, none⟩) n cap) n cs) (k : Nat) (hk : k ≤ n) :
    ∃ A, (if cap = k then some (⟨b, off, none⟩ : Addr) else some ⟨b, off + k * sz, none⟩) = A ∧ Reads w (.slice A (n - k) (cap - k)) (n - k) (cs.drop (k * sz)) := ⟨_, rfl, h.readsFrom k hk⟩

/-- A new block without cells, as a slice. -/
theorem Row.new0 (w : World) (ow : Ow) (q : List Nat) (T sz : Nat) : Row (w.alloc (.cells #[] T)) (ow.set w.heap.size q) q T sz (.slice (some ⟨w.heap.size, 0, none⟩) 0 0) 0 [] :=
  Row.new w ow q T sz 0 0 #[] [] (by simp) (Nat.le_refl _) (Nat.zero_le _) (by simp) fun j u hj => by simp at hj

end Go.Proofs.YtnehiooioodkfaaDoor
