/-
  ARGUMENTS: slices of int.
-/
import Derived.Test.YtefagdbdimpcdaaEInt
import Derived.Test.YtefagdbdimpcdaaMore
import Derived.Test.YtefagdbdimpcdaaRow
import Derived.Deep.Slices
import Derived.Carry
import Derived.Lib.Hide
import Derived.Outline
set_option linter.unusedVariables false
set_option linter.unusedSimpArgs false
namespace Go.Proofs.Ytefagdbdimpcdaa
open Go Go.RowKit
namespace EInt

/-- In the bounds of its type. -/
def Rng (x : Int) : Prop := (-9223372036854775808 ≤ x ∧ x ≤ 9223372036854775807)
/-- A's cells, as far as there are any. -/
def Cov (w : World) (A : Option Addr) (us : List Value) : Prop := 0 < us.length → ∃ b off, A = some ⟨b, off, none⟩ ∧ ∀ (j : Nat) (u : Value), us[j]? = some u → w.cell? ⟨b, off + j, none⟩ = some u
theorem Cov.new_ {w w1 : World} {A : Option Addr} {us : List Value} (h : Cov w A us) (n : Below w.heap.size w w1) : Cov w1 A us := fun h0 => by
  obtain ⟨b, off, ha, hc⟩ := h h0
  exact ⟨b, off, ha, fun j u hj => (n.cell (World.block_lt_of_cell? w _ (hc j u hj))).trans (hc j u hj)⟩
theorem Cov.take {w : World} {A : Option Addr} {us : List Value} (h : Cov w A us) (k : Nat) : Cov w A (us.take k) := fun h0 => by
  obtain ⟨b, off, ha, hc⟩ := h (by rw [List.length_take] at h0; omega)
  refine ⟨b, off, ha, fun j u hj => ?_⟩
  rw [List.getElem?_take] at hj
  split at hj
  · exact hc j u hj
  · cases hj
theorem Cov.reads {w : World} {A : Option Addr} {us : List Value} {n c : Nat} (h : Cov w A us) (h0 : 0 < us.length) (hn : n ≤ c) : Reads w (.slice A n c) n us := by
  obtain ⟨b, off, rfl, hc⟩ := h h0
  exact .inr ⟨b, off, c, rfl, hn, hc⟩
/-- A slice that came in. -/
def In (w : World) (v : Value) (xs : List Int) : Prop :=
  ∃ (A : Option Addr) (cap : Nat), v = .slice A xs.length cap ∧ xs.length ≤ cap ∧ cap ≤ maxLen ∧ Cov w A (css xs)
theorem In.new_ {w w1 : World} {v : Value} {xs : List Int} (h : In w v xs) (n : Below w.heap.size w w1) : In w1 v xs := by
  obtain ⟨A, cap, hv, h1, h2, hr⟩ := h
  exact ⟨A, cap, hv, h1, h2, hr.new_ n⟩
theorem Cov.at {w : World} {A : Option Addr} {xs : List Int} (h : Cov w A (css xs)) (k : Nat) (x : Int) (hx : xs[k]? = some x) : ∃ b off, A = some ⟨b, off, none⟩ ∧ w.cell? ⟨b, off + k, none⟩ = some (.int .i64 x) := by
  have hlt := (List.getElem?_eq_some_iff.1 hx).1
  obtain ⟨g, off, rfl, hc⟩ := h (by rw [css_length]; omega)
  have e0 := hc (k * 1 + 0) _ (css_at xs k x hx 0 _ rfl (by omega))
  simp only [Nat.add_zero, Nat.mul_one, ← Nat.add_assoc] at e0
  exact ⟨g, off, rfl, e0⟩

set_option maxRecDepth 100000 in
open Go.ChangeShapes Go.WideShapes in
theorem in_of_trodR {H : Type} {enc : TypeId × Value → H} {w : World} {v : Value} {d : DataW H} {ps : List MemPlace} {r : Reach} {b0 : Nat} (hval : Value.okWide Try.prog w r b0 38 v)
    (h : DataW.Trod enc Try.prog w 0 (fun _ => true) true 38 v d ps) : ∃ xs, In w v xs ∧ ∀ x ∈ xs, Rng x := by
  obtain ⟨a0, len0, cap0, rfl⟩ := okWide_slice Try.underlying38 hval
  obtain ⟨fuel, hf⟩ := h
  have hcs : (Value.slice a0 len0 cap0).cells.toList = [.slice a0 len0 cap0] := rfl
  rw [hcs] at hf
  rcases open_ints Try.underlying38 Try.underlying3 (by kernel_rfl) hf with ⟨hc, -⟩ | ⟨a, len, cap, zs, hc, -, hl, hm, hmm, -, hx, hwf⟩
  · have : Value.slice a0 len0 cap0 = .slice none 0 0 := by simpa using hc
    rw [this]
    exact ⟨[], ⟨none, 0, rfl, Nat.le_refl _, Nat.zero_le _, fun h => by simp [css] at h⟩, fun _ h => by cases h⟩
  · have : Value.slice a0 len0 cap0 = .slice (some a) len cap := by simpa using hc
    rw [this]
    have each : ∀ i, i < len → ∃ x : Int, Rng x ∧ ∃ b off, a = ⟨b, off, none⟩ ∧ ∀ (j : Nat) (u : Value), (cs x)[j]? = some u → w.cell? ⟨b, off + i * 1 + j, none⟩ = some u := by
      intro i hi
      have hlm : len ≤ zs.length := by rw [hmm]; split <;> omega
      have h1 := hx i (by omega)
      obtain ⟨b, off, spot⟩ := a
      have hsp : spot = none := by
        have := hx 0 (by omega)
        simpa [Addr.add] using World.cell?_spot this
      subst hsp
      rw [Addr.add_lit] at h1
      refine ⟨zs.getD i 0, wf_i64 (hwf _ (by rw [List.getD_eq_getElem?_getD, List.getElem?_eq_getElem (by omega)]; exact List.getElem_mem _)), b, off, rfl, fun j u hj => ?_⟩
      match j, hj with
      | 0, hj => obtain rfl := Option.some.inj hj; rw [Nat.mul_one, Nat.add_zero]; exact h1
      | j + 1, hj => simp [cs] at hj
    rcases Nat.eq_zero_or_pos len with h0 | h0
    · subst h0
      exact ⟨[], ⟨_, cap, rfl, Nat.zero_le _, hm, fun h => by simp [css] at h⟩, fun _ h => by cases h⟩
    · haveI : Inhabited Int := ⟨(0 : Int)⟩
      obtain ⟨f, hf2⟩ := Go.Deep.choose_lt each
      obtain ⟨-, b, off, rfl, -⟩ := hf2 0 h0
      refine ⟨(List.range len).map f, ⟨some ⟨b, off, none⟩, cap, by simp, by simpa using hl, hm, fun _ => ⟨b, off, rfl, fun j u hj => ?_⟩⟩, fun x hx => by
        obtain ⟨i, hi, rfl⟩ := List.mem_map.1 hx
        exact (hf2 i (List.mem_range.1 hi)).1⟩
      have hj1 : j < len * 1 := by
        have := (List.getElem?_eq_some_iff.1 hj).1
        rw [css_length] at this
        simpa using this
      have hjd : j / 1 < len := by omega
      obtain ⟨-, b', off', hb, hc'⟩ := hf2 (j / 1) hjd
      simp only [Addr.mk.injEq, and_true] at hb
      obtain ⟨rfl, rfl⟩ := hb
      have hlx : j % 1 < (cs (f (j / 1))).length := by rw [cs_length]; omega
      have e1 := css_at ((List.range len).map f) (j / 1) (f (j / 1)) (by rw [List.getElem?_map, List.getElem?_range hjd]; rfl) (j % 1) _ (List.getElem?_eq_getElem hlx) (by omega)
      rw [show j / 1 * 1 + j % 1 = j by omega] at e1
      rw [e1] at hj
      have := hc' (j % 1) u (by rw [List.getElem?_eq_getElem hlx]; exact hj)
      rwa [Nat.add_assoc, show j / 1 * 1 + j % 1 = j by omega] at this
set_option maxRecDepth 100000 in
open Go.ChangeShapes Go.WideShapes in
theorem in_of_trod {H : Type} {enc : TypeId × Value → H} {w : World} {v : Value} {d : DataW H} {ps : List MemPlace} {r : Reach} {b0 : Nat} (hval : Value.okWide Try.prog w r b0 38 v)
    (h : DataW.Trod enc Try.prog w 0 (fun _ => true) true 38 v d ps) : ∃ xs, In w v xs := by
  obtain ⟨xs, h, -⟩ := in_of_trodR hval h
  exact ⟨xs, h⟩

end EInt
end Go.Proofs.Ytefagdbdimpcdaa
