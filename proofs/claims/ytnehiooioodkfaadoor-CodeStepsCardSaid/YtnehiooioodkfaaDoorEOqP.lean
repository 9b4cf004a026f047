/-
  ARGUMENTS: slices of api.Op.
-/
import Derived.Test.YtnehiooioodkfaaDoorEOq
import Derived.Test.YtnehiooioodkfaaDoorMore
import Derived.Test.YtnehiooioodkfaaDoorRow
import Derived.Deep.Slices
import Derived.Carry
import Derived.Lib.Hide
import Derived.Outline
set_option linter.unusedVariables false
set_option linter.unusedSimpArgs false
namespace Go.Proofs.YtnehiooioodkfaaDoor
open Go Go.RowKit
namespace EOq

/-- In the bounds of its type. -/
def Rng (x : Op4) : Prop := (-9223372036854775808 ≤ x.kind ∧ x.kind ≤ 9223372036854775807) ∧ (-9223372036854775808 ≤ x.res ∧ x.res ≤ 9223372036854775807) ∧ (-9223372036854775808 ≤ x.n ∧ x.n ≤ 9223372036854775807) ∧ (-9223372036854775808 ≤ x.v ∧ x.v ≤ 9223372036854775807)
/-- A's cells, as far as there are any. -/
def Cov (w : World) (A : Option Addr) (us : List Value) : Prop := 0 < us.length → ∃ b off, A = some ⟨b, off, none⟩ ∧ ∀ (j : Nat) (u : Value), us[j]? = some u → w.cell? ⟨b, off + j, none⟩ = some u
theorem Cov.new_ {w w1 : World} {A : Option Addr} {us : List Value} (h : Cov w A us) (n : Below w.heap.size w w1) : Cov w1 A us := fun h0 => by
  obtain ⟨b, off, ha, hc⟩ := h h0
  exact ⟨b, off, ha, fun j u hj => (n.cell (World.block_lt_of_cell? w _ (hc j u hj))).trans (hc j u hj)⟩
theorem Cov.take {w : World} {A : Option Addr} {us : List Value} (h : Cov w A us) (k : Nat) : Cov w A (us.take k) := fun h0 => by
  obtain ⟨b, off, ha, hc⟩ := h (by rw [List.length_take] at h0; omega)
  refine ⟨b, off, ha, fun j u hj => ?_⟩
  rw [List.getElem?_take] at hj
  split at hj
  · exact hc j u hj
  · cases hj
theorem Cov.reads {w : World} {A : Option Addr} {us : List Value} {n c : Nat} (h : Cov w A us) (h0 : 0 < us.length) (hn : n ≤ c) : Reads w (.slice A n c) n us := by
  obtain ⟨b, off, rfl, hc⟩ := h h0
  exact .inr ⟨b, off, c, rfl, hn, hc⟩
/-- A slice that came in. -/
def In (w : World) (v : Value) (xs : List Op4) : Prop :=
  ∃ (A : Option Addr) (cap : Nat), v = .slice A xs.length cap ∧ xs.length ≤ cap ∧ cap ≤ maxLen ∧ Cov w A (css xs)
theorem In.new_ {w w1 : World} {v : Value} {xs : List Op4} (h : In w v xs) (n : Below w.heap.size w w1) : In w1 v xs := by
  obtain ⟨A, cap, hv, h1, h2, hr⟩ := h
  exact ⟨A, cap, hv, h1, h2, hr.new_ n⟩
theorem Cov.at {w : World} {A : Option Addr} {xs : List Op4} (h : Cov w A (css xs)) (k : Nat) (x : Op4) (hx : xs[k]? = some x) : ∃ b off, A = some ⟨b, off, none⟩ ∧ w.cell? ⟨b, off + k * 4, none⟩ = some (.int .i64 x.kind) ∧ w.cell? ⟨b, off + k * 4 + 1, none⟩ = some (.int .i64 x.res) ∧ w.cell? ⟨b, off + k * 4 + 2, none⟩ = some (.int .i64 x.n) ∧ w.cell? ⟨b, off + k * 4 + 3, none⟩ = some (.int .i64 x.v) := by
  have hlt := (List.getElem?_eq_some_iff.1 hx).1
  obtain ⟨g, off, rfl, hc⟩ := h (by rw [css_length]; omega)
  have e0 := hc (k * 4 + 0) _ (css_at xs k x hx 0 _ rfl (by omega))
  have e1 := hc (k * 4 + 1) _ (css_at xs k x hx 1 _ rfl (by omega))
  have e2 := hc (k * 4 + 2) _ (css_at xs k x hx 2 _ rfl (by omega))
  have e3 := hc (k * 4 + 3) _ (css_at xs k x hx 3 _ rfl (by omega))
  simp only [Nat.add_zero, Nat.mul_one, ← Nat.add_assoc] at e0 e1 e2 e3
  exact ⟨g, off, rfl, e0, e1, e2, e3⟩

set_option maxRecDepth 100000 in
open Go.ChangeShapes Go.WideShapes in
theorem in_of_trodR {H : Type} {enc : TypeId × Value → H} {w : World} {v : Value} {d : DataW H} {ps : List MemPlace} {r : Reach} {b0 : Nat} (hval : Value.okWide Tryd.prog w r b0 22 v)
    (h : DataW.Trod enc Tryd.prog w 0 (fun _ => true) true 22 v d ps) : ∃ xs, In w v xs ∧ ∀ x ∈ xs, Rng x := by
  obtain ⟨a0, len0, cap0, rfl⟩ := okWide_slice Tryd.underlying22 hval
  obtain ⟨fuel, hf⟩ := h
  have hcs : (Value.slice a0 len0 cap0).cells.toList = [.slice a0 len0 cap0] := rfl
  rw [hcs] at hf
  rcases Go.Deep.open_slice Tryd.underlying22 hf with ⟨hc, -⟩ | ⟨a, len, cap, m, n, D, Pl, hc, -, hl, hm, hmm, -, hx⟩
  · have : Value.slice a0 len0 cap0 = .slice none 0 0 := by simpa using hc
    rw [this]
    exact ⟨[], ⟨none, 0, rfl, Nat.le_refl _, Nat.zero_le _, fun h => by simp [css] at h⟩, fun _ h => by cases h⟩
  · have : Value.slice a0 len0 cap0 = .slice (some a) len cap := by simpa using hc
    rw [this]
    have cO : Tryd.prog.cellsOf 32 = 4 := by kernel_rfl
    have cI : Tryd.prog.cellsOf 3 = 1 := by kernel_rfl
    have each : ∀ i, i < len → ∃ x : Op4, Rng x ∧ ∃ b off, a = ⟨b, off, none⟩ ∧ ∀ (j : Nat) (u : Value), (cs x)[j]? = some u → w.cell? ⟨b, off + i * 4 + j, none⟩ = some u := by
      intro i hi
      have hlm : len ≤ m := by rw [hmm]; split <;> omega
      obtain ⟨cs', h1, h2⟩ := hx i (by omega)
      obtain ⟨cs0, h10, -⟩ := hx 0 (by omega)
      rw [cO] at h1 h10
      obtain ⟨-, hlen, hcell⟩ := World.cells?_some h1
      obtain ⟨-, hlen0, hcell0⟩ := World.cells?_some h10
      obtain ⟨b, off, spot⟩ := a
      have hsp : spot = none := by
        have := hcell0 0 (by omega)
        rw [List.getElem?_eq_getElem (by omega)] at this
        simpa [Addr.add] using World.cell?_spot this
      subst hsp
      obtain ⟨xs, k, -, -, -, hxl, hfld⟩ := DataW.trod_struct Tryd.underlying32 h2
      match xs, hxl, cs', hlen with
      | [y0, y1, y2, y3], _, [v0, v1, v2, v3], _ =>
        have g0 := hfld 0 _ rfl
        have g1 := hfld 1 _ rfl
        have g2 := hfld 2 _ rfl
        have g3 := hfld 3 _ rfl
        simp [cI] at g0 g1 g2 g3
        obtain ⟨n0, e0, -, z0⟩ := DataW.trod_int Tryd.underlying3 g0
        obtain ⟨n1, e1, -, z1⟩ := DataW.trod_int Tryd.underlying3 g1
        obtain ⟨n2, e2, -, z2⟩ := DataW.trod_int Tryd.underlying3 g2
        obtain ⟨n3, e3, -, z3⟩ := DataW.trod_int Tryd.underlying3 g3
        simp only [List.cons.injEq, and_true] at e0 e1 e2 e3
        subst e0 e1 e2 e3
        have q0 := hcell 0 (by omega)
        have q1 := hcell 1 (by omega)
        have q2 := hcell 2 (by omega)
        have q3 := hcell 3 (by omega)
        rw [Go.Deep.add_add] at q0 q1 q2 q3
        have ad : ∀ j, (⟨b, off, none⟩ : Addr).add j = ⟨b, off + j, none⟩ := fun j => by
          unfold Addr.add
          by_cases h : j = 0
          · subst h; rfl
          · simp [h]
        rw [ad] at q0 q1 q2 q3
        refine ⟨⟨n0, n1, n2, n3⟩, ⟨wf_i64 z0, wf_i64 z1, wf_i64 z2, wf_i64 z3⟩, b, off, rfl, fun j u hj => ?_⟩
        match j, hj with
        | 0, hj => obtain rfl := Option.some.inj hj; rw [Nat.add_assoc]; exact q0
        | 1, hj => obtain rfl := Option.some.inj hj; rw [Nat.add_assoc]; exact q1
        | 2, hj => obtain rfl := Option.some.inj hj; rw [Nat.add_assoc]; exact q2
        | 3, hj => obtain rfl := Option.some.inj hj; rw [Nat.add_assoc]; exact q3
        | j + 4, hj => simp [cs] at hj
    rcases Nat.eq_zero_or_pos len with h0 | h0
    · subst h0
      exact ⟨[], ⟨_, cap, rfl, Nat.zero_le _, hm, fun h => by simp [css] at h⟩, fun _ h => by cases h⟩
    · haveI : Inhabited Op4 := ⟨(⟨0, 0, 0, 0⟩ : Op4)⟩
      obtain ⟨f, hf2⟩ := Go.Deep.choose_lt each
      obtain ⟨-, b, off, rfl, -⟩ := hf2 0 h0
      refine ⟨(List.range len).map f, ⟨some ⟨b, off, none⟩, cap, by simp, by simpa using hl, hm, fun _ => ⟨b, off, rfl, fun j u hj => ?_⟩⟩, fun x hx => by
        obtain ⟨i, hi, rfl⟩ := List.mem_map.1 hx
        exact (hf2 i (List.mem_range.1 hi)).1⟩
      have hj1 : j < len * 4 := by
        have := (List.getElem?_eq_some_iff.1 hj).1
        rw [css_length] at this
        simpa using this
      have hjd : j / 4 < len := by omega
      obtain ⟨-, b', off', hb, hc'⟩ := hf2 (j / 4) hjd
      simp only [Addr.mk.injEq, and_true] at hb
      obtain ⟨rfl, rfl⟩ := hb
      have hlx : j % 4 < (cs (f (j / 4))).length := by rw [cs_length]; omega
      have e1 := css_at ((List.range len).map f) (j / 4) (f (j / 4)) (by rw [List.getElem?_map, List.getElem?_range hjd]; rfl) (j % 4) _ (List.getElem?_eq_getElem hlx) (by omega)
      rw [show j / 4 * 4 + j % 4 = j by omega] at e1
      rw [e1] at hj
      have := hc' (j % 4) u (by rw [List.getElem?_eq_getElem hlx]; exact hj)
      rwa [Nat.add_assoc, show j / 4 * 4 + j % 4 = j by omega] at this
set_option maxRecDepth 100000 in
open Go.ChangeShapes Go.WideShapes in
theorem in_of_trod {H : Type} {enc : TypeId × Value → H} {w : World} {v : Value} {d : DataW H} {ps : List MemPlace} {r : Reach} {b0 : Nat} (hval : Value.okWide Tryd.prog w r b0 22 v)
    (h : DataW.Trod enc Tryd.prog w 0 (fun _ => true) true 22 v d ps) : ∃ xs, In w v xs := by
  obtain ⟨xs, h, -⟩ := in_of_trodR hval h
  exact ⟨xs, h⟩

/-- The first n of them. -/
theorem few (w : World) (v : Value) (xs : List Op4) (n : Nat) (h : In w v xs) (hn : n ≤ 10000) :
    Calls Tryd.prog 25 #[v, .int .i64 (n : Int)] w fun e w' => ∃ v', e = .returned v' ∧ In w v' (xs.take n) ∧ w' = w := by
  obtain ⟨A, cap, rfl, h1, h2, hr⟩ := h
  have Hr := Lib.hid hr
  clear hr
  go_enter Tryd.func25, Tryd.ntmps25
  by_cases hlt : n < xs.length
  · have c1 : (n : Int) < (xs.length : Int) := by omega
    have hT : (xs.take n).length = n := by rw [List.length_take]; omega
    go_wp2
    go_ret
    exact ⟨.slice A n cap, rfl, ⟨A, cap, by rw [hT], by rw [hT]; omega, h2, by rw [css_take]; exact Hr.out.take _⟩, rfl⟩
  · have c1 : ¬ (n : Int) < (xs.length : Int) := by omega
    have hT : xs.take n = xs := List.take_of_length_le (by omega)
    rw [hT]
    go_wp2
    go_ret
    exact ⟨.slice A xs.length cap, rfl, ⟨A, cap, rfl, h1, h2, Hr.out⟩, rfl⟩

end EOq
end Go.Proofs.YtnehiooioodkfaaDoor
