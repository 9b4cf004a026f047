/-
  LAW 7: what the laws take: a script of calls; its reading; few.
-/
import Derived.Test.YtnpcikghgfbfoaaQC
import Derived.Test.YtnpcikghgfbfoaaRow
import Derived.Deep.Slices
import Derived.Carry
namespace Go.Proofs.Ytnpcikghgfbfoaa
open Go Go.RowKit

/-- A call of the script. -/
structure Op7 where
  kind : Int
  task : Int
  level : Int
  job : Int
namespace EQ

/-- A slice of calls that came in. -/
def In7 (w : World) (v : Value) (xs : List Op7) : Prop :=
  ∃ (A : Option Addr) (cap : Nat), v = .slice A xs.length cap ∧ xs.length ≤ cap ∧ cap ≤ maxLen ∧ ∀ i x, xs[i]? = some x → ∃ b off, A = some ⟨b, off, none⟩ ∧
    w.cell? ⟨b, off + i * 4, none⟩ = some (.int .i64 x.kind) ∧ w.cell? ⟨b, off + i * 4 + 1, none⟩ = some (.int .i64 x.task) ∧ w.cell? ⟨b, off + i * 4 + 2, none⟩ = some (.int .i64 x.level) ∧ w.cell? ⟨b, off + i * 4 + 3, none⟩ = some (.int .i64 x.job)

theorem In7.new_ {w w1 : World} {v : Value} {xs : List Op7} (h : In7 w v xs) (n : Below w.heap.size w w1) : In7 w1 v xs := by
  obtain ⟨A, cap, hv, h1, h2, hc⟩ := h
  refine ⟨A, cap, hv, h1, h2, fun i x hx => ?_⟩
  obtain ⟨b, off, ha, c0, c1, c2, c3⟩ := hc i x hx
  have hb := World.block_lt_of_cell? w _ c0
  have hn : ∀ o, w1.cell? ⟨b, o, none⟩ = w.cell? ⟨b, o, none⟩ := fun o => n.cell hb
  exact ⟨b, off, ha, (hn _).trans c0, (hn _).trans c1, (hn _).trans c2, (hn _).trans c3⟩

open Go.ChangeShapes Go.WideShapes in
theorem in7_of_trod {H : Type} {enc : TypeId × Value → H} {w : World} {v : Value} {d : DataW H} {ps : List MemPlace} {r : Reach} {b0 : Nat} (hval : Value.okWide Try.prog w r b0 41 v)
    (h : DataW.Trod enc Try.prog w 0 (fun _ => true) true 41 v d ps) : ∃ xs, In7 w v xs := by
  obtain ⟨a0, len0, cap0, rfl⟩ := okWide_slice Try.underlying41 hval
  obtain ⟨fuel, hf⟩ := h
  have hcs : (Value.slice a0 len0 cap0).cells.toList = [.slice a0 len0 cap0] := rfl
  rw [hcs] at hf
  rcases Go.Deep.open_slice Try.underlying41 hf with ⟨hc, -⟩ | ⟨a, len, cap, m, n, D, Pl, hc, -, hl, hm, hmm, -, hx⟩
  · have : Value.slice a0 len0 cap0 = .slice none 0 0 := by simpa using hc
    rw [this]
    exact ⟨[], none, 0, rfl, Nat.le_refl _, by unfold maxLen; omega, fun i x hx => by simp at hx⟩
  · have : Value.slice a0 len0 cap0 = .slice (some a) len cap := by simpa using hc
    rw [this]
    have cO : Try.prog.cellsOf 45 = 4 := by kernel_rfl
    have cI : Try.prog.cellsOf 3 = 1 := by kernel_rfl
    have each : ∀ i, i < len → ∃ x : Op7, ∃ b off, a = ⟨b, off, none⟩ ∧
        w.cell? ⟨b, off + i * 4, none⟩ = some (.int .i64 x.kind) ∧ w.cell? ⟨b, off + i * 4 + 1, none⟩ = some (.int .i64 x.task) ∧ w.cell? ⟨b, off + i * 4 + 2, none⟩ = some (.int .i64 x.level) ∧ w.cell? ⟨b, off + i * 4 + 3, none⟩ = some (.int .i64 x.job) := by
      intro i hi
      have hlm : len ≤ m := by rw [hmm]; split <;> omega
      obtain ⟨cs', h1, h2⟩ := hx i (by omega)
      obtain ⟨cs0, h10, -⟩ := hx 0 (by omega)
      rw [cO] at h1 h10
      obtain ⟨-, hlen, hcell⟩ := World.cells?_some h1
      obtain ⟨-, hlen0, hcell0⟩ := World.cells?_some h10
      obtain ⟨b, off, spot⟩ := a
      have hsp : spot = none := by
        have := hcell0 0 (by omega)
        rw [Go.Deep.add_add, List.getElem?_eq_getElem (by omega)] at this
        simpa [Addr.add] using World.cell?_spot this
      subst hsp
      obtain ⟨xs, k, -, -, -, hxl, hfld⟩ := DataW.trod_struct Try.underlying45 h2
      match xs, hxl, cs', hlen with
      | [y0, y1, y2, y3], _, [v0, v1, v2, v3], _ =>
        have g0 := hfld 0 _ rfl
        have g1 := hfld 1 _ rfl
        have g2 := hfld 2 _ rfl
        have g3 := hfld 3 _ rfl
        simp [cI] at g0 g1 g2 g3
        obtain ⟨n0, e0, -, -⟩ := DataW.trod_int Try.underlying3 g0
        obtain ⟨n1, e1, -, -⟩ := DataW.trod_int Try.underlying3 g1
        obtain ⟨n2, e2, -, -⟩ := DataW.trod_int Try.underlying3 g2
        obtain ⟨n3, e3, -, -⟩ := DataW.trod_int Try.underlying3 g3
        simp only [List.cons.injEq, and_true] at e0 e1 e2 e3
        subst e0 e1 e2 e3
        have q0 := hcell 0 (by omega)
        have q1 := hcell 1 (by omega)
        have q2 := hcell 2 (by omega)
        have q3 := hcell 3 (by omega)
        rw [Go.Deep.add_add] at q0 q1 q2 q3
        have ad : ∀ j, (⟨b, off, none⟩ : Addr).add j = ⟨b, off + j, none⟩ := fun j => by
          unfold Addr.add
          by_cases h : j = 0
          · subst h; rfl
          · simp [h]
        rw [ad] at q0 q1 q2 q3
        exact ⟨⟨n0, n1, n2, n3⟩, b, off, rfl, q0, by rw [Nat.add_assoc]; exact q1, by rw [Nat.add_assoc]; exact q2, by rw [Nat.add_assoc]; exact q3⟩
    haveI : Inhabited Op7 := ⟨⟨0, 0, 0, 0⟩⟩
    obtain ⟨f, hf2⟩ := Go.Deep.choose_lt each
    refine ⟨(List.range len).map f, some a, cap, by simp, by simpa using hl, hm, fun i x hx => ?_⟩
    have hi : i < len := by have := (List.getElem?_eq_some_iff.1 hx).1; simpa using this
    have : f i = x := by simpa [hi] using hx
    obtain ⟨b, off, ha, r⟩ := hf2 i hi
    rw [this] at r
    exact ⟨b, off, by rw [ha], r⟩

/-- The first n of them. -/
theorem few (w : World) (v : Value) (xs : List Op7) (n : Nat) (h : In7 w v xs) (hn : n ≤ 1000) :
    Calls Try.prog 14 #[v, .int .i64 (n : Int)] w fun e w' => ∃ v', e = .returned v' ∧ In7 w v' (xs.take n) ∧ w' = w := by
  obtain ⟨A, cap, rfl, h1, h2, hc⟩ := h
  have Hc := Lib.hid hc
  clear hc
  go_enter Try.func14, Try.ntmps14
  by_cases hlt : n < xs.length
  · have c1 : (n : Int) < (xs.length : Int) := by omega
    have hT : (xs.take n).length = n := by rw [List.length_take]; omega
    go_wp2
    go_ret
    refine ⟨.slice A n cap, rfl, ⟨A, cap, by rw [hT], by rw [hT]; omega, h2, fun i x hx => Hc.out i x ?_⟩, rfl⟩
    rw [List.getElem?_take] at hx
    split at hx
    · exact hx
    · cases hx
  · have c1 : ¬ (n : Int) < (xs.length : Int) := by omega
    have hT : xs.take n = xs := List.take_of_length_le (by omega)
    rw [hT]
    go_wp2
    go_ret
    exact ⟨.slice A xs.length cap, rfl, ⟨A, cap, rfl, h1, h2, Hc.out⟩, rfl⟩

end EQ
end Go.Proofs.Ytnpcikghgfbfoaa
