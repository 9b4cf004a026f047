/-
  CODE: what Print writes, in plain words; the builder's contracts as the walk takes them.
-/
import Derived.Test.YtnehiooioodkfaaDoorK8
import Derived.Test.YtnehiooioodkfaaDoorK7
import Derived.Test.YtnehiooioodkfaaDoorKS
import Derived.Lib.ItoaLen
set_option linter.unusedVariables false
set_option linter.unusedSimpArgs false
namespace Go.Proofs.YtnehiooioodkfaaDoor
open Go Go.RowKit
namespace CD
def Rg (o : Op4) : Prop := (-9223372036854775808 ≤ o.res ∧ o.res ≤ 9223372036854775807) ∧ (-9223372036854775808 ≤ o.n ∧ o.n ≤ 9223372036854775807) ∧ (-9223372036854775808 ≤ o.v ∧ o.v ≤ 9223372036854775807)
theorem wordOf_len (k : Int) : (wordOf k).data.toList.length ≤ 6 := by
  unfold wordOf
  split
  · rename_i h
    obtain ⟨m, rfl⟩ : ∃ m : Nat, k = m := ⟨k.toNat, by omega⟩
    have c : m = 1 ∨ m = 2 ∨ m = 3 ∨ m = 4 ∨ m = 5 ∨ m = 6 ∨ m = 7 ∨ m = 8 ∨ m = 9 ∨ m = 10 ∨ m = 11 := by omega
    rcases c with rfl | rfl | rfl | rfl | rfl | rfl | rfl | rfl | rfl | rfl | rfl <;> decide
  · exact Nat.zero_le _
theorem numsT_len (o : Op4) (h : Rg o) : (numsT o).length ≤ 44 := by
  obtain ⟨⟨a1, a2⟩, ⟨b1, b2⟩, ⟨c1, c2⟩⟩ := h
  have l1 := Lib.itoa_length_le o.res a1 a2
  have l2 := Lib.itoa_length_le o.n b1 b2
  have l3 := Lib.itoa_length_le o.v c1 c2
  unfold numsT
  split
  · simp; omega
  · split
    · simp; omega
    · split
      · simp; omega
      · split
        · simp; omega
        · simp
/-- .. the operation before an operation, and what stands between. -/
def sepK (xs : List Op4) (k : Nat) (o : Op4) : List UInt8 := if k = 0 then [] else match xs[k - 1]? with
  | some a => sepO a o
  | none => []
theorem textG_snoc : ∀ (r : List Op4) (a x : Op4), textG a (r ++ [x]) = textG a r ++ sepO ((r.getLast?).getD a) x ++ textO x
  | [], a, x => by simp [textG]
  | b :: r, a, x => by
    have h := textG_snoc r b x
    simp only [List.cons_append, textG, h]
    cases r with
    | nil => simp
    | cons c r => simp [List.getLast?_cons_cons, List.getLast?_cons]
theorem textB_snoc (xs : List Op4) (k : Nat) (x : Op4) (hx : xs[k]? = some x) : textB (xs.take (k + 1)) = textB (xs.take k) ++ (sepK xs k x ++ textO x) := by
  have hlt := (List.getElem?_eq_some_iff.1 hx).1
  have e : xs.take (k + 1) = xs.take k ++ [x] := by rw [List.take_add_one, hx]; rfl
  rw [e]
  cases k with
  | zero => simp [textB, sepK, textG]
  | succ j =>
    cases hxs : xs with
    | nil => rw [hxs] at hlt; simp at hlt
    | cons y r =>
      rw [List.take_succ_cons, List.cons_append, textB, textB, textG_snoc]
      have hj : xs[j]? = some (((r.take j).getLast?).getD y) := by
        rw [hxs]
        rw [hxs] at hlt
        simp only [List.length_cons] at hlt
        rw [List.getLast?_eq_getElem?, List.length_take, Nat.min_eq_left (by omega)]
        cases j with
        | zero => simp
        | succ i =>
          simp only [List.getElem?_cons_succ, Nat.add_sub_cancel]
          rw [List.getElem?_take, if_pos (by omega), List.getElem?_eq_getElem (by omega)]
          rfl
      have hs : sepK (y :: r) (j + 1) x = sepO (((r.take j).getLast?).getD y) x := by
        unfold sepK
        rw [if_neg (by omega), Nat.add_sub_cancel, ← hxs, hj]
      rw [hs]
      simp
/-- The builder that Print writes to. -/
def PB (w0 : World) (bb : Nat) (l : List UInt8) (m : Nat) (wx : World) : Prop :=
  Lib.IsBuilderF 77 5 bb bb (Lib.byteCells l) wx ∧ bb < wx.heap.size ∧ Below w0.heap.size w0 wx ∧ w0.heap.size ≤ bb ∧ VL wx ∧ l.length ≤ m
/-- A block as it lies. -/
def Bx (w : World) (k : Nat) (cs : Array Value) (T : TypeId) : Prop := w.heap[k]? = some (.cells cs T (0, 0))
theorem builder_below {T e : TypeId} {B b : Nat} {bs : List Value} {W W' : World} (h : Lib.IsBuilderF T e B b bs W) (hb : Below W.heap.size W W') : Lib.IsBuilderF T e B b bs W' := by
  have one : ∀ p, Lib.BuilderAtF T e B b p bs W → Lib.BuilderAtF T e B b p bs W' := fun p h => by
    have hlt := h.lt
    obtain ⟨hB, v, hv, hown, hne⟩ := h
    exact ⟨hB, v, (hb.block b hlt).trans hv, hown.kept (row := none) ⟨hb.os, hb.tape, hb.output, hb.size, fun k hk _ => hb.block k hk⟩ (Classical.em _), hne⟩
  exact h.elim (fun x => .inl (one _ x)) (fun x => .inr (one _ x))
section
variable {w0 wx wy : World} {bb : Nat} {l : List UInt8} {m : Nat}
theorem PB.nb (h : PB w0 bb l m wx) (b : Below wx.heap.size wx wy) : PB w0 bb l m wy := by
  obtain ⟨h1, h2, h3, h4, h5, h6⟩ := h
  exact ⟨builder_below h1 b, Nat.lt_of_lt_of_le h2 b.size, h3.trans (b.mono h3.size), h4, h5.nb b, h6⟩
theorem Bx.nb {k : Nat} {cs : Array Value} {T : TypeId} (h : Bx wx k cs T) (b : Below wx.heap.size wx wy) : Bx wy k cs T := by
  unfold Bx at *
  rw [b.block k (Array.getElem?_eq_some_iff.1 h).1]
  exact h
theorem Bx.ok {k : Nat} {cs : Array Value} {T : TypeId} (h : Bx wx k cs T) (o : Lib.OthersKept 5 (some bb) wx wy) (hk : k ≠ bb) (hT : T ≠ 5) : Bx wy k cs T :=
  o k _ h (fun e => hk (Option.some.inj e)) (fun c fz e => hT (by injection e))
theorem Bx.cell {k : Nat} {cs : Array Value} {T : TypeId} (h : Bx wx k cs T) (j : Nat) : wx.cell? ⟨k, j, none⟩ = cs[j]? := Lib.cell_of_heap h j
theorem VL.base {w : World} (h : VL w0) (b : Below w0.heap.size w0 w) : VL w := h.nb b
theorem below_weak {B : Nat} {a b c : World} (h : Below a.heap.size a b) (hB : a.heap.size ≤ B) (k : Below B b c) : Below a.heap.size a c := h.trans (k.mono hB)
theorem byteCells_snoc (l : List UInt8) (c : UInt8) : Lib.byteCells l ++ [.int .u8 c.toNat] = Lib.byteCells (l ++ [c]) := by simp [Lib.byteCells]
theorem byteCells_str (l : List UInt8) (s : ByteArray) : Lib.byteCells l ++ Lib.strCells s = Lib.byteCells (l ++ s.data.toList) := by simp [Lib.byteCells, Lib.strCells]
theorem PB.wb (h : PB w0 bb l m wx) (hm : m ≤ 1000000000) (c : UInt8) (h5 : 5 ≤ w0.heap.size) :
    Calls Tryd.prog 42 #[.pointer (some ⟨bb, 0, none⟩), .int .u8 (c.toNat : Int)] wx fun e w' => e = .returned .nilIface ∧ PB w0 bb (l ++ [c]) (m + 1) w' ∧ Lib.OthersKept 5 (some bb) wx w' := by
  obtain ⟨h1, h2, h3, h4, h5', h6⟩ := h
  refine (KS.writeByte bb bb _ (c.toNat : Int) wx h1 (by rw [Lib.byteCells_length]; omega) (Nat.le_of_lt h2)).mono ?_
  rintro e w' ⟨rfl, hb, bd, ok⟩
  rw [byteCells_snoc] at hb
  exact ⟨rfl, ⟨.inr hb, Nat.lt_of_lt_of_le h2 bd.size, below_weak h3 h4 bd, h4, h5'.below (Nat.le_trans h5 h4) bd, by simp; omega⟩, ok⟩
theorem PB.ws (h : PB w0 bb l m wx) (hm : m ≤ 1000000000) (s : ByteArray) (hs : s.size ≤ 1000000) (h5 : 5 ≤ w0.heap.size) :
    Calls Tryd.prog 44 #[.pointer (some ⟨bb, 0, none⟩), .string s] wx fun e w' => (∃ v, e = .returned v) ∧ PB w0 bb (l ++ s.data.toList) (m + s.size) w' ∧ Lib.OthersKept 5 (some bb) wx w' := by
  obtain ⟨h1, h2, h3, h4, h5', h6⟩ := h
  refine (KS.writeString bb bb _ s wx h1 (by rw [Lib.byteCells_length]; omega) (Nat.le_of_lt h2)).mono ?_
  rintro e w' ⟨rfl, hb, bd, ok⟩
  rw [byteCells_str] at hb
  have e : s.data.toList.length = s.size := by rw [Array.length_toList]; rfl
  exact ⟨⟨_, rfl⟩, ⟨.inr hb, Nat.lt_of_lt_of_le h2 bd.size, below_weak h3 h4 bd, h4, h5'.below (Nat.le_trans h5 h4) bd, by rw [List.length_append]; omega⟩, ok⟩
end
end CD
end Go.Proofs.YtnehiooioodkfaaDoor
