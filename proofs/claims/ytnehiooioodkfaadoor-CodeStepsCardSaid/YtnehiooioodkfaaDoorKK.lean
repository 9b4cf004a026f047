/-
  CODE: the law CodeRuns.
-/
import Derived.Test.YtnehiooioodkfaaDoorKJ
import Derived.Test.YtnehiooioodkfaaDoorEOqS
set_option linter.unusedVariables false
set_option linter.unusedSimpArgs false
namespace Go.Proofs.YtnehiooioodkfaaDoor
open Go Go.RowKit
namespace CD
theorem parseR (w : World) (s : ByteArray) (hs : s.size ≤ 1000000) (hV : VL w) {L : List Op4} {a c : Int} (h : parseB s = (L, a, c)) : Calls Tryd.prog 15 #[.string s] w fun e w' => ∃ v, e = .returned (.tuple #[v, .int .i64 a, .int .i64 c]) ∧ Reads w' v L.length (EOq.css L) ∧ Below w.heap.size w w' := by
  refine (parse w s hs hV).mono ?_
  rintro e w' ⟨OW, v, rfl, hr, t⟩
  rw [h] at hr ⊢
  exact ⟨v, rfl, hr.reads, (t.new_ ow0 [1]).below⟩
theorem stepsR (w : World) (v : Value) (xs : List Op4) (h : Rd4 w v xs) (hn : xs.length ≤ 1000000) (hne : Nested xs) {L : List Op4} {c : Int} (hl : listB xs = (L, c)) :
    Calls Tryd.prog 19 #[v] w fun e w' => ∃ v', e = .returned (.tuple #[v', .int .i64 c]) ∧ Reads w' v' L.length (EOq.css L) ∧ Below w.heap.size w w' := by
  refine (steps w v xs h hn (fun _ => hne)).mono ?_
  rintro e w' ⟨OW, v', rfl, hr, t⟩
  rw [hl] at hr ⊢
  exact ⟨v', rfl, hr.reads, (t.new_ ow0 [1]).below⟩
/-- What the loop keeps. -/
def rnR (vt vp ve : Value) (gn : Nat) (a : Value) (wr : World) (w : World) : Prop :=
  ∃ k : Nat, gn = 12 - k ∧ k ≤ 12 ∧ a = .int .i64 (k : Int) ∧ VL wr ∧ Below w.heap.size w wr ∧ Reads wr vt 12 (textsL.map Value.string) ∧ Reads wr vp 12 (placesL.map (Value.int .i64)) ∧ Reads wr ve 12 (errsL.map (Value.int .i64))
theorem rg2 : ∀ o ∈ ops2, Rg o := by
  intro o ho
  simp only [ops2, List.mem_cons, List.not_mem_nil, or_false] at ho
  rcases ho with rfl | rfl | rfl | rfl <;> exact ⟨⟨by decide, by decide⟩, ⟨by decide, by decide⟩, ⟨by decide, by decide⟩⟩
set_option maxRecDepth 100000 in
set_option maxHeartbeats 8000000 in
theorem runs (w : World) (hV0 : VL w) : Calls Tryd.prog 3 #[] w fun e w' => e = .returned (.bool true) ∧ Below w.heap.size w w' := by
  go_enter Tryd.func3, Tryd.ntmps3
  have hV := hV0
  have hB : Below w.heap.size w w := Below.refl _ _
  clear hV0
  have HV := Lib.hid hV
  have HB := Lib.hid hB
  clear hV hB 
  go_wp2_with fail
  have hV := HV.out
  have hB := HB.out
  clear HV HB 
  refine (parseR w src1 (by decide) hV parse1).mono ?_
  rintro e w1 ⟨v1, rfl, r1, bd⟩
  replace hV := hV.nb bd
  replace hB := hB.trans (bd.mono hB.size)
  clear bd
  have HV := Lib.hid hV
  have HB := Lib.hid hB
  have Hr1 := Lib.hid r1
  clear hV hB r1
  go_wp2_with fail
  have hV := HV.out
  have hB := HB.out
  have r1 := Hr1.out
  clear HV HB Hr1
  refine (parseR w1 src2 (by decide) hV parse2).mono ?_
  rintro e w2 ⟨v2, rfl, r2, bd⟩
  replace r1 := r1.new_ bd
  replace hV := hV.nb bd
  replace hB := hB.trans (bd.mono hB.size)
  clear bd
  obtain ⟨A2, c2, rfl, -⟩ := r2.slice
  have hc := count w2 _ ops2 (rd4 r2) (by decide) (fun _ => nested2)
  rw [count2] at hc
  have HC := Lib.hid hc
  clear hc
  have HV := Lib.hid hV
  have HB := Lib.hid hB
  have Hr1 := Lib.hid r1
  have Hr2 := Lib.hid r2
  clear hV hB r1 r2
  go_wp2_with fail
  have hV := HV.out
  have hB := HB.out
  have r1 := Hr1.out
  have r2 := Hr2.out
  clear HV HB Hr1 Hr2
  refine (HC.out).mono ?_
  rintro e w3 ⟨rfl, bd⟩
  replace r1 := r1.new_ bd
  replace r2 := r2.new_ bd
  replace hV := hV.nb bd
  replace hB := hB.trans (bd.mono hB.size)
  clear bd
  clear HC
  have hc := print w3 _ ops2 (rd4 r2) (by decide) rg2 hV
  rw [print2] at hc
  have HC := Lib.hid hc
  clear hc
  have HV := Lib.hid hV
  have HB := Lib.hid hB
  have Hr1 := Lib.hid r1
  have Hr2 := Lib.hid r2
  clear hV hB r1 r2
  go_wp2_with fail
  have hV := HV.out
  have hB := HB.out
  have r1 := Hr1.out
  have r2 := Hr2.out
  clear HV HB Hr1 Hr2
  refine (HC.out).mono ?_
  rintro e w4 ⟨rfl, bd⟩
  replace r1 := r1.new_ bd
  replace r2 := r2.new_ bd
  replace hV := hV.nb bd
  replace hB := hB.trans (bd.mono hB.size)
  clear bd
  clear HC
  have HV := Lib.hid hV
  have HB := Lib.hid hB
  have Hr1 := Lib.hid r1
  have Hr2 := Lib.hid r2
  clear hV hB r1 r2
  go_wp2_with fail
  have hV := HV.out
  have hB := HB.out
  have r1 := Hr1.out
  have r2 := Hr2.out
  clear HV HB Hr1 Hr2
  have bd : Below w4.heap.size w4 (w4.alloc (.cells #[.int .i64 1, .int .i64 0, .int .i64 2, .int .i64 0, .int .i64 3, .int .i64 0, .int .i64 0, .int .i64 (-7), .int .i64 2, .int .i64 0, .int .i64 0, .int .i64 0] 32)) := (Below.refl _ _).alloc (Nat.le_refl _) _
  have q1 : Reads (w4.alloc (.cells #[.int .i64 1, .int .i64 0, .int .i64 2, .int .i64 0, .int .i64 3, .int .i64 0, .int .i64 0, .int .i64 (-7), .int .i64 2, .int .i64 0, .int .i64 0, .int .i64 0] 32)) (.slice (some ⟨w4.heap.size, 0, none⟩) 3 3) 3 (EOq.css ops1) := Reads.new w4 (EOq.css ops1) 32 3 3 (Nat.le_refl _)
  replace r1 := r1.new_ bd
  replace r2 := r2.new_ bd
  replace hV := hV.nb bd
  replace hB := hB.trans (bd.mono hB.size)
  generalize w4.alloc (.cells #[.int .i64 1, .int .i64 0, .int .i64 2, .int .i64 0, .int .i64 3, .int .i64 0, .int .i64 0, .int .i64 (-7), .int .i64 2, .int .i64 0, .int .i64 0, .int .i64 0] 32) = w5 at *
  generalize w4.heap.size = b5 at *
  clear bd
  refine (EOq.same_yes w5 _ _ (ops1) (by decide) r1 q1).mono ?_
  rintro e w6 ⟨rfl, kk, hw⟩
  have bd : Below w5.heap.size w5 w6 := by rw [hw]; exact bdN (Below.refl _ _) kk
  clear hw
  replace r1 := r1.new_ bd
  replace r2 := r2.new_ bd
  replace q1 := q1.new_ bd
  replace hV := hV.nb bd
  replace hB := hB.trans (bd.mono hB.size)
  clear bd
  clear r1 r2 q1
  have HV := Lib.hid hV
  have HB := Lib.hid hB
  clear hV hB 
  go_wp2_with fail
  have hV := HV.out
  have hB := HB.out
  clear HV HB 
  refine (parseR w6 src3 (by decide) hV parse3).mono ?_
  rintro e w7 ⟨v3, rfl, r3, bd⟩
  replace hV := hV.nb bd
  replace hB := hB.trans (bd.mono hB.size)
  clear bd
  have hc := stepsR w7 _ ops3 (rd4 r3) (by decide) nested3 list3
  have HC := Lib.hid hc
  clear hc
  have HV := Lib.hid hV
  have HB := Lib.hid hB
  have Hr3 := Lib.hid r3
  clear hV hB r3
  go_wp2_with fail
  have hV := HV.out
  have hB := HB.out
  have r3 := Hr3.out
  clear HV HB Hr3
  refine (HC.out).mono ?_
  rintro e w8 ⟨v4, rfl, r4, bd⟩
  replace r3 := r3.new_ bd
  replace hV := hV.nb bd
  replace hB := hB.trans (bd.mono hB.size)
  clear bd
  clear HC
  have hc := stepsR w8 (.slice none 0 0) [] (rd4 (.inl ⟨rfl, rfl, rfl⟩)) (by decide) nested0 list0
  have HC := Lib.hid hc
  clear hc
  have HV := Lib.hid hV
  have HB := Lib.hid hB
  have Hr3 := Lib.hid r3
  have Hr4 := Lib.hid r4
  clear hV hB r3 r4
  go_wp2_with fail
  have hV := HV.out
  have hB := HB.out
  have r3 := Hr3.out
  have r4 := Hr4.out
  clear HV HB Hr3 Hr4
  refine (HC.out).mono ?_
  rintro e w9 ⟨v5, rfl, r5, bd⟩
  replace r3 := r3.new_ bd
  replace r4 := r4.new_ bd
  replace hV := hV.nb bd
  replace hB := hB.trans (bd.mono hB.size)
  clear bd
  clear HC
  have HV := Lib.hid hV
  have HB := Lib.hid hB
  have Hr3 := Lib.hid r3
  have Hr4 := Lib.hid r4
  have Hr5 := Lib.hid r5
  clear hV hB r3 r4 r5
  go_wp2_with fail
  have hV := HV.out
  have hB := HB.out
  have r3 := Hr3.out
  have r4 := Hr4.out
  have r5 := Hr5.out
  clear HV HB Hr3 Hr4 Hr5
  have bd : Below w9.heap.size w9 (w9.alloc (.cells #[.int .i64 5, .int .i64 0, .int .i64 1, .int .i64 0, .int .i64 5, .int .i64 0, .int .i64 1, .int .i64 0, .int .i64 9, .int .i64 0, .int .i64 0, .int .i64 0] 32)) := (Below.refl _ _).alloc (Nat.le_refl _) _
  have q1 : Reads (w9.alloc (.cells #[.int .i64 5, .int .i64 0, .int .i64 1, .int .i64 0, .int .i64 5, .int .i64 0, .int .i64 1, .int .i64 0, .int .i64 9, .int .i64 0, .int .i64 0, .int .i64 0] 32)) (.slice (some ⟨w9.heap.size, 0, none⟩) 3 3) 3 (EOq.css [⟨5, 0, 1, 0⟩, ⟨5, 0, 1, 0⟩, ⟨9, 0, 0, 0⟩]) := Reads.new w9 (EOq.css [⟨5, 0, 1, 0⟩, ⟨5, 0, 1, 0⟩, ⟨9, 0, 0, 0⟩]) 32 3 3 (Nat.le_refl _)
  replace r3 := r3.new_ bd
  replace r4 := r4.new_ bd
  replace r5 := r5.new_ bd
  replace hV := hV.nb bd
  replace hB := hB.trans (bd.mono hB.size)
  generalize w9.alloc (.cells #[.int .i64 5, .int .i64 0, .int .i64 1, .int .i64 0, .int .i64 5, .int .i64 0, .int .i64 1, .int .i64 0, .int .i64 9, .int .i64 0, .int .i64 0, .int .i64 0] 32) = w10 at *
  generalize w9.heap.size = b10 at *
  clear bd
  refine (EOq.same_yes w10 _ _ ([⟨5, 0, 1, 0⟩, ⟨5, 0, 1, 0⟩, ⟨9, 0, 0, 0⟩]) (by decide) r4 q1).mono ?_
  rintro e w11 ⟨rfl, kk, hw⟩
  have bd : Below w10.heap.size w10 w11 := by rw [hw]; exact bdN (Below.refl _ _) kk
  clear hw
  replace r3 := r3.new_ bd
  replace r4 := r4.new_ bd
  replace r5 := r5.new_ bd
  replace q1 := q1.new_ bd
  replace hV := hV.nb bd
  replace hB := hB.trans (bd.mono hB.size)
  clear bd
  clear r3 r4 q1
  have HV := Lib.hid hV
  have HB := Lib.hid hB
  have Hr5 := Lib.hid r5
  clear hV hB r5
  go_wp2_with fail
  have hV := HV.out
  have hB := HB.out
  have r5 := Hr5.out
  clear HV HB Hr5
  have bd : Below w11.heap.size w11 (w11.alloc (.cells #[.int .i64 9, .int .i64 0, .int .i64 0, .int .i64 0] 32)) := (Below.refl _ _).alloc (Nat.le_refl _) _
  have q2 : Reads (w11.alloc (.cells #[.int .i64 9, .int .i64 0, .int .i64 0, .int .i64 0] 32)) (.slice (some ⟨w11.heap.size, 0, none⟩) 1 1) 1 (EOq.css [⟨9, 0, 0, 0⟩]) := Reads.new w11 (EOq.css [⟨9, 0, 0, 0⟩]) 32 1 1 (Nat.le_refl _)
  replace r5 := r5.new_ bd
  replace hV := hV.nb bd
  replace hB := hB.trans (bd.mono hB.size)
  generalize w11.alloc (.cells #[.int .i64 9, .int .i64 0, .int .i64 0, .int .i64 0] 32) = w12 at *
  generalize w11.heap.size = b12 at *
  clear bd
  refine (EOq.same_yes w12 _ _ ([⟨9, 0, 0, 0⟩]) (by decide) r5 q2).mono ?_
  rintro e w13 ⟨rfl, kk, hw⟩
  have bd : Below w12.heap.size w12 w13 := by rw [hw]; exact bdN (Below.refl _ _) kk
  clear hw
  replace r5 := r5.new_ bd
  replace q2 := q2.new_ bd
  replace hV := hV.nb bd
  replace hB := hB.trans (bd.mono hB.size)
  clear bd
  clear r5 q2
  have HV := Lib.hid hV
  have HB := Lib.hid hB
  clear hV hB 
  go_wp2_with fail
  have hV := HV.out
  have hB := HB.out
  clear HV HB 
  have z1 : (w13.alloc (.cells #[.string ⟨#[108, 111, 99, 107, 32, 49, 54, 32, 49]⟩, .string ⟨#[108, 111, 99, 107, 32, 48, 32, 48]⟩, .string ⟨#[108, 111, 99, 107, 32, 48, 32, 50, 53, 54]⟩, .string ⟨#[112, 117, 115, 104, 32, 57, 50, 50, 51, 51, 55, 50, 48, 51, 54, 56, 53, 52, 55, 55, 53, 56, 48, 56]⟩, .string ⟨#[112, 117, 115, 104, 32, 45, 48]⟩, .string ⟨#[125]⟩, .string ⟨#[114, 101, 112, 101, 97, 116, 32, 50, 32, 112, 111, 112]⟩, .string ⟨#[114, 101, 112, 101, 97, 116, 32, 50, 32, 123]⟩, .string ⟨#[108, 111, 99, 107, 32, 48]⟩, .string ⟨#[80, 117, 115, 104, 32, 49]⟩, .string ⟨#[112, 111, 112, 123]⟩, .string ⟨#[114, 101, 112, 101, 97, 116, 32, 49, 32, 123, 32, 114, 101, 112, 101, 97, 116, 32, 49, 32, 123, 32, 114, 101, 112, 101, 97, 116, 32, 49, 32, 123, 32, 114, 101, 112, 101, 97, 116, 32, 49, 32, 123, 32, 114, 101, 112, 101, 97, 116, 32, 49, 32, 123, 32, 112, 111, 112]⟩] 9)).heap.size = w13.heap.size + 1 := by simp [World.alloc_eq]
  have bd : Below w13.heap.size w13 (w13.alloc (.cells #[.string ⟨#[108, 111, 99, 107, 32, 49, 54, 32, 49]⟩, .string ⟨#[108, 111, 99, 107, 32, 48, 32, 48]⟩, .string ⟨#[108, 111, 99, 107, 32, 48, 32, 50, 53, 54]⟩, .string ⟨#[112, 117, 115, 104, 32, 57, 50, 50, 51, 51, 55, 50, 48, 51, 54, 56, 53, 52, 55, 55, 53, 56, 48, 56]⟩, .string ⟨#[112, 117, 115, 104, 32, 45, 48]⟩, .string ⟨#[125]⟩, .string ⟨#[114, 101, 112, 101, 97, 116, 32, 50, 32, 112, 111, 112]⟩, .string ⟨#[114, 101, 112, 101, 97, 116, 32, 50, 32, 123]⟩, .string ⟨#[108, 111, 99, 107, 32, 48]⟩, .string ⟨#[80, 117, 115, 104, 32, 49]⟩, .string ⟨#[112, 111, 112, 123]⟩, .string ⟨#[114, 101, 112, 101, 97, 116, 32, 49, 32, 123, 32, 114, 101, 112, 101, 97, 116, 32, 49, 32, 123, 32, 114, 101, 112, 101, 97, 116, 32, 49, 32, 123, 32, 114, 101, 112, 101, 97, 116, 32, 49, 32, 123, 32, 114, 101, 112, 101, 97, 116, 32, 49, 32, 123, 32, 112, 111, 112]⟩] 9)) := (Below.refl _ _).alloc (Nat.le_refl _) _
  have rt : Reads (w13.alloc (.cells #[.string ⟨#[108, 111, 99, 107, 32, 49, 54, 32, 49]⟩, .string ⟨#[108, 111, 99, 107, 32, 48, 32, 48]⟩, .string ⟨#[108, 111, 99, 107, 32, 48, 32, 50, 53, 54]⟩, .string ⟨#[112, 117, 115, 104, 32, 57, 50, 50, 51, 51, 55, 50, 48, 51, 54, 56, 53, 52, 55, 55, 53, 56, 48, 56]⟩, .string ⟨#[112, 117, 115, 104, 32, 45, 48]⟩, .string ⟨#[125]⟩, .string ⟨#[114, 101, 112, 101, 97, 116, 32, 50, 32, 112, 111, 112]⟩, .string ⟨#[114, 101, 112, 101, 97, 116, 32, 50, 32, 123]⟩, .string ⟨#[108, 111, 99, 107, 32, 48]⟩, .string ⟨#[80, 117, 115, 104, 32, 49]⟩, .string ⟨#[112, 111, 112, 123]⟩, .string ⟨#[114, 101, 112, 101, 97, 116, 32, 49, 32, 123, 32, 114, 101, 112, 101, 97, 116, 32, 49, 32, 123, 32, 114, 101, 112, 101, 97, 116, 32, 49, 32, 123, 32, 114, 101, 112, 101, 97, 116, 32, 49, 32, 123, 32, 114, 101, 112, 101, 97, 116, 32, 49, 32, 123, 32, 112, 111, 112]⟩] 9)) (.slice (some ⟨w13.heap.size, 0, none⟩) 12 12) 12 (textsL.map Value.string) := Reads.new w13 (textsL.map Value.string) 9 12 12 (Nat.le_refl _)
  replace hV := hV.nb bd
  replace hB := hB.trans (bd.mono hB.size)
  clear bd
  generalize w13.alloc (.cells #[.string ⟨#[108, 111, 99, 107, 32, 49, 54, 32, 49]⟩, .string ⟨#[108, 111, 99, 107, 32, 48, 32, 48]⟩, .string ⟨#[108, 111, 99, 107, 32, 48, 32, 50, 53, 54]⟩, .string ⟨#[112, 117, 115, 104, 32, 57, 50, 50, 51, 51, 55, 50, 48, 51, 54, 56, 53, 52, 55, 55, 53, 56, 48, 56]⟩, .string ⟨#[112, 117, 115, 104, 32, 45, 48]⟩, .string ⟨#[125]⟩, .string ⟨#[114, 101, 112, 101, 97, 116, 32, 50, 32, 112, 111, 112]⟩, .string ⟨#[114, 101, 112, 101, 97, 116, 32, 50, 32, 123]⟩, .string ⟨#[108, 111, 99, 107, 32, 48]⟩, .string ⟨#[80, 117, 115, 104, 32, 49]⟩, .string ⟨#[112, 111, 112, 123]⟩, .string ⟨#[114, 101, 112, 101, 97, 116, 32, 49, 32, 123, 32, 114, 101, 112, 101, 97, 116, 32, 49, 32, 123, 32, 114, 101, 112, 101, 97, 116, 32, 49, 32, 123, 32, 114, 101, 112, 101, 97, 116, 32, 49, 32, 123, 32, 114, 101, 112, 101, 97, 116, 32, 49, 32, 123, 32, 112, 111, 112]⟩] 9) = wa at *
  generalize w13.heap.size = ba at *
  have z2 : (wa.alloc (.cells #[.int .i64 5, .int .i64 7, .int .i64 7, .int .i64 5, .int .i64 5, .int .i64 0, .int .i64 9, .int .i64 10, .int .i64 6, .int .i64 0, .int .i64 0, .int .i64 44] 3)).heap.size = ba + 1 + 1 := by rw [← z1]; simp [World.alloc_eq]
  have bd : Below wa.heap.size wa (wa.alloc (.cells #[.int .i64 5, .int .i64 7, .int .i64 7, .int .i64 5, .int .i64 5, .int .i64 0, .int .i64 9, .int .i64 10, .int .i64 6, .int .i64 0, .int .i64 0, .int .i64 44] 3)) := (Below.refl _ _).alloc (Nat.le_refl _) _
  have rp : Reads (wa.alloc (.cells #[.int .i64 5, .int .i64 7, .int .i64 7, .int .i64 5, .int .i64 5, .int .i64 0, .int .i64 9, .int .i64 10, .int .i64 6, .int .i64 0, .int .i64 0, .int .i64 44] 3)) (.slice (some ⟨ba + 1, 0, none⟩) 12 12) 12 (placesL.map (Value.int .i64)) := by rw [← z1]; exact Reads.new wa (placesL.map (Value.int .i64)) 3 12 12 (Nat.le_refl _)
  replace rt := rt.new_ bd
  replace hV := hV.nb bd
  replace hB := hB.trans (bd.mono hB.size)
  clear bd z1
  generalize wa.alloc (.cells #[.int .i64 5, .int .i64 7, .int .i64 7, .int .i64 5, .int .i64 5, .int .i64 0, .int .i64 9, .int .i64 10, .int .i64 6, .int .i64 0, .int .i64 0, .int .i64 44] 3) = wb at *
  have bd : Below wb.heap.size wb (wb.alloc (.cells #[.int .i64 30, .int .i64 30, .int .i64 30, .int .i64 30, .int .i64 30, .int .i64 30, .int .i64 30, .int .i64 31, .int .i64 31, .int .i64 30, .int .i64 30, .int .i64 32] 3)) := (Below.refl _ _).alloc (Nat.le_refl _) _
  have rv : Reads (wb.alloc (.cells #[.int .i64 30, .int .i64 30, .int .i64 30, .int .i64 30, .int .i64 30, .int .i64 30, .int .i64 30, .int .i64 31, .int .i64 31, .int .i64 30, .int .i64 30, .int .i64 32] 3)) (.slice (some ⟨ba + 1 + 1, 0, none⟩) 12 12) 12 (errsL.map (Value.int .i64)) := by rw [← z2]; exact Reads.new wb (errsL.map (Value.int .i64)) 3 12 12 (Nat.le_refl _)
  replace rt := rt.new_ bd
  replace rp := rp.new_ bd
  replace hV := hV.nb bd
  replace hB := hB.trans (bd.mono hB.size)
  clear bd z2
  generalize wb.alloc (.cells #[.int .i64 30, .int .i64 30, .int .i64 30, .int .i64 30, .int .i64 30, .int .i64 30, .int .i64 30, .int .i64 31, .int .i64 31, .int .i64 30, .int .i64 30, .int .i64 32] 3) = wc at *
  go_loopg [19] 12 (fun gn a wr => rnR (.slice (some ⟨ba, 0, none⟩) 12 12) (.slice (some ⟨ba + 1, 0, none⟩) 12 12) (.slice (some ⟨ba + 1 + 1, 0, none⟩) 12 12) gn a wr w)
  case atStart => exact ⟨0, rfl, by omega, rfl, hV, hB, rt, rp, rv⟩
  case round =>
    clear hV hB rt rp rv
    obtain ⟨k, hgk, hk, rfl, hV, hB, rt, rp, rv⟩ := hrel
    have Hgk := Lib.hid hgk
    clear hgk
    by_cases hlt : k < 12
    · obtain ⟨s, pp, ee, hs, hpp, hee, hparse, hsz⟩ := texts_all k hlt
      have ct : wr.cell? ⟨ba, k, none⟩ = some (.string s) := by
        obtain ⟨g, off, cap, hv, -, hc⟩ := rt.at (by omega)
        simp only [Value.slice.injEq, Option.some.injEq, Addr.mk.injEq, true_and, and_true] at hv
        obtain ⟨⟨rfl, rfl⟩, rfl⟩ := hv
        have := hc k (.string s) (by rw [List.getElem?_map, hs]; rfl)
        simpa only [Nat.zero_add] using this
      have cp : wr.cell? ⟨ba + 1, k, none⟩ = some (.int .i64 pp) := by
        obtain ⟨g, off, cap, hv, -, hc⟩ := rp.at (by omega)
        simp only [Value.slice.injEq, Option.some.injEq, Addr.mk.injEq, true_and, and_true] at hv
        obtain ⟨⟨rfl, rfl⟩, rfl⟩ := hv
        have := hc k (.int .i64 pp) (by rw [List.getElem?_map, hpp]; rfl)
        simpa only [Nat.zero_add] using this
      have ce : wr.cell? ⟨ba + 1 + 1, k, none⟩ = some (.int .i64 ee) := by
        obtain ⟨g, off, cap, hv, -, hc⟩ := rv.at (by omega)
        simp only [Value.slice.injEq, Option.some.injEq, Addr.mk.injEq, true_and, and_true] at hv
        obtain ⟨⟨rfl, rfl⟩, rfl⟩ := hv
        have := hc k (.int .i64 ee) (by rw [List.getElem?_map, hee]; rfl)
        simpa only [Nat.zero_add] using this
      have hP := parseR wr s hsz hV hparse
      have HP := Lib.hid hP
      have HA := Lib.hid (And.intro hV (And.intro hB (And.intro rt (And.intro rp rv))))
      have i0 : (k : Int) < 12 := by omega
      have hwk : IntKind.i64.wrap ((k : Int) + 1) = (k : Int) + 1 := by rw [IntKind.wrap_i64]; omega
      clear hP hV hB rt rp rv hs hpp hee hparse
      go_wp2_with fail
      refine HP.out.mono ?_
      rintro e wd ⟨v, rfl, r, bd⟩
      obtain ⟨A, c, rfl, -⟩ := r.slice
      obtain ⟨hV, hB, rt, rp, rv⟩ := HA.out
      have rp2 := rp.new_ bd
      have rv2 := rv.new_ bd
      have cp2 : wd.cell? ⟨ba + 1, k, none⟩ = some (.int .i64 pp) := by
        obtain ⟨g, off, cap, hv, -, hc⟩ := rp2.at (by omega)
        obtain ⟨s', p', e', -, hpp, hee, -, -⟩ := texts_all k hlt
        simp only [Value.slice.injEq, Option.some.injEq, Addr.mk.injEq, true_and, and_true] at hv
        obtain ⟨⟨rfl, rfl⟩, rfl⟩ := hv
        have h1 := hc k _ (by rw [List.getElem?_map, hpp]; rfl)
        simp only [Nat.zero_add] at h1
        obtain ⟨g, off, cap, hv, -, hc⟩ := rp.at (by omega)
        simp only [Value.slice.injEq, Option.some.injEq, Addr.mk.injEq, true_and, and_true] at hv
        obtain ⟨⟨rfl, rfl⟩, rfl⟩ := hv
        have h2 := hc k _ (by rw [List.getElem?_map, hpp]; rfl)
        simp only [Nat.zero_add] at h2
        rw [h1, ← h2, cp]
      have ce2 : wd.cell? ⟨ba + 1 + 1, k, none⟩ = some (.int .i64 ee) := by
        obtain ⟨g, off, cap, hv, -, hc⟩ := rv2.at (by omega)
        obtain ⟨s', p', e', -, hpp, hee, -, -⟩ := texts_all k hlt
        simp only [Value.slice.injEq, Option.some.injEq, Addr.mk.injEq, true_and, and_true] at hv
        obtain ⟨⟨rfl, rfl⟩, rfl⟩ := hv
        have h1 := hc k _ (by rw [List.getElem?_map, hee]; rfl)
        simp only [Nat.zero_add] at h1
        obtain ⟨g, off, cap, hv, -, hc⟩ := rv.at (by omega)
        simp only [Value.slice.injEq, Option.some.injEq, Addr.mk.injEq, true_and, and_true] at hv
        obtain ⟨⟨rfl, rfl⟩, rfl⟩ := hv
        have h2 := hc k _ (by rw [List.getElem?_map, hee]; rfl)
        simp only [Nat.zero_add] at h2
        rw [h1, ← h2, ce]
      have HF := Lib.hid (And.intro (hV.nb bd) (And.intro (hB.trans (bd.mono hB.size)) (And.intro (rt.new_ bd) (And.intro rp2 rv2))))
      clear hV hB rt rp rv rp2 rv2 bd r HA HP ct cp ce
      go_wp2
      go_roundg (12 - (k + 1))
      case measure => have := Hgk.out; omega
      case rel => exact ⟨k + 1, rfl, by omega, by go_num, HF.out.1, HF.out.2.1, HF.out.2.2.1, HF.out.2.2.2.1, HF.out.2.2.2.2⟩
    · obtain rfl : k = 12 := by omega
      clear rt rp rv
      have HV := Lib.hid hV
      have HB := Lib.hid hB
      clear hV hB 
      go_wp2_with fail
      have hV := HV.out
      have hB := HB.out
      clear HV HB 
      refine (parseR wr src4 (by decide) hV parse4).mono ?_
      rintro e w14 ⟨v6, rfl, r6, bd⟩
      replace hV := hV.nb bd
      replace hB := hB.trans (bd.mono hB.size)
      clear bd
      obtain ⟨A6, c6, rfl, -⟩ := r6.slice
      have hc := count w14 _ ops4 (rd4 r6) (by decide) (fun _ => nested4)
      rw [count4] at hc
      have HC := Lib.hid hc
      clear hc
      have HV := Lib.hid hV
      have HB := Lib.hid hB
      have Hr6 := Lib.hid r6
      clear hV hB r6
      go_wp2_with fail
      have hV := HV.out
      have hB := HB.out
      have r6 := Hr6.out
      clear HV HB Hr6
      refine (HC.out).mono ?_
      rintro e w15 ⟨rfl, bd⟩
      replace r6 := r6.new_ bd
      replace hV := hV.nb bd
      replace hB := hB.trans (bd.mono hB.size)
      clear bd
      clear HC
      have HV := Lib.hid hV
      have HB := Lib.hid hB
      have Hr6 := Lib.hid r6
      clear hV hB r6
      go_wp2_with fail
      have hV := HV.out
      have hB := HB.out
      have r6 := Hr6.out
      clear HV HB Hr6
      have bd : Below w15.heap.size w15 (w15.alloc (.cells #[.int .i64 4, .int .i64 0, .int .i64 1, .int .i64 0] 32)) := (Below.refl _ _).alloc (Nat.le_refl _) _
      have q5 : Reads (w15.alloc (.cells #[.int .i64 4, .int .i64 0, .int .i64 1, .int .i64 0] 32)) (.slice (some ⟨w15.heap.size, 0, none⟩) 1 1) 1 (EOq.css [⟨4, 0, 1, 0⟩]) := Reads.new w15 (EOq.css [⟨4, 0, 1, 0⟩]) 32 1 1 (Nat.le_refl _)
      replace r6 := r6.new_ bd
      replace hV := hV.nb bd
      replace hB := hB.trans (bd.mono hB.size)
      generalize w15.alloc (.cells #[.int .i64 4, .int .i64 0, .int .i64 1, .int .i64 0] 32) = w16 at *
      generalize w15.heap.size = b16 at *
      clear bd
      have hc := check w16 _ [⟨4, 0, 1, 0⟩] (rd4 q5) (by decide)
      rw [check5] at hc
      refine hc.mono ?_
      rintro e w17 ⟨rfl, bd⟩
      clear hc
      replace r6 := r6.new_ bd
      replace q5 := q5.new_ bd
      replace hV := hV.nb bd
      replace hB := hB.trans (bd.mono hB.size)
      clear bd
      clear r6 q5
      have hl := legal w17 ⟨#[97, 45, 57]⟩ (by unfold maxLen; decide)
      rw [legal1] at hl
      have HL := Lib.hid hl
      clear hl
      have HV := Lib.hid hV
      have HB := Lib.hid hB
      clear hV hB 
      go_wp2_with fail
      have hV := HV.out
      have hB := HB.out
      clear HV HB 
      refine HL.out.mono ?_
      rintro e w18 ⟨rfl, hw⟩
      subst hw
      clear HL
      have hl := legal w18 ⟨#[57, 97]⟩ (by unfold maxLen; decide)
      rw [legal2] at hl
      have HL := Lib.hid hl
      clear hl
      have HV := Lib.hid hV
      have HB := Lib.hid hB
      clear hV hB 
      go_wp2_with fail
      have hV := HV.out
      have hB := HB.out
      clear HV HB 
      refine HL.out.mono ?_
      rintro e w19 ⟨rfl, hw⟩
      subst hw
      clear HL
      have hl := legal w19 ⟨#[]⟩ (by unfold maxLen; decide)
      rw [legal3] at hl
      have HL := Lib.hid hl
      clear hl
      have HV := Lib.hid hV
      have HB := Lib.hid hB
      clear hV hB 
      go_wp2_with fail
      have hV := HV.out
      have hB := HB.out
      clear HV HB 
      refine HL.out.mono ?_
      rintro e w20 ⟨rfl, hw⟩
      subst hw
      clear HL
      clear hV
      have HB := Lib.hid hB
      clear hB
      go_wp2
      go_ret
      exact ⟨rfl, HB.out⟩
end CD
end Go.Proofs.YtnehiooioodkfaaDoor
