/-
  CODE: the law CodeParses.
-/
import Derived.Test.YtnehiooioodkfaaDoorS4
import Derived.Test.YtnehiooioodkfaaDoorJV
import Derived.Test.YtnehiooioodkfaaDoorWithin
set_option linter.unusedVariables false
set_option linter.unusedSimpArgs false
namespace Go.Proofs.YtnehiooioodkfaaDoor
open Go Go.RowKit
namespace CR
open CD
set_option maxRecDepth 100000 in
set_option maxHeartbeats 4000000 in
theorem parsesL (w : World) (hV : VL w) (s0 : ByteArray) (hs0 : s0.size ≤ maxLen) (n0 : Int) (hn0 : -9223372036854775808 ≤ n0 ∧ n0 ≤ 9223372036854775807) :
    Calls Tryd.prog 4 #[.string s0, .int .i64 n0] w fun e w' => e = .returned (.bool true) ∧ Below w.heap.size w w' := by
  have hf1 := few w s0 4100 hs0 (by omega)
  have HF1 := Lib.hid hf1
  have HV := Lib.hid hV
  have HR := Lib.hid (fun (W : World) (b : Below w.heap.size w W) => runs W (HV.out.nb b))
  clear hf1 hV hs0
  go_enter Tryd.func4, Tryd.ntmps4
  go_wp2_with fail
  refine Calls.mono HF1.out ?_
  rintro e w1 ⟨rfl, hw⟩
  subst w1
  have hz := fewB_size s0 4100
  generalize fewB s0 4100 = src at *
  have hwi := within w n0 0 (src.size : Int) (by omega) (by omega) (by omega) hn0
  have HWI := Lib.hid hwi
  clear HF1 hwi hn0
  go_wp2_with fail
  refine HWI.out.mono ?_
  rintro e w1 ⟨r, rfl, hr1, hr2, hw⟩
  subst w1
  obtain ⟨rn, rfl⟩ : ∃ rn : Nat, r = (rn : Int) := ⟨r.toNat, by omega⟩
  have hf2 := few w src rn (by unfold maxLen; omega) (by omega)
  have hz2 := fewB_size src rn
  generalize fewB src rn = src2 at *
  have HF2 := Lib.hid hf2
  clear HWI hf2
  go_wp2_with fail
  refine Calls.mono HF2.out ?_
  rintro e w1 ⟨rfl, hw⟩
  subst w1
  clear HF2
  go_wp2
  have bd0 : Below w.heap.size w (w.alloc (.cells #[.string src, .string src2] 9)) := (Below.refl _ _).alloc (Nat.le_refl _) _
  have hL0 : Loc (w.alloc (.cells #[.string src, .string src2] 9)) w.heap.size [.string src, .string src2] := Loc.make rfl rfl
  generalize w.alloc (.cells #[.string src, .string src2] 9) = w1 at *
  have HB1 := Lib.hid bd0
  have HL1 := Lib.hid hL0
  clear bd0 hL0
  go_loopg [6] 2 (fun gn i wr => ∃ k : Nat, gn = 2 - k ∧ k ≤ 2 ∧ i = .int .i64 (k : Int) ∧ Below w1.heap.size w1 wr)
  case atStart => exact ⟨0, rfl, by omega, rfl, Below.refl _ _⟩
  case round =>
    obtain ⟨k, hgk, hk, rfl, bd⟩ := hrel
    have Hgk := Lib.hid hgk
    have HBD := Lib.hid bd
    have HB2 := Lib.hid (HB1.out.trans (bd.mono HB1.out.size))
    have HL2 := Lib.hid (HL1.out.new_ bd)
    clear hgk bd
    by_cases hlt : k < 2
    · have i0 : (k : Int) < 2 := by omega
      have hwk : IntKind.i64.wrap ((k : Int) + 1) = (k : Int) + 1 := by rw [IntKind.wrap_i64]; omega
      obtain ⟨sk, hsk, hzk⟩ : ∃ sk : ByteArray, ([.string src, .string src2] : List Value)[k]? = some (.string sk) ∧ sk.size ≤ 4100 := by
        rcases (by omega : k = 0 ∨ k = 1) with rfl | rfl
        · exact ⟨src, rfl, hz⟩
        · exact ⟨src2, rfl, by omega⟩
      have c0 := HL2.out.get k hsk
      have hpa := parseR wr sk (by omega) (HV.out.nb HB2.out) (L := (parseB sk).1) (a := (parseB sk).2.1) (c := (parseB sk).2.2) rfl
      have hrp := fun (W : World) => rparse W sk (by omega)
      have hpl := parseB_len sk
      generalize (parseB sk).1 = P at *
      generalize (parseB sk).2.1 = a at *
      generalize (parseB sk).2.2 = E at *
      have HPA := Lib.hid hpa
      have HRP := Lib.hid hrp
      have HSK := Lib.hid hsk
      have e1 : (a != a) = false := by simp
      have e2 : (E != E) = false := by simp
      clear hpa hrp hsk
      go_wp2_with fail
      refine Calls.mono HPA.out ?_
      rintro e w2 ⟨x2, rfl, r2, b2⟩
      have HL3 := Lib.hid (HL2.out.new_ b2)
      have c1 := HL3.out.get k HSK.out
      have HBD2 := Lib.hid (HBD.out.trans (b2.mono HBD.out.size))
      have R2 := Lib.hid (rd4 r2)
      obtain ⟨X2, y2, rfl, -⟩ := r2.slice
      clear HPA b2 r2 HBD c0 HL2 HB2
      go_wp2_with fail
      refine Calls.mono (HRP.out w2) ?_
      rintro e w3 ⟨x3, rfl, r3, b3⟩
      have HBD3 := Lib.hid (HBD2.out.trans (b3.mono HBD2.out.size))
      have hsm := same_rd w3 _ x3 P (by omega) (R2.out.new_ b3) (rd4 r3)
      obtain ⟨X3, y3, rfl, -⟩ := r3.slice
      have HSM := Lib.hid hsm
      clear HRP b3 r3 hsm R2 HBD2 c1 HL3
      go_wp2_with fail
      refine HSM.out.mono ?_
      rintro e w4 ⟨rfl, k4, hw4⟩
      have HBD4 := Lib.hid (HBD3.out.trans ((hw4 ▸ drewN_below w3 k4).mono HBD3.out.size))
      clear hw4 HSM HBD3
      go_wp2
      go_roundg (2 - (k + 1))
      case measure => have := Hgk.out; omega
      case rel => exact ⟨k + 1, rfl, by omega, by go_num, HBD4.out⟩
    · obtain rfl : k = 2 := by omega
      have i0 : ¬ ((2 : Nat) : Int) < 2 := by omega
      as_aux_lemma =>
      go_wp2_with fail
      refine (HR.out _ HB2.out).mono ?_
      rintro e w9 ⟨rfl, b9⟩
      go_wp2
      go_ret
      exact ⟨rfl, HB2.out.trans (b9.mono HB2.out.size)⟩
end CR
end Go.Proofs.YtnehiooioodkfaaDoor
