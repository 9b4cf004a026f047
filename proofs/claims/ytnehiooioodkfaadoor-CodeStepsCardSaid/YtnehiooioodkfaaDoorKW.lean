/-
  CODE: the law CodeLast.
-/
import Derived.Test.YtnehiooioodkfaaDoorKK
import Derived.Test.YtnehiooioodkfaaDoorPA
import Derived.Test.YtnehiooioodkfaaDoorEOqP
set_option linter.unusedVariables false
set_option linter.unusedSimpArgs false
namespace Go.Proofs.YtnehiooioodkfaaDoor
open Go Go.RowKit
namespace CD
theorem rd_of_in {w : World} {v : Value} {xs : List Op4} (h : EOq.In w v xs) : Rd4 w v xs := by
  obtain ⟨A, cap, rfl, h1, h2, hr⟩ := h
  exact ⟨A, cap, rfl, h1, fun h0 => hr.reads (by rw [EOq.css_length]; omega) h1⟩
theorem stepsL (w : World) (v : Value) (xs : List Op4) (h : Rd4 w v xs) (hn : xs.length ≤ 1000000) :
    Calls Tryd.prog 19 #[v] w fun e w' => ∃ v', e = .returned (.tuple #[v', .int .i64 (listB xs).2]) ∧ Reads w' v' (listB xs).1.length (EOq.css (listB xs).1) ∧ Below w.heap.size w w' := by
  refine (steps w v xs h hn fun hc => nested_of_check hc).mono ?_
  rintro e w' ⟨OW, v', rfl, hr, t⟩
  exact ⟨v', rfl, hr.reads, (t.new_ ow0 [1]).below⟩
theorem listB_no {xs : List Op4} (h : (listB xs).2 ≠ 0) : (listB xs).1 = [] := by
  unfold listB at h ⊢
  by_cases h0 : (countB xs).2 = 0
  · rw [if_pos h0] at h; exact absurd rfl h
  · rw [if_neg h0]
set_option maxRecDepth 100000 in
set_option maxHeartbeats 4000000 in
theorem lastL (w : World) (hV : VL w) (v : Value) (xs : List Op4) (h : EOq.In w v xs) : Calls Tryd.prog 10 #[v] w fun e w' => e = .returned (.bool true) ∧ Below w.heap.size w w' := by
  have hsh := EOq.few w v xs 300 h (by omega)
  go_enter Tryd.func10, Tryd.ntmps10
  go_wp2_with fail
  refine hsh.mono ?_
  rintro e w1 ⟨v1, rfl, hin, rfl⟩
  clear hsh
  have hyl : (xs.take 300).length ≤ 300 := List.length_take_le _ _
  have hst := stepsL w1 v1 (xs.take 300) (rd_of_in hin) (by omega)
  generalize xs.take 300 = ys at *
  clear hin h
  have HST := Lib.hid hst
  have HV := Lib.hid hV
  clear hst hV
  go_wp2_with fail
  refine HST.out.mono ?_
  rintro e w2 ⟨v2, rfl, hr, bd⟩
  have HR := Lib.hid (fun (W : World) (b : Below w2.heap.size w2 W) => runs W ((HV.out.nb bd).nb b))
  have HB := Lib.hid bd
  clear HST HV bd
  by_cases he : (listB ys).2 = 0
  rotate_left
  · have hn0 := listB_no he
    rw [hn0] at hr
    obtain ⟨A, c, rfl, -⟩ := hr.slice
    have hb : ((listB ys).2 != 0) = true := by simp [he]
    clear hr hn0 he
    as_aux_lemma =>
    go_wp2_with fail
    refine (HR.out w2 (Below.refl _ _)).mono ?_
    rintro e w3 ⟨rfl, b3⟩
    go_wp2
    go_ret
    exact ⟨rfl, HB.out.trans (b3.mono HB.out.size)⟩
  obtain ⟨b, f, hL, hf9, hfo, hbo, hlen⟩ := listB_form he
  rw [he]
  rw [hL] at hr
  have hlb : (b ++ [f]).length = b.length + 1 := by simp
  obtain ⟨A, c, rfl, -⟩ := hr.slice
  rw [hlb] at hr ⊢
  have HRD := Lib.hid hr
  clear hr he hL
  have i1 : ¬ ((b.length : Int) + 1) < 1 := by omega
  have i2 : ¬ (4096 : Int) < ((b.length : Int) + 1) := by omega
  have i1' : ¬ (b.length + 1 : Nat) < 1 := by omega
  have i2' : ¬ 4096 < (b.length + 1 : Nat) := by omega
  have i3 : ¬ (((b.length + 1 : Nat) : Int) < 1) := by omega
  have i4 : ¬ ((4096 : Int) < ((b.length + 1 : Nat) : Int)) := by omega
  have hwn : IntKind.i64.wrap (((b.length + 1 : Nat) : Int) - 1) = (b.length : Int) := by rw [IntKind.wrap_i64]; omega
  have hwn2 : IntKind.i64.wrap ((b.length : Int) + 1 - 1) = (b.length : Int) := by rw [IntKind.wrap_i64]; omega
  have hwn3 : IntKind.i64.wrap (b.length : Int) = (b.length : Int) := by rw [IntKind.wrap_i64]; omega
  go_wp2
  go_loopg [5] (b.length + 1) (fun gn a wr => ∃ k : Nat, gn = b.length + 1 - k ∧ k ≤ b.length + 1 ∧ a = .int .i64 (k : Int) ∧ wr = w2)
  case atStart => exact ⟨0, rfl, Nat.zero_le _, rfl, rfl⟩
  case round =>
    obtain ⟨k, hgk, hk, rfl, rfl⟩ := hrel
    have Hgk := Lib.hid hgk
    clear hgk
    by_cases hlt : k < b.length + 1
    · have j0 : (k : Int) < (b.length : Int) + 1 := by omega
      have j1 : (k : Int) < ((b.length + 1 : Nat) : Int) := by omega
      have hwk : IntKind.i64.wrap ((k : Int) + 1) = (k : Int) + 1 := by rw [IntKind.wrap_i64]; omega
      obtain ⟨x, hx⟩ : ∃ x, (b ++ [f])[k]? = some x := ⟨_, List.getElem?_eq_getElem (by omega)⟩
      obtain ⟨g, off, cap, hv, r0, -, r2, -⟩ := at4 (by rw [hlb]; exact HRD.out) hx
      rw [hlb] at hv
      simp only [Value.slice.injEq, true_and] at hv
      obtain ⟨rfl, rfl⟩ := hv
      by_cases hkl : k = b.length
      · have hxf : x = f := by
          rw [hkl, List.getElem?_append_right (Nat.le_refl _)] at hx
          simpa using hx.symm
        subst hxf
        subst hkl
        rw [hf9] at r0
        have bq : ((b.length : Int) == (b.length : Int)) = true := beq_self_eq_true _
        clear hx
        go_wp2
        go_roundg (b.length + 1 - (b.length + 1))
        case measure => have := Hgk.out; omega
        case rel => exact ⟨b.length + 1, rfl, by omega, by go_num, rfl⟩
      · have hxb : x ∈ b := by
          rw [List.getElem?_append_left (by omega)] at hx
          exact List.mem_of_getElem? hx
        obtain ⟨h9, h10, h11, h5⟩ := hbo x hxb
        have b9 : (x.kind == 9) = false := beq_eq_false_iff_ne.2 h9
        have b10 : (x.kind == 10) = false := beq_eq_false_iff_ne.2 h10
        have b11 : (x.kind == 11) = false := beq_eq_false_iff_ne.2 h11
        have bq : ((k : Int) == (b.length : Int)) = false := beq_eq_false_iff_ne.2 (by omega)
        by_cases hk5 : x.kind = 5
        · have hn1 := h5 hk5
          rw [hn1] at r2
          have b5 : (x.kind == 5) = true := beq_iff_eq.2 hk5
          clear hx h9 h10 h11 h5 hk5
          go_wp2
          go_roundg (b.length + 1 - (k + 1))
          case measure => have := Hgk.out; omega
          case rel => exact ⟨k + 1, rfl, by omega, by go_num, rfl⟩
        · have b5 : (x.kind == 5) = false := beq_eq_false_iff_ne.2 hk5
          clear hx h9 h10 h11 h5 hk5
          go_wp2
          go_roundg (b.length + 1 - (k + 1))
          case measure => have := Hgk.out; omega
          case rel => exact ⟨k + 1, rfl, by omega, by go_num, rfl⟩
    · obtain rfl : k = b.length + 1 := by omega
      as_aux_lemma =>
      go_wp2_with fail
      refine (HR.out _ (Below.refl _ _)).mono ?_
      rintro e w3 ⟨rfl, b3⟩
      go_wp2
      go_ret
      exact ⟨rfl, HB.out.trans (b3.mono HB.out.size)⟩
end CD
end Go.Proofs.YtnehiooioodkfaaDoor
