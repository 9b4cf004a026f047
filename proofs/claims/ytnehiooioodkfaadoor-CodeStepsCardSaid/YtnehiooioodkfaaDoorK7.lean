/-
  CODE: a number in its one form.
-/
import Derived.Test.YtnehiooioodkfaaDoorKV
import Derived.Test.YtnehiooioodkfaaDoorK6
set_option linter.unusedVariables false
set_option linter.unusedSimpArgs false
namespace Go.Proofs.YtnehiooioodkfaaDoor
open Go Go.RowKit
namespace CD
theorem below_grow (w : World) (k : Nat) (os : Array Obj) : Below w.heap.size w (Go.Sort.grow (w.drewN k) os) := by
  refine ⟨rfl, rfl, rfl, by simp [Go.Sort.grow], fun i hi => ?_⟩
  show (w.heap ++ os)[i]? = w.heap[i]?
  rw [Array.getElem?_append_left hi]
theorem itoaC (w : World) (n : Int) (h0 : -9223372036854775808 ≤ n) (h1 : n ≤ 9223372036854775807) (h : VL w) : Calls Tryd.prog 45 #[.int .i64 n] w fun e w' => e = .returned (.string ⟨(Lib.itoa n).toArray⟩) ∧ Below w.heap.size w w' := by
  refine (Tryd.strconv_Itoa n h0 h1 w h.2.1).mono ?_
  rintro e w' ⟨rfl, k, os, rfl⟩
  exact ⟨rfl, below_grow w k os⟩
/-- What Atoi answers: a number, and nil just where it is a numeral that an int holds. -/
theorem atoiC (w : World) (s : ByteArray) (hs : s.size ≤ 1000000) (h : VL w) : Calls Tryd.prog 71 #[.string s] w fun e w' => (∃ n er, e = .returned (.tuple #[.int .i64 n, er]) ∧ (∀ v, Lib.atoiAll s.data.toList = .ok v → n = v ∧ er = .nilIface) ∧ ((∀ v, Lib.atoiAll s.data.toList ≠ .ok v) → ∃ tp pv, er = .iface tp pv)) ∧ Below w.heap.size w w' := by
  obtain ⟨-, -, ⟨t1, v1, h3⟩, ⟨t2, v2, h4⟩⟩ := h
  by_cases hok : ∃ v, Lib.atoiAll s.data.toList = .ok v
  · obtain ⟨v, ha⟩ := hok
    refine (Tryd.strconv_Atoi_ok s (by omega) v ha w).mono ?_
    rintro e w' ⟨rfl, hw⟩
    refine ⟨⟨v, _, rfl, fun v' hv => ?_, fun hn => absurd ha (hn v)⟩, ?_⟩
    · rw [ha] at hv; injection hv with hv; exact ⟨hv, rfl⟩
    · rcases hw with rfl | ⟨t, rfl⟩
      · exact Below.refl _ _
      · exact Lib.bytesWorld_below _ _ _
  · have hno : ∀ v, Lib.atoiAll s.data.toList ≠ .ok v := fun v hv => hok ⟨v, hv⟩
    by_cases hr : Lib.atoiAll s.data.toList = .range
    · refine (Tryd.strconv_Atoi_range_var s (by omega) hr t2 v2 w h4).mono ?_
      rintro e w' ⟨N, rfl, -, -, bd⟩
      exact ⟨⟨_, _, rfl, (fun v hv => absurd hv (hno v)), fun _ => ⟨_, _, rfl⟩⟩, bd⟩
    · refine (Tryd.strconv_Atoi_syntax_var s (by omega) hno hr t1 v1 w h3).mono ?_
      rintro e w' ⟨N, rfl, -, -, bd⟩
      exact ⟨⟨0, _, rfl, (fun v hv => absurd hv (hno v)), fun _ => ⟨_, _, rfl⟩⟩, bd⟩
theorem numB_ok {s : ByteArray} {v : Int} (h : Lib.atoiAll s.data.toList = .ok v) : numB s = if Lib.itoa v = s.data.toList then some v else none := by unfold numB; rw [h]
theorem numB_no {s : ByteArray} (h : ∀ v, Lib.atoiAll s.data.toList ≠ .ok v) : numB s = none := by
  unfold numB
  split
  · rename_i v hv; exact absurd hv (h v)
  · rfl
set_option maxRecDepth 100000 in
set_option maxHeartbeats 1000000 in
theorem number (w : World) (s : ByteArray) (hs : s.size ≤ 1000000) (h : VL w) : Calls Tryd.prog 68 #[.string s] w fun e w' => (∃ n, e = .returned (.tuple #[.int .i64 n, .bool (numB s).isSome]) ∧ ∀ v, numB s = some v → n = v) ∧ Below w.heap.size w w' := by
  have hA := atoiC w s hs h
  by_cases hok : ∃ v, Lib.atoiAll s.data.toList = .ok v
  · obtain ⟨v, hv⟩ := hok
    have hn := numB_ok hv
    have hb := Lib.atoiAll_bounds hv
    have hI := fun W (hW : VL W) => itoaC W v hb.1 hb.2 hW
    have HA := Lib.hid hA
    have HI := Lib.hid hI
    have Hv := Lib.hid hv
    have HV := Lib.hid h
    clear hA hI h hv
    by_cases hq : Lib.itoa v = s.data.toList
    · have hqs : (⟨(Lib.itoa v).toArray⟩ : ByteArray) = s := by rw [hq]
      rw [hn, if_pos hq]
      have hb2 : (Lib.itoa v == s.toList) = true := beq_iff_eq.2 (by rw [ByteArray.toList_eq]; exact hq)
      clear hn hq hqs
      go_enter Tryd.func68, Tryd.ntmps68
      go_wp2_with fail
      refine HA.out.mono ?_
      rintro e w1 ⟨⟨n, er, rfl, h1, -⟩, bd⟩
      obtain ⟨rfl, rfl⟩ := h1 v Hv.out
      have HV1 := Lib.hid (HV.out.nb bd)
      clear h1
      go_wp2_with fail
      refine (HI.out _ HV1.out).mono ?_
      rintro e w2 ⟨rfl, bd2⟩
      go_wp2
      go_ret2
      exact ⟨⟨n, rfl, fun v hv => by injection hv⟩, bd.trans (bd2.mono bd.size)⟩
    · have hqs : (⟨(Lib.itoa v).toArray⟩ : ByteArray) ≠ s := fun e => hq (by rw [← e])
      rw [hn, if_neg hq]
      have hb2 : (Lib.itoa v == s.toList) = false := beq_eq_false_iff_ne.2 (by rw [ByteArray.toList_eq]; exact hq)
      clear hn hq hqs
      go_enter Tryd.func68, Tryd.ntmps68
      go_wp2_with fail
      refine HA.out.mono ?_
      rintro e w1 ⟨⟨n, er, rfl, h1, -⟩, bd⟩
      obtain ⟨rfl, rfl⟩ := h1 v Hv.out
      have HV1 := Lib.hid (HV.out.nb bd)
      clear h1
      go_wp2_with fail
      refine (HI.out _ HV1.out).mono ?_
      rintro e w2 ⟨rfl, bd2⟩
      go_wp2
      go_ret2
      exact ⟨⟨n, rfl, fun v hv => by cases hv⟩, bd.trans (bd2.mono bd.size)⟩
  · have hno : ∀ v, Lib.atoiAll s.data.toList ≠ .ok v := fun v hv => hok ⟨v, hv⟩
    rw [numB_no hno]
    have HA := Lib.hid hA
    have Hno := Lib.hid hno
    clear hA hok hno
    go_enter Tryd.func68, Tryd.ntmps68
    go_wp2_with fail
    refine HA.out.mono ?_
    rintro e w1 ⟨⟨n, er, rfl, -, h2⟩, bd⟩
    obtain ⟨tp, pv, rfl⟩ := h2 Hno.out
    clear h2
    go_wp2
    go_ret2
    exact ⟨⟨n, rfl, fun v hv => by cases hv⟩, bd⟩
end CD
end Go.Proofs.YtnehiooioodkfaaDoor
