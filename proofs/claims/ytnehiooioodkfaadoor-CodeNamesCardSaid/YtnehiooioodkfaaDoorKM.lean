/-
  CODE: the law CodeNames.
-/
import Derived.Test.YtnehiooioodkfaaDoorKK
set_option linter.unusedVariables false
set_option linter.unusedSimpArgs false
namespace Go.Proofs.YtnehiooioodkfaaDoor
open Go Go.RowKit
namespace CD
set_option maxRecDepth 100000 in
set_option maxHeartbeats 1000000 in
theorem names (w : World) (hV : VL w) (s : ByteArray) (hs : s.size ≤ maxLen) : Calls Tryd.prog 7 #[.string s] w fun e w' => e = .returned (.bool true) ∧ Below w.heap.size w w' := by
  have h1 := legal w s hs
  have h2 := rlegal w s hs
  have h3 := runs w hV
  obtain ⟨L, hL⟩ : ∃ L, legalB s = L := ⟨_, rfl⟩
  rw [hL] at h1 h2
  clear hL hV hs
  have H2 := Lib.hid h2
  have H3 := Lib.hid h3
  clear h2 h3
  go_enter Tryd.func7, Tryd.ntmps7
  go_wp2_with fail
  refine h1.mono ?_
  rintro e w1 ⟨rfl, rfl⟩
  clear h1
  go_wp2_with fail
  refine H2.out.mono ?_
  rintro e w2 ⟨rfl, rfl⟩
  clear H2
  cases L with
  | true =>
    go_wp2_with fail
    refine H3.out.mono ?_
    rintro e w3 ⟨rfl, bd⟩
    go_wp2
    go_ret
    exact ⟨rfl, bd⟩
  | false =>
    go_wp2_with fail
    refine H3.out.mono ?_
    rintro e w3 ⟨rfl, bd⟩
    go_wp2
    go_ret
    exact ⟨rfl, bd⟩
end CD
end Go.Proofs.YtnehiooioodkfaaDoor
