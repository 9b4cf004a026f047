/-
  KEELBOOK.SAME of api.Op: two like lists are told the same.
-/
import Derived.Test.YtnehiooioodkfaaDoorEOq
import Derived.Test.YtnehiooioodkfaaDoorIter
import Derived.Lib.Hide
import Derived.Outline
import Derived.LoopTactic
import Derived.Deep.LoopGhost
set_option linter.unusedVariables false
set_option linter.unusedSimpArgs false
namespace Go.Proofs.YtnehiooioodkfaaDoor
open Go Go.RowKit
namespace EOq

set_option maxHeartbeats 1000000 in
theorem same_yes (w : World) (v1 v2 : Value) (xs : List Op4) (hb : xs.length ≤ 1099511627776) (h1 : Reads w v1 xs.length (css xs)) (h2 : Reads w v2 xs.length (css xs)) :
    Calls Tryd.prog 18 #[v1, v2] w fun e w' => e = .returned (.bool true) ∧ ∃ k, w' = w.drewN k := by
  obtain ⟨A1, c1, rfl, r1⟩ : ∃ A c, v1 = .slice A xs.length c ∧ (0 < xs.length → ∃ g off, A = some ⟨g, off, none⟩ ∧ ∀ j u, (css xs)[j]? = some u → w.cell? ⟨g, off + j, none⟩ = some u) := by
    rcases h1 with ⟨rfl, h0, -⟩ | ⟨g, off, cap, rfl, -, hc⟩
    · exact ⟨none, 0, by rw [h0], fun h => by omega⟩
    · exact ⟨_, cap, rfl, fun _ => ⟨g, off, rfl, hc⟩⟩
  obtain ⟨A2, c2, rfl, r2⟩ : ∃ A c, v2 = .slice A xs.length c ∧ (0 < xs.length → ∃ g off, A = some ⟨g, off, none⟩ ∧ ∀ j u, (css xs)[j]? = some u → w.cell? ⟨g, off + j, none⟩ = some u) := by
    rcases h2 with ⟨rfl, h0, -⟩ | ⟨g, off, cap, rfl, -, hc⟩
    · exact ⟨none, 0, by rw [h0], fun h => by omega⟩
    · exact ⟨_, cap, rfl, fun _ => ⟨g, off, rfl, hc⟩⟩
  have R1 := Lib.hid r1
  have R2 := Lib.hid r2
  clear r1 r2 h1 h2
  go_enter Tryd.func18, Tryd.ntmps18
  go_wp2
  go_loopw [5] (fun i wr => ∃ m : Nat, m ≤ xs.length ∧ i = .int .i64 m ∧ ∃ k, wr = w.drewN k) (fun i _ => xs.length - (intOf i).toNat)
  case atStart => exact ⟨0, Nat.zero_le _, rfl, 0, rfl⟩
  case round =>
    obtain ⟨m, hm, rfl, k, rfl⟩ := hrel
    by_cases hlt : m < xs.length
    · obtain ⟨x, hx⟩ : ∃ x, xs[m]? = some x := ⟨_, List.getElem?_eq_getElem hlt⟩
      obtain ⟨g1, o1, rfl, s1⟩ := R1.out (by omega)
      obtain ⟨g2, o2, rfl, s2⟩ := R2.out (by omega)
      have a0 := s1 (m * 4 + 0) _ (css_at xs m x hx 0 _ rfl (by omega))
      have a1 := s1 (m * 4 + 1) _ (css_at xs m x hx 1 _ rfl (by omega))
      have a2 := s1 (m * 4 + 2) _ (css_at xs m x hx 2 _ rfl (by omega))
      have a3 := s1 (m * 4 + 3) _ (css_at xs m x hx 3 _ rfl (by omega))
      simp only [Nat.add_zero, Nat.mul_one, ← Nat.add_assoc] at a0 a1 a2 a3
      have b0 := s2 (m * 4 + 0) _ (css_at xs m x hx 0 _ rfl (by omega))
      have b1 := s2 (m * 4 + 1) _ (css_at xs m x hx 1 _ rfl (by omega))
      have b2 := s2 (m * 4 + 2) _ (css_at xs m x hx 2 _ rfl (by omega))
      have b3 := s2 (m * 4 + 3) _ (css_at xs m x hx 3 _ rfl (by omega))
      simp only [Nat.add_zero, Nat.mul_one, ← Nat.add_assoc] at b0 b1 b2 b3
      have i0 : (m : Int) < (xs.length : Int) := by omega
      clear s1 s2 R1 R2 hx
      go_wp2
      go_region
      all_goals
        go_wp2
        exact ⟨⟨m + 1, by omega, by simp, k + 1, rfl⟩, by simp only [intOf]; omega⟩
    · obtain rfl : m = xs.length := by omega
      go_wp2
      go_ret
      exact ⟨rfl, k, rfl⟩

end EOq
end Go.Proofs.YtnehiooioodkfaaDoor
