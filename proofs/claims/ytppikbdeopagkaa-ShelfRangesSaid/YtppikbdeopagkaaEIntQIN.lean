/-
  q_iter: as it stands where the range begins.
-/
import Derived.Test.YtppikbdeopagkaaEIntQI
import Derived.Test.YtppikbdeopagkaaIterN
set_option linter.unusedVariables false
set_option linter.unusedSimpArgs false
namespace Go.Proofs.Ytppikbdeopagkaa
open Go Go.RowKit
namespace EInt

set_option maxRecDepth 100000 in
set_option maxHeartbeats 1000000 in
theorem q_iterN (w : World) (ow : Ow) (p pc pi pb : List Nat) (g o B : Nat) (xs : List Int) (h : Q w ow p g o xs) (hn : xs.length ≤ 1099511627776) (hB : Cells w ow pc B 0 [.pointer (some ⟨g, o, none⟩)])
    (h3 : ¬ pb <+: pi) :
    IterN Try.prog 116 #[.pointer (some ⟨B, 0, none⟩)] (qargs xs) pi pb w ow := by
  intro l J Jx W OW ht sJ sX hY hJ0
  have hQ := h.new_ ht
  have cB := (hB.new_ ht).get0
  have hcall := q_list W OW p pi g o xs hQ hn
  rw [qargs_length]
  have Hcall := Lib.hid hcall
  have HY := Lib.hid hY
  have sJ := Lib.hid sJ
  clear hcall hY
  refine callsIn_of_wp Try.func116 rfl trivial ?_ rfl
  simp only [Try.ntmps116, List.size_toArray, List.length_cons, List.length_nil, Nat.reduceAdd, Nat.reduceSub, Array.replicate_succ, Array.replicate_zero, List.push_toArray, List.append_toArray, List.nil_append, List.cons_append]
  gi_wp2_with fail
  refine ⟨trivial, rfl, callsIn_wide.2 (Hcall.out.mono ?_)⟩
  rintro e w1 ⟨v1, ow1, rfl, hr1, hn1, hf1⟩
  have hJ1 := sJ.out 0 _ _ _ _ hJ0 (hn1.turn pi)
  obtain ⟨A, c, rfl, hnc⟩ := hr1.slice
  gi_wp2
  gi_loopw [8] (fun i wr => allRel J pi (.slice A xs.length c) xs i wr) (fun i _ => xs.length - (intOf i).toNat)
  case atStart => exact ⟨0, ow1, Nat.zero_le _, rfl, hJ1, hr1⟩
  case round =>
    obtain ⟨k, OW2, hk, rfl, hJk, hrk⟩ := hrel
    by_cases hlt : k < xs.length
    · obtain ⟨x, hx⟩ : ∃ x, xs[k]? = some x := ⟨_, List.getElem?_eq_getElem hlt⟩
      obtain ⟨b, off, cap, hv, -⟩ := hrk.at (by omega)
      simp only [Value.slice.injEq] at hv
      obtain ⟨rfl, -, rfl⟩ := hv
      obtain ⟨hb, ho, hf, hcell⟩ := hrk.open_
      have e0 := hcell (k * 1 + 0) _ (css_at xs k x hx 0 _ rfl (by omega))
      simp only [Nat.add_zero, Nat.mul_one, ← Nat.add_assoc] at e0
      have i0 : (k : Int) < (xs.length : Int) := by omega
      have hy := HY.out k _ wr OW2 (qargs_get xs k x hx) hJk
      obtain ⟨fn, tmps, assign, body, hrun, hround⟩ := hy
      clear hcell hx ho
      gi_wp2
      refine ⟨rfl, hround.mono ?_⟩
      have hrk1 := hrk
      rintro e w3 ⟨OW3, ht3, ⟨rfl, hJ3⟩ | ⟨rfl, hJ3⟩⟩
      · gi_wp2
        go_roundw
        case rel => exact ⟨k + 1, OW3, by omega, by go_num, hJ3, hrk1.keep ht3 h3⟩
        case measure => simp [intOf]; omega
      · gi_wp2
        refine bodyPost_ret (results_none rfl _ _ _) rfl ?_
        exact ⟨_, OW3, rfl, .inr ⟨k + 1, by omega, hJ3⟩⟩
    · obtain rfl : k = xs.length := by omega
      gi_wp2
      go_end0
      exact ⟨_, OW2, rfl, .inl hJk⟩


end EInt
end Go.Proofs.Ytppikbdeopagkaa
