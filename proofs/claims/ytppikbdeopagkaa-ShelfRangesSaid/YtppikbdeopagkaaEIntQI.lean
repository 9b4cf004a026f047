/-
  SHELF.QUEUE of int: All, an iterator.
-/
import Derived.Test.YtppikbdeopagkaaEIntQ2
import Derived.Test.YtppikbdeopagkaaIter
set_option linter.unusedVariables false
set_option linter.unusedSimpArgs false
namespace Go.Proofs.Ytppikbdeopagkaa
open Go Go.RowKit
namespace EInt

theorem q_all (w : World) (g o : Nat) :
    Calls Try.prog 71 #[.pointer (some ⟨g, o, none⟩)] w fun e w' => e = .returned (.func (.func 116) #[] #[.pointer (some ⟨w.heap.size, 0, none⟩)]) ∧ w' = w.alloc (.cells #[.pointer (some ⟨g, o, none⟩)] 89) := by
  go_enter Try.func71, Try.ntmps71
  go_wp2
  go_ret
  exact ⟨rfl, rfl⟩

def qargs (xs : List Int) : List (Array Value) := xs.mapIdx fun i x => #[.int .i64 (i : Int), .int .i64 x]
theorem qargs_length (xs : List Int) : (qargs xs).length = xs.length := by simp [qargs]
theorem qargs_at (xs : List Int) (k : Nat) (args : Array Value) (h : (qargs xs)[k]? = some args) : ∃ x, xs[k]? = some x ∧ args = #[.int .i64 (k : Int), .int .i64 x] := by
  simp only [qargs, List.getElem?_mapIdx, Option.map_eq_some_iff] at h
  obtain ⟨x, h1, h2⟩ := h
  exact ⟨x, h1, h2.symm⟩
theorem qargs_get (xs : List Int) (k : Nat) (x : Int) (h : xs[k]? = some x) : (qargs xs)[k]? = some #[.int .i64 (k : Int), .int .i64 x] := by
  simp [qargs, List.getElem?_mapIdx, h]

/-- What the loop of All's closure keeps. -/
def allRel (J : Nat → World → Ow → Prop) (pi : List Nat) (v : Value) (xs : List Int) (i : Value) (wr : World) : Prop :=
  ∃ (k : Nat) (OW : Ow), k ≤ xs.length ∧ i = .int .i64 (k : Int) ∧ J k wr OW ∧ Row wr OW pi 3 1 v xs.length (css xs)

set_option maxRecDepth 100000 in
set_option maxHeartbeats 1000000 in
theorem q_iter (w : World) (ow : Ow) (p pc pi pb : List Nat) (g o B : Nat) (xs : List Int) (h : Q w ow p g o xs) (hn : xs.length ≤ 1099511627776) (hB : Cells w ow pc B 0 [.pointer (some ⟨g, o, none⟩)])
    (h0 : ¬ pb <+: p ++ [0]) (h1 : ¬ pb <+: p ++ [1]) (h2 : ¬ pb <+: pc) (h3 : ¬ pb <+: pi) :
    Iter Try.prog 116 #[.pointer (some ⟨B, 0, none⟩)] (qargs xs) pi pb w ow := by
  intro l J Jx W OW ht sJ sX hY hJ0
  have hQ := h.keep ht h0 h1
  have cB := (hB.keep ht h2).get0
  have hcall := q_list W OW p pi g o xs hQ hn
  rw [qargs_length]
  have Hcall := Lib.hid hcall
  have HY := Lib.hid hY
  have sJ := Lib.hid sJ
  clear hcall hY
  refine callsIn_of_wp Try.func116 rfl trivial ?_ rfl
  simp only [Try.ntmps116, List.size_toArray, List.length_cons, List.length_nil, Nat.reduceAdd, Nat.reduceSub, Array.replicate_succ, Array.replicate_zero, List.push_toArray, List.append_toArray, List.nil_append, List.cons_append]
  gi_wp2_with fail
  refine ⟨trivial, rfl, callsIn_wide.2 (Hcall.out.mono ?_)⟩
  rintro e w1 ⟨v1, ow1, rfl, hr1, hn1, hf1⟩
  have hJ1 := sJ.out 0 _ _ _ _ hJ0 (hn1.turn pi)
  obtain ⟨A, c, rfl, hnc⟩ := hr1.slice
  gi_wp2
  gi_loopw [8] (fun i wr => allRel J pi (.slice A xs.length c) xs i wr) (fun i _ => xs.length - (intOf i).toNat)
  case atStart => exact ⟨0, ow1, Nat.zero_le _, rfl, hJ1, hr1⟩
  case round =>
    obtain ⟨k, OW2, hk, rfl, hJk, hrk⟩ := hrel
    by_cases hlt : k < xs.length
    · obtain ⟨x, hx⟩ : ∃ x, xs[k]? = some x := ⟨_, List.getElem?_eq_getElem hlt⟩
      obtain ⟨b, off, cap, hv, -⟩ := hrk.at (by omega)
      simp only [Value.slice.injEq] at hv
      obtain ⟨rfl, -, rfl⟩ := hv
      obtain ⟨hb, ho, hf, hcell⟩ := hrk.open_
      have e0 := hcell (k * 1 + 0) _ (css_at xs k x hx 0 _ rfl (by omega))
      simp only [Nat.add_zero, Nat.mul_one, ← Nat.add_assoc] at e0
      have i0 : (k : Int) < (xs.length : Int) := by omega
      have hy := HY.out k _ wr OW2 (qargs_get xs k x hx) hJk
      obtain ⟨fn, tmps, assign, body, hrun, hround⟩ := hy
      clear hcell hx ho
      gi_wp2
      refine ⟨rfl, hround.mono ?_⟩
      have hrk1 := hrk
      rintro e w3 ⟨OW3, ht3, ⟨rfl, hJ3⟩ | ⟨rfl, hJ3⟩⟩
      · gi_wp2
        go_roundw
        case rel => exact ⟨k + 1, OW3, by omega, by go_num, hJ3, hrk1.keep ht3 h3⟩
        case measure => simp [intOf]; omega
      · gi_wp2
        refine bodyPost_ret (results_none rfl _ _ _) rfl ?_
        exact ⟨_, OW3, rfl, .inr ⟨k + 1, by omega, hJ3⟩⟩
    · obtain rfl : k = xs.length := by omega
      gi_wp2
      go_end0
      exact ⟨_, OW2, rfl, .inl hJk⟩

end EInt
end Go.Proofs.Ytppikbdeopagkaa
