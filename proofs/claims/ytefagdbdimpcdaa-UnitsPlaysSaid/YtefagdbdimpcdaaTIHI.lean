/-
  SHELF.TABLE[int, *keel/units.holder]: All, an iterator.
-/
import Derived.Test.YtefagdbdimpcdaaTIHF
import Derived.Test.YtefagdbdimpcdaaIter
set_option linter.unusedVariables false
set_option linter.unusedSimpArgs false
namespace Go.Proofs.Ytefagdbdimpcdaa
open Go Go.RowKit
namespace TIH

set_option maxHeartbeats 400000 in
theorem copied (w : World) (ow : Ow) (q : List Nat) (v : Value) (n : Nat) (xs : List (Int × Nat)) (hr : Reads w v n (css xs)) (hl : xs.length = n) (hn : n ≤ 1099511627776) :
    Calls Try.prog 78 #[v] w fun e w' => ∃ v' ow', e = .returned v' ∧ Row w' ow' q 125 2 v' n (css xs) ∧ New w ow w' ow' ∧ Fresh w.heap.size v' := by
  obtain ⟨A, c, rfl, hnc⟩ := hr.slice
  have hwl := css_length xs
  go_enter Try.func78, Try.ntmps78
  go_wp2_with (at_make; refine wpList_make_row [1] ow0 rfl _ _ 82 rfl 125 _ 2 16 Try.underlying82 info rfl _ _ _ _ 0 n rfl rfl rfl rfl (by omega) (by omega) (by unfold maxLen; omega) ?_)
  intro v1 w1 ow1 hrow hnew
  go_wp2_with (at_builtin; refine wpList_append_row rfl _ _ 82 82 rfl 125 _ 2 16 Try.underlying82 info rfl rfl hrow rfl ((hr.new_ hnew.below).src Try.underlying82 (by rw [hwl, hl]) (css_one xs)) (by unfold maxLen; omega) (by omega) ?_)
  intro v2 w2 ow2 hrow2 ht
  go_wp2
  go_ret
  have t := (hnew.turn [1]).trans ht
  exact ⟨_, _, rfl, by have := hrow2.ren t ow q; simpa [hl, madeCells] using this, t.new_ ow q, hrow2.fresh t⟩

theorem t_all (w : World) (g o : Nat) :
    Calls Try.prog 52 #[.pointer (some ⟨g, o, none⟩)] w fun e w' => e = .returned (.func (.func 77) #[] #[.pointer (some ⟨w.heap.size, 0, none⟩)]) ∧ w' = w.alloc (.cells #[.pointer (some ⟨g, o, none⟩)] 121) := by
  go_enter Try.func52, Try.ntmps52
  go_wp2
  go_ret
  exact ⟨rfl, rfl⟩

def targs (rows : List (Int × Nat)) : List (Array Value) := rows.map fun x => #[.int .i64 x.1, .pointer (some ⟨x.2, 0, none⟩)]
theorem targs_length (rows : List (Int × Nat)) : (targs rows).length = rows.length := by simp [targs]
theorem targs_at (rows : List (Int × Nat)) (k : Nat) (a : Array Value) (h : (targs rows)[k]? = some a) : ∃ x, rows[k]? = some x ∧ a = #[.int .i64 x.1, .pointer (some ⟨x.2, 0, none⟩)] := by
  simp only [targs, List.getElem?_map, Option.map_eq_some_iff] at h
  obtain ⟨x, h1, h2⟩ := h
  exact ⟨x, h1, h2.symm⟩
theorem targs_get (rows : List (Int × Nat)) (k : Nat) (x : (Int × Nat)) (h : rows[k]? = some x) : (targs rows)[k]? = some #[.int .i64 x.1, .pointer (some ⟨x.2, 0, none⟩)] := by
  simp [targs, List.getElem?_map, h]

/-- What the loop of All's closure keeps. -/
def allRel (J : Nat → World → Ow → Prop) (pi : List Nat) (v : Value) (rows : List (Int × Nat)) (i : Value) (wr : World) : Prop :=
  ∃ (k : Nat) (OW : Ow), k ≤ rows.length ∧ i = .int .i64 (k : Int) ∧ J k wr OW ∧ Row wr OW pi 125 2 v rows.length (css rows)

set_option maxRecDepth 100000 in
set_option maxHeartbeats 1000000 in
theorem t_iter (w : World) (ow : Ow) (p pc pi pb : List Nat) (g o B : Nat) (rows : List (Int × Nat)) (h : TbP w ow p g o rows) (hn : rows.length ≤ 1099511627776) (hB : Cells w ow pc B 0 [.pointer (some ⟨g, o, none⟩)])
    (h0 : ¬ pb <+: p ++ [0]) (h1 : ¬ pb <+: p ++ [1]) (h2 : ¬ pb <+: pc) (h3 : ¬ pb <+: pi) :
    Iter Try.prog 77 #[.pointer (some ⟨B, 0, none⟩)] (targs rows) pi pb w ow := by
  intro l J Jx W OW ht sJ sX hY hJ0
  have hQ := h.keep ht h0 h1
  have cB := (hB.keep ht h2).get0
  obtain ⟨vr, hc, hr⟩ := hQ
  obtain ⟨Ar, cr, rfl, -⟩ := hr.slice
  have c0 := hc.get0
  have hcall := copied W OW pi _ _ rows hr.reads rfl hn
  rw [targs_length]
  have Hcall := Lib.hid hcall
  have HY := Lib.hid hY
  have sJ := Lib.hid sJ
  clear hcall hY hr
  refine callsIn_of_wp Try.func77 rfl trivial ?_ rfl
  simp only [Try.ntmps77, List.size_toArray, List.length_cons, List.length_nil, Nat.reduceAdd, Nat.reduceSub, Array.replicate_succ, Array.replicate_zero, List.push_toArray, List.append_toArray, List.nil_append, List.cons_append]
  gi_wp2_with fail
  refine ⟨trivial, rfl, callsIn_wide.2 (Hcall.out.mono ?_)⟩
  rintro e w1 ⟨v1, ow1, rfl, hr1, hn1, hf1⟩
  have hJ1 := sJ.out 0 _ _ _ _ hJ0 (hn1.turn pi)
  obtain ⟨A, c, rfl, hnc⟩ := hr1.slice
  gi_wp2
  gi_loopw [11] (fun i wr => allRel J pi (.slice A rows.length c) rows i wr) (fun i _ => rows.length - (intOf i).toNat)
  case atStart => exact ⟨0, ow1, Nat.zero_le _, rfl, hJ1, hr1⟩
  case round =>
    obtain ⟨k, OW2, hk, rfl, hJk, hrk⟩ := hrel
    by_cases hlt : k < rows.length
    · obtain ⟨x, hx⟩ : ∃ x, rows[k]? = some x := ⟨_, List.getElem?_eq_getElem hlt⟩
      obtain ⟨b, off, cap, hv, -⟩ := hrk.at (by omega)
      simp only [Value.slice.injEq] at hv
      obtain ⟨rfl, -, rfl⟩ := hv
      obtain ⟨hb, ho, hf, hcell⟩ := hrk.open_
      have e0 := hcell (k * 2 + 0) _ (css_at rows k x hx 0 _ rfl (by omega))
      have e1 := hcell (k * 2 + 1) _ (css_at rows k x hx 1 _ rfl (by omega))
      simp only [Nat.add_zero, Nat.mul_one, ← Nat.add_assoc] at e0 e1
      have i0 : (k : Int) < (rows.length : Int) := by omega
      have hy := HY.out k _ (wr.alloc (.cells #[.int .i64 x.1, .pointer (some ⟨x.2, 0, none⟩)] 125)) OW2 (targs_get rows k x hx) (sJ.out k _ _ _ _ hJk ((((Below.refl _ _).alloc (Nat.le_refl _) _).nw OW2).turn pi))
      obtain ⟨fn, tmps, assign, body, hrun, hround⟩ := hy
      clear hcell hx ho
      gi_wp2
      refine ⟨rfl, hround.mono ?_⟩
      have hrk1 := hrk.alloc_ (.cells #[.int .i64 x.1, .pointer (some ⟨x.2, 0, none⟩)] 125)
      rintro e w3 ⟨OW3, ht3, ⟨rfl, hJ3⟩ | ⟨rfl, hJ3⟩⟩
      · gi_wp2
        go_roundw
        case rel => exact ⟨k + 1, OW3, by omega, by go_num, hJ3, hrk1.keep ht3 h3⟩
        case measure => simp [intOf]; omega
      · gi_wp2
        refine bodyPost_ret (results_none rfl _ _ _) rfl ?_
        exact ⟨_, OW3, rfl, .inr ⟨k + 1, by omega, hJ3⟩⟩
    · obtain rfl : k = rows.length := by omega
      gi_wp2
      go_end0
      exact ⟨_, OW2, rfl, .inl hJk⟩

end TIH
end Go.Proofs.Ytefagdbdimpcdaa
