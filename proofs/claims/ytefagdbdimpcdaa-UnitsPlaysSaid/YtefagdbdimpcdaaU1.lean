/-
  UNITS.TABLE: what it is in memory; what asks it.
-/
import Derived.Test.YtefagdbdimpcdaaUm
import Derived.Test.YtefagdbdimpcdaaTIHP
import Derived.Test.YtefagdbdimpcdaaELkK
import Derived.Test.YtefagdbdimpcdaaEInt
import Derived.Test.YtefagdbdimpcdaaCalc
import Derived.Test.YtefagdbdimpcdaaBox
import Derived.Test.YtefagdbdimpcdaaMore
import Derived.Deep.MidRow
set_option linter.unusedVariables false
set_option linter.unusedSimpArgs false
namespace Go.Proofs.Ytefagdbdimpcdaa
open Go Go.RowKit
namespace UN

/-- A holder: its locks, and what it holds of each. -/
def Hl (w : World) (ow : Ow) (p : List Nat) (G : Nat) (ls : List Lk) : Prop := ELk.St w ow (p ++ [5, G]) G 0 ls ∧ Cells w ow (p ++ [6, G]) G 1 (h16 (heldL ls))
/-- What is free. -/
def fr (U : List Int) (T : List Tk) : List Int := (List.range U.length).map fun r : Nat => freeT U T r
theorem fr_length (U : List Int) (T : List Tk) : (fr U T).length = U.length := by simp [fr]
theorem fr_at (U : List Int) (T : List Tk) (r : Nat) (h : r < U.length) : (fr U T)[r]? = some (freeT U T r) := by simp [fr, h]
theorem fr_set (U : List Int) (T T' : List Tk) (r : Nat) (v : Int) (hr : r < U.length) (hv : freeT U T' r = v) (ho : ∀ i : Nat, i ≠ r → freeT U T' i = freeT U T i) : (fr U T).set r v = fr U T' := by
  apply List.ext_getElem?
  intro i
  by_cases e : i = r
  · subst e
    rw [List.getElem?_set_self (by rw [fr_length]; exact hr), fr_at U T' i hr, hv]
  · rw [List.getElem?_set_ne (Ne.symm e)]
    by_cases hi : i < U.length
    · rw [fr_at U T i hi, fr_at U T' i hi, ho i e]
    · rw [List.getElem?_eq_none (by rw [fr_length]; omega), List.getElem?_eq_none (by rw [fr_length]; omega)]

/-- The table, with the blocks of its holders. -/
def UTr (w : World) (ow : Ow) (p : List Nat) (g : Nat) (U C : List Int) (T : List Tk) (rows : List (Int × Nat)) : Prop :=
  Inv U C T ∧ (∃ vu vf vc, Cells w ow (p ++ [0]) g 0 [vu, vf, vc] ∧ Row w ow (p ++ [1]) 3 1 vu U.length (EInt.css U) ∧ Row w ow (p ++ [2]) 3 1 vf U.length (EInt.css (fr U T)) ∧ Row w ow (p ++ [3]) 3 1 vc U.length (EInt.css C)) ∧
    TIH.TbP w ow (p ++ [4]) g 3 rows ∧ TIH.Rise rows ∧ (rows.map (·.2)).Nodup ∧ (∀ job, TIH.has rows job = true ↔ locksOf T job ≠ []) ∧ ∀ r ∈ rows, Hl w ow p r.2 (locksOf T r.1)
def UT (w : World) (ow : Ow) (p : List Nat) (g : Nat) (U C : List Int) (T : List Tk) : Prop := ∃ rows, UTr w ow p g U C T rows
section
variable {w w1 : World} {ow ow1 : Ow} {p q : List Nat} {g : Nat} {U C : List Int} {T : List Tk} {rows : List (Int × Nat)}
theorem Hl.keep {G : Nat} {ls : List Lk} (h : Hl w ow p G ls) (t : Turn q w ow w1 ow1) (hq : ∀ s, ¬ q <+: p ++ s) : Hl w1 ow1 p G ls :=
  ⟨h.1.keep t (by simpa using hq [5, G, 0]) (by simpa using hq [5, G, 1]), h.2.keep t (hq _)⟩
theorem Hl.new_ {G : Nat} {ls : List Lk} (h : Hl w ow p G ls) (t : New w ow w1 ow1) : Hl w1 ow1 p G ls := ⟨h.1.new_ t, h.2.new_ t⟩
theorem UTr.keep (h : UTr w ow p g U C T rows) (t : Turn q w ow w1 ow1) (hq : ∀ s, ¬ q <+: p ++ s) : UTr w1 ow1 p g U C T rows := by
  obtain ⟨hi, ⟨vu, vf, vc, h1, h2, h3, h4⟩, h5, h6, h7, h8, h9⟩ := h
  exact ⟨hi, ⟨vu, vf, vc, h1.keep t (hq _), h2.keep t (hq _), h3.keep t (hq _), h4.keep t (hq _)⟩, h5.keep t (by simpa using hq [4, 0]) (by simpa using hq [4, 1]), h6, h7, h8, fun r hr => (h9 r hr).keep t hq⟩
theorem UTr.new_ (h : UTr w ow p g U C T rows) (t : New w ow w1 ow1) : UTr w1 ow1 p g U C T rows := by
  obtain ⟨hi, ⟨vu, vf, vc, h1, h2, h3, h4⟩, h5, h6, h7, h8, h9⟩ := h
  exact ⟨hi, ⟨vu, vf, vc, h1.new_ t, h2.new_ t, h3.new_ t, h4.new_ t⟩, h5.new_ t, h6, h7, h8, fun r hr => (h9 r hr).new_ t⟩
theorem UT.keep (h : UT w ow p g U C T) (t : Turn q w ow w1 ow1) (hq : ∀ s, ¬ q <+: p ++ s) : UT w1 ow1 p g U C T := by
  obtain ⟨rows, h⟩ := h
  exact ⟨rows, h.keep t hq⟩
theorem UT.new_ (h : UT w ow p g U C T) (t : New w ow w1 ow1) : UT w1 ow1 p g U C T := by
  obtain ⟨rows, h⟩ := h
  exact ⟨rows, h.new_ t⟩
theorem nodup_len : ∀ (ks ms : List Int), ks.Nodup → (∀ k ∈ ks, k ∈ ms) → ks.length ≤ ms.length
  | [], _, _, _ => Nat.zero_le _
  | k :: ks, ms, hn, hs => by
    obtain ⟨h1, h2⟩ := List.nodup_cons.1 hn
    have hk := hs k List.mem_cons_self
    have ih := nodup_len ks (ms.erase k) h2 fun x hx => (List.mem_erase_of_ne (fun e => h1 (by rw [← e]; exact hx))).2 (hs x (List.mem_cons_of_mem _ hx))
    rw [List.length_erase_of_mem hk] at ih
    have := List.length_pos_of_mem hk
    rw [List.length_cons]
    omega
theorem UTr.len (h : UTr w ow p g U C T rows) : rows.length ≤ 4080 := by
  obtain ⟨hi, -, -, h6, -, h8, -⟩ := h
  have hn : (rows.map (·.1)).Nodup := ((TIH.rise_map rows).1 h6).imp fun hab => Int.ne_of_lt hab
  have := nodup_len (rows.map (·.1)) (T.map (·.job)) hn fun k hk => by
    obtain ⟨r, hr, rfl⟩ := List.mem_map.1 hk
    have := (h8 r.1).1 ((TIH.has_iff rows h6 r.1).2 ⟨r, hr, rfl⟩)
    obtain ⟨l, hl⟩ := List.exists_mem_of_ne_nil _ this
    unfold locksOf at hl
    obtain ⟨t, ht, -⟩ := List.mem_map.1 hl
    obtain ⟨ht1, ht2⟩ := List.mem_filter.1 ht
    exact List.mem_map.2 ⟨t, ht1, by simpa using ht2⟩
  rw [List.length_map, List.length_map] at this
  have := hi.len
  omega
end

/-- Get of the table of holders. -/
theorem get_no (w : World) (ow : Ow) (p : List Nat) (g : Nat) (U C : List Int) (T : List Tk) (rows : List (Int × Nat)) (h : UTr w ow p g U C T rows) (job : Int) (hn : locksOf T job = []) :
    Calls Try.prog 49 #[.pointer (some ⟨g, 3, none⟩), .int .i64 job] w fun e w' => e = .returned (.tuple #[.pointer none, .bool false]) ∧ Below w.heap.size w w' := by
  have hl := h.len
  obtain ⟨hi, -, h5, h6, -, h8, -⟩ := h
  have hf : TIH.has rows job = false := by
    cases hh : TIH.has rows job with
    | false => rfl
    | true => exact absurd hn ((h8 job).1 hh)
  exact TIH.t_get_no w ow (p ++ [4]) g 3 rows job _ h5 (TIH.posN_pos job rows h6) hf (by omega)
theorem get_yes (w : World) (ow : Ow) (p : List Nat) (g : Nat) (U C : List Int) (T : List Tk) (rows : List (Int × Nat)) (h : UTr w ow p g U C T rows) (job : Int) (hn : locksOf T job ≠ []) :
    ∃ G, (job, G) ∈ rows ∧ Calls Try.prog 49 #[.pointer (some ⟨g, 3, none⟩), .int .i64 job] w fun e w' => e = .returned (.tuple #[.pointer (some ⟨G, 0, none⟩), .bool true]) ∧ Below w.heap.size w w' := by
  have hl := h.len
  obtain ⟨hi, -, h5, h6, -, h8, -⟩ := h
  obtain ⟨r, hr, hk⟩ := TIH.foundB_some ((h8 job).2 hn)
  refine ⟨r.2, by rw [← hk]; exact List.mem_of_getElem? hr, ?_⟩
  exact TIH.t_get_yes w ow (p ++ [4]) g 3 rows job _ r h5 (TIH.posN_pos job rows h6) hr hk (by omega)

set_option maxHeartbeats 1000000 in
theorem has (w : World) (ow : Ow) (p : List Nat) (g : Nat) (U C : List Int) (T : List Tk) (rows : List (Int × Nat)) (h : UTr w ow p g U C T rows) (res : Int) :
    Calls Try.prog 47 #[.pointer (some ⟨g, 0, none⟩), .int .i64 res] w fun e w' => e = .returned (.bool (decide (0 ≤ res ∧ res < U.length))) ∧ ∃ k, w' = w.drewN k := by
  obtain ⟨hi, ⟨vu, vf, vc, hc, h2, -⟩, -⟩ := h
  obtain ⟨A, c, rfl, -⟩ := h2.slice
  have c0 := hc.get0
  have lg := hc.lt
  go_enter Try.func47, Try.ntmps47
  by_cases h0 : 0 ≤ res
  · by_cases h1 : res < U.length
    · go_wp2
      go_ret
      exact ⟨by rw [decide_eq_true ⟨h0, h1⟩]; rfl, 0, rfl⟩
    · go_wp2
      go_ret
      exact ⟨by rw [decide_eq_false (by omega)]; rfl, 0, rfl⟩
  · go_wp2
    go_ret
    exact ⟨by rw [decide_eq_false (by omega)]; rfl, 0, rfl⟩

theorem bdC {B : Nat} {a : World} (b : Nat) (hb : B ≤ b) : ∀ (vs : List Value) (o : Nat) (w : World), Below B a w → Below B a (w.setCells b o vs)
  | [], _, _, h => h
  | v :: r, o, w, h => bdC b hb r (o + 1) _ (bdS (p := ⟨b, o, none⟩) hb h v)
theorem _root_.Go.Proofs.Ytefagdbdimpcdaa.Cells.range {w : World} {ow : Ow} {p : List Nat} {g o : Nat} {vs : List Value} (h : Cells w ow p g o vs) : w.rangeAt g o vs := fun j v hj => h.get j hj
theorem _root_.Go.Proofs.Ytefagdbdimpcdaa.Cells.there {w : World} {ow : Ow} {p : List Nat} {g o : Nat} {vs : List Value} (h : Cells w ow p g o vs) : w.there g o vs.length := fun j hj => ⟨by rw [h.get j (List.getElem?_eq_getElem hj)]; rfl, h.free _⟩
theorem info16 : (Try.prog.info? 89).map (·.size) = some 16 := by kernel_rfl

/-- A store of a whole array, as a step of the walk. -/
theorem wpList_store_cells {P : Program} {ops : Array Oper} {rest : List Oper} {op : Oper} {a : Act} {w : World} {Q : Exit → Act → World → Prop} (hgd : op.guard = none) (ty : TypeId) (x y : Operand) (ho : op.op = .store ty x y)
    (b o : Nat) (cs : List Value) (hx : a.eval x = .pointer (some ⟨b, o, none⟩)) (hy : a.eval y = .agg cs.toArray)
    (ht : w.there b o cs.length) (hi : (P.info? ty).map (·.size) = some cs.length) (h1 : ∀ v ∈ cs, v.oneCell' = true)
    (h : ∀ w', w' = w.setCells b o cs → wpList P ops Q rest (a.put op.dst undef) w') : wpList P ops Q (op :: rest) a w :=
  wpList_store_mid hgd ty x y ho b o cs.toArray hx hy (by simpa using ht) (by simpa using hi) (all_oneCell_toArray h1) (by simpa using h _ rfl)
theorem h16_one (f : Int → Int) : ∀ v ∈ h16 f, v.oneCell' = true := fun v hv => by
  simp only [h16, List.mem_cons, List.not_mem_nil, or_false] at hv
  rcases hv with rfl | rfl | rfl | rfl | rfl | rfl | rfl | rfl | rfl | rfl | rfl | rfl | rfl | rfl | rfl | rfl <;> rfl

set_option maxRecDepth 100000 in
set_option maxHeartbeats 1000000 in
theorem of (w : World) (ow : Ow) (p : List Nat) (g : Nat) (U C : List Int) (T : List Tk) (rows : List (Int × Nat)) (h : UTr w ow p g U C T rows) (job : Int) :
    Calls Try.prog 48 #[.pointer (some ⟨g, 0, none⟩), .int .i64 job] w fun e w' => e = .returned (.agg (h16 (heldL (locksOf T job))).toArray) ∧ Below w.heap.size w w' := by
  by_cases hn : locksOf T job = []
  · rw [hn]
    go_enter Try.func48, Try.ntmps48
    go_wp2_with fail
    refine (get_no _ _ _ _ _ _ _ _ (h.new_ ((New.refl _ _).alloc _ [9])) job hn).mono ?_
    rintro e w1 ⟨rfl, hb⟩
    have r0 := (Cells.new w ow [9] (h16 fun _ => 0) 89).new_ (hb.nw _)
    have lr := r0.lt
    have ht := r0.there
    have h1 := h16_one fun _ => 0
    have fin := fun vs => bdC w.heap.size (Nat.le_refl _) vs 0 _ (((Below.refl w.heap.size w).alloc (Nat.le_refl _) _).trans (hb.mono (by simp)))
    have Ht := Lib.hid ht
    have Hfin := Lib.hid fin
    have H1 := Lib.hid h1
    clear r0 hb ht fin h1
    go_wp2_with (refine wpList_store_cells rfl 89 (.tmp 4) (.tmp 17) rfl w.heap.size 0 [.int .i64 0, .int .i64 0, .int .i64 0, .int .i64 0, .int .i64 0, .int .i64 0, .int .i64 0, .int .i64 0, .int .i64 0, .int .i64 0, .int .i64 0, .int .i64 0, .int .i64 0, .int .i64 0, .int .i64 0, .int .i64 0] rfl rfl Ht.out info16 H1.out ?_)
    have hld := run_loadVar_mid (P := Try.prog) _ w.heap.size 0 89 [.int .i64 0, .int .i64 0, .int .i64 0, .int .i64 0, .int .i64 0, .int .i64 0, .int .i64 0, .int .i64 0, .int .i64 0, .int .i64 0, .int .i64 0, .int .i64 0, .int .i64 0, .int .i64 0, .int .i64 0, .int .i64 0] _ (World.rangeAt_setCells_same w1 w.heap.size 0 [.int .i64 0, .int .i64 0, .int .i64 0, .int .i64 0, .int .i64 0, .int .i64 0, .int .i64 0, .int .i64 0, .int .i64 0, .int .i64 0, .int .i64 0, .int .i64 0, .int .i64 0, .int .i64 0, .int .i64 0, .int .i64 0] Ht.out) Try.underlying89 rfl info16
    refine bodyPost_ret (v := .agg (h16 (heldL [])).toArray) ?_ rfl ⟨rfl, Hfin.out _⟩
    simp [results, Try.results48, asAddr, hld, h16, heldL]
  · obtain ⟨G, hG, hcall⟩ := get_yes _ _ _ _ _ _ _ _ (h.new_ ((New.refl w ow).alloc (.cells (h16 fun _ => 0).toArray 89) [9])) job hn
    obtain ⟨V, hV⟩ : ∃ V, V = h16 (heldL (locksOf T job)) := ⟨_, rfl⟩
    rw [← hV]
    go_enter Try.func48, Try.ntmps48
    go_wp2_with fail
    refine hcall.mono ?_
    rintro e w1 ⟨rfl, hb⟩
    have r0 := (Cells.new w ow [9] (h16 fun _ => 0) 89).new_ (hb.nw _)
    have lr := r0.lt
    have h1 := (h.new_ ((New.refl w ow).alloc (.cells (h16 fun _ => 0).toArray 89) [9])).new_ (hb.nw _)
    obtain ⟨-, hc⟩ := h1.2.2.2.2.2.2 _ hG
    simp only at hc
    rw [← hV] at hc
    have hVl : V.length = 16 := by rw [hV]; rfl
    have Hc := Lib.hid hc.range
    have Ht := Lib.hid (show w1.there w.heap.size 0 V.length by rw [hVl]; exact r0.there)
    have H1 := Lib.hid (show ∀ v ∈ V, v.oneCell' = true by rw [hV]; exact h16_one _)
    have Hi := Lib.hid (show (Try.prog.info? 89).map (·.size) = some V.length by rw [hVl]; exact info16)
    have lG := hc.lt
    have Hfin := Lib.hid fun vs => bdC w.heap.size (Nat.le_refl _) vs 0 _ (((Below.refl w.heap.size w).alloc (Nat.le_refl _) _).trans (hb.mono (by simp)))
    clear r0 hc h1 hVl hcall hb hV
    go_wp2_with (first | (refine wpList_load_mid rfl 89 (.tmp 20) rfl G 1 rfl V _ Hc.out Try.underlying89 rfl Hi.out ?_) | (refine wpList_store_cells rfl 89 (.tmp 4) (.tmp 21) rfl w.heap.size 0 V rfl rfl Ht.out Hi.out H1.out ?_))
    have hld := run_loadVar_mid (P := Try.prog) _ w.heap.size 0 89 V _ (World.rangeAt_setCells_same w1 w.heap.size 0 V Ht.out) Try.underlying89 rfl Hi.out
    refine bodyPost_ret (v := .agg V.toArray) ?_ rfl ⟨rfl, Hfin.out _⟩
    simp [results, Try.results48, asAddr, hld]
end UN
end Go.Proofs.Ytefagdbdimpcdaa
