/-
  TAB0: copy, clear and append-of-make over elements of several cells, told in CORE's words.
-/
import Derived.Test.YtnehiooioodkfaaDoorMore
import Derived.Laws.IdiomCopy
import Derived.Laws.Externs
import Derived.Lib.Overlaps
import Derived.Deep.AppendSrc
set_option linter.unusedVariables false
set_option linter.unusedSimpArgs false
namespace Go.Proofs.YtnehiooioodkfaaDoor
open Go Go.RowKit

/-- A row to the end of its room. -/
theorem Row.full {w : World} {ow : Ow} {p : List Nat} {T sz n c : Nat} {A : Option Addr} {cs : List Value} (h : Row w ow p T sz (.slice A n c) n cs) : ∃ fs, Row w ow p T sz (.slice A c c) c fs ∧ fs.take (n * sz) = cs ∧ n ≤ c ∧ c ≤ maxLen := by
  rcases h.2 with ⟨hv, h0⟩ | ⟨g, off, cap, c', hv, hg, ho, hn, hm, hs, hc⟩
  · simp only [Value.slice.injEq] at hv
    obtain ⟨rfl, rfl, rfl⟩ := hv
    refine ⟨[], Row.nil _ _ _ _ _, ?_, Nat.le_refl _, Nat.zero_le _⟩
    have := h.1
    simp only [Nat.zero_mul] at this
    rw [List.eq_nil_of_length_eq_zero this]; simp
  · simp only [Value.slice.injEq] at hv
    obtain ⟨rfl, -, rfl⟩ := hv
    have hle := Nat.mul_le_mul_right sz hn
    refine ⟨(c'.toList.drop off).take (c * sz), ⟨by rw [List.length_take, List.length_drop, Array.length_toList]; omega, .inr ⟨g, off, c, c', rfl, hg, ho, Nat.le_refl _, hm, hs, fun j u hj => ?_⟩⟩, ?_, hn, hm⟩
    · rw [List.getElem?_take] at hj
      split at hj
      · rw [List.getElem?_drop, Array.getElem?_toList] at hj; exact hj
      · cases hj
    · apply List.ext_getElem?
      intro j
      rw [List.getElem?_take]
      by_cases hj : j < n * sz
      · rw [if_pos hj, List.getElem?_take, if_pos (by omega), List.getElem?_drop, Array.getElem?_toList]
        have hlt : j < cs.length := by rw [h.1]; exact hj
        rw [hc j _ (List.getElem?_eq_getElem hlt), List.getElem?_eq_getElem hlt]
      · rw [if_neg hj, List.getElem?_eq_none (by rw [h.1]; omega)]

/-- Stores into a row, one behind the other. -/
theorem Row.sets {w : World} {ow : Ow} {p : List Nat} {T sz n cap b off : Nat} {cs : List Value} (h : Row w ow p T sz (.slice (some ⟨b, off, none⟩) n cap) n cs) (k : Nat) (us : List Value) (hk : k + us.length ≤ cs.length) :
    Row (w.setCells b (off + k) us) ow p T sz (.slice (some ⟨b, off, none⟩) n cap) n (cs.take k ++ us ++ cs.drop (k + us.length)) := by
  refine ⟨by rw [List.length_append, List.length_append, List.length_take, List.length_drop, ← h.1]; omega, ?_⟩
  rcases h.2 with ⟨hv, _⟩ | ⟨g, off', cap', c, hv, hg, ho, hn, hm, hs, hc⟩
  · simp at hv
  · simp only [Value.slice.injEq, Option.some.injEq, Addr.mk.injEq, and_true, true_and] at hv
    obtain ⟨⟨rfl, rfl⟩, rfl⟩ := hv
    have hle := Nat.mul_le_mul_right sz hn
    have hl := h.1
    obtain ⟨c', e1, e2, e3, e4⟩ := setCells_blk b T us (off + k) w c hg (by omega)
    refine .inr ⟨b, off, cap, c', rfl, e1, ho, hn, hm, by rw [e2]; exact hs, fun j u hj => ?_⟩
    by_cases h1 : j < k
    · rw [e3 (off + j) (by omega)]
      rw [List.append_assoc, List.getElem?_append_left (by rw [List.length_take]; omega), List.getElem?_take, if_pos h1] at hj
      exact hc j u hj
    · by_cases h2 : j < k + us.length
      · have := e4 (j - k) u (by
          rw [List.append_assoc, List.getElem?_append_right (by rw [List.length_take]; omega), List.length_take, Nat.min_eq_left (by omega), List.getElem?_append_left (by omega)] at hj
          exact hj)
        rwa [show off + k + (j - k) = off + j by omega] at this
      · rw [e3 (off + j) (by omega)]
        rw [List.getElem?_append_right (by rw [List.length_append, List.length_take]; omega), List.length_append, List.length_take, Nat.min_eq_left (by omega), List.getElem?_drop, show k + us.length + (j - (k + us.length)) = j by omega] at hj
        exact hc j u hj
theorem Row.setsTurn {w : World} {ow : Ow} {p : List Nat} {T sz n cap b off : Nat} {cs : List Value} (h : Row w ow p T sz (.slice (some ⟨b, off, none⟩) n cap) n cs) (k : Nat) (us : List Value) : Turn p w ow (w.setCells b k us) ow := by
  obtain ⟨-, ho, -, -⟩ := h.open_
  exact setCells_turn b us k w fun i => by rw [ho]; exact List.prefix_refl _

section
variable {P : Program}
/-- copy: what src held goes over. -/
theorem run_copy_wide (w : World) (dT sT ty elem : TypeId) (sz b o dLen dCap : Nat) (a : Addr) (sLen sCap : Nat) (cs : List Value)
    (hu : P.underlying dT = some (.slice elem)) (hs : (P.info? elem).map (·.size) = some sz) (hn : cs.length = Nat.min sLen dLen * sz)
    (hsrc : ∀ j v, cs[j]? = some v → w.cell? (a.add j) = some v) (hc : ∀ j, j < cs.length → (w.cell? ⟨b, o + j, none⟩).isSome = true) (hf : ∀ j, j < cs.length → w.frozen? ⟨b, o + j, none⟩ = false) (h1 : ∀ v ∈ cs, v.oneCell' = true) :
    (Builtin.copy_ #[dT, sT] ty #[.slice (some ⟨b, o, none⟩) dLen dCap, .slice (some a) sLen sCap]).run P w = .ok (goInt (Nat.min sLen dLen)) (w.setCells b o cs) := by
  have hl := run_loadCells_list (P := P) w a cs hsrc
  have hst := run_storeCells_cells (P := P) b o cs 0 w (by simpa using hc) (by simpa using hf) h1
  cases hq : P.info? elem with
  | none => simp [hq] at hs
  | some i =>
    have hi : i.size = sz := by simpa [hq] using hs
    simp [Builtin.copy_, run_underlying hu, Builtin.lenOf, Builtin.firstCells, sizeOf, typeInfo, hq, hi, ← hn, hl, hst]

/-- copy into a row's part, from what is read. -/
theorem run_copy_row (w : World) (ow : Ow) (p : List Nat) (dT sT ty T : TypeId) (sz n cap b off : Nat) (cs : List Value) (hu : P.underlying dT = some (.slice T)) (hs : (P.info? T).map (·.size) = some sz)
    (hr : Row w ow p T sz (.slice (some ⟨b, off, none⟩) n cap) n cs) (k : Nat) (hk : k ≤ n) (m : Nat) (us : List Value) {xb xo xc : Nat} (hx : ∀ j u, us[j]? = some u → w.cell? ⟨xb, xo + j, none⟩ = some u) (hl : us.length = m * sz) (hm : k + m ≤ n) (h1 : ∀ v ∈ us, v.oneCell' = true) (sLen dLen : Nat) (hmin : Nat.min sLen dLen = m) (dc : Nat) :
    (Builtin.copy_ #[dT, sT] ty #[.slice (some ⟨b, off + k * sz, none⟩) dLen dc, .slice (some ⟨xb, xo, none⟩) sLen xc]).run P w = .ok (goInt m) (w.setCells b (off + k * sz) us) := by
  obtain ⟨hb, ho, hf, hcell⟩ := hr.open_
  have hle : k * sz + m * sz ≤ n * sz := by rw [← Nat.add_mul]; exact Nat.mul_le_mul_right _ hm
  have := run_copy_wide (P := P) w dT sT ty T sz b (off + k * sz) dLen dc ⟨xb, xo, none⟩ sLen xc us hu hs (by rw [hl, hmin]) (fun j v hj => by rw [Addr.add_lit]; exact hx j v hj) (fun j hj => by
    rw [Nat.add_assoc]
    have hlt : k * sz + j < cs.length := by rw [hr.1]; omega
    rw [hcell _ _ (List.getElem?_eq_getElem hlt)]; rfl) (fun j _ => hf _) h1
  rw [hmin] at this
  exact this

/-- copy, as an operation whose run is known. -/
theorem wp_copy_run {w : World} {o : Oper} {a : Act} {K : Act → World → Prop} {Q : Exit → Act → World → Prop} (d s : Operand) (t t' : TypeId)
    (ho : o.op = .call { callee := .builtin .copy, args := #[d, s], argTypes := #[t, t'] }) (v u : Value) (hd : a.eval d = v) (hs : a.eval s = u) {v' : Value} {w' : World}
    (hr : (Builtin.copy_ #[t, t'] o.type #[v, u]).run P w = .ok v' w') (h : K (a.put o.dst v') w') : o.wp P a w K Q := by
  unfold Oper.wp execOp
  simp only [ho, resolve, invoke, builtin, Sem.run_bind, Sem.run_pure, Result.andThen_ok, List.map_toArray, List.map_cons, List.map_nil, hd, hs, hr]
  exact h
theorem wpList_copy_run {w : World} {ops : Array Oper} {rest : List Oper} {o : Oper} {a : Act} {Q : Exit → Act → World → Prop} (hgd : o.guard = none) (d s : Operand) (t t' : TypeId)
    (ho : o.op = .call { callee := .builtin .copy, args := #[d, s], argTypes := #[t, t'] }) (v u : Value) (hd : a.eval d = v) (hs : a.eval s = u) {v' : Value} {w' : World}
    (hr : (Builtin.copy_ #[t, t'] o.type #[v, u]).run P w = .ok v' w') (h : wpList P ops Q rest (a.put o.dst v') w') : wpList P ops Q (o :: rest) a w :=
  wpList_plain hgd fun _ hK => wp_copy_run d s t t' ho v u hd hs hr (hK _ _ h)

/-- append(s, make([]T, m)...) where it grows. -/
theorem run_append_zeros_row {w : World} {ow : Ow} (q : List Nat) {t tn T : TypeId} {z : Value} {sz bytes : Nat} (ht : P.underlying t = some (.slice T)) (htn : P.underlying tn = some (.int .i64)) (hinfo : (P.info? T).map (fun i => (i.zero, i.size, i.bytes)) = some (some z, sz, bytes)) (hz : z.cells.size = sz)
    {A : Option Addr} {n c : Nat} {cs : List Value} (hr : Reads w (.slice A n c) n cs) (hl : cs.length = n * sz) (m : Nat) (hsz : 0 < sz) (hm : 0 < m) (hc : c < n + m) (b1 : n + m ≤ maxLen) (b2 : (n + m) * bytes ≤ 140737488355328) :
    ∃ v' w' ow', (∀ ty, (Builtin.append_ #[t, tn] ty #[.slice A n c, .int .i64 (m : Int)]).run P w = .ok v' w') ∧ Row w' ow' q T sz v' (n + m) (cs ++ (Builtin.zeroCells z.cells m).toList) ∧ New w ow w' ow' ∧ Fresh w.heap.size v' := by
  obtain ⟨i, hi, hz0, rfl, hby⟩ := info_parts hinfo
  have h63 : ((n + m : Nat) : Int) ≤ 9223372036854775807 := by have := b1; simp only [maxLen] at this; omega
  have hw : IntKind.i64.wrap (m : Int) = m := by rw [IntKind.wrap_i64]; omega
  have hold : (Builtin.firstCells i.size n (.slice A n c)).run P w.drew = .ok cs.toArray w.drew := by
    rcases hr with ⟨hv, h0, rfl⟩ | ⟨g, off, cap, hv, hn, hcell⟩
    · simp only [Value.slice.injEq] at hv
      obtain ⟨rfl, -, -⟩ := hv
      exact run_firstCells_none _ _ _ _ _
    · simp only [Value.slice.injEq] at hv
      obtain ⟨rfl, -, rfl⟩ := hv
      exact run_firstCells_some w.drew i.size n _ n c cs hl fun j u hj => by
        rw [Addr.add_lit]
        exact hcell j u hj
  have hcap := growslice_fits hc b2
  have hge := grownCap_ge w (n + m) c T
  refine ⟨.slice (some ⟨w.heap.size, 0, none⟩) (n + m) (grownCap w (n + m) c T), w.drew.alloc (.cells (cs.toArray ++ Builtin.zeroCells z.cells m ++ Builtin.zeroCells z.cells (grownCap w (n + m) c T - (n + m))) T), ow.set w.heap.size q, ?_, ?_, ?_, ?_⟩
  · intro ty
    have hneg : ¬ ((m : Int) < 0) := by omega
    have hns : ¬ (m * i.size = 0) := Nat.mul_ne_zero (by omega) (by omega)
    have hroom : ¬ (n + m ≤ c) := by omega
    have h63' : ¬ (9223372036854775807 < (n : Int) + (m : Int)) := by omega
    have hbm : m * i.bytes ≤ (n + m) * i.bytes := Nat.mul_le_mul_right _ (by omega)
    have h48i : ¬ (281474976710656 < (m : Int) * (i.bytes : Int)) := by
      rw [← Int.natCast_mul, hby] at *
      omega
    have h48' : ¬ (281474976710656 < Builtin.nextslicecap (n + m) c * i.bytes) := by rw [hby]; omega
    simp [Builtin.append_, run_underlying ht, run_underlying htn, sizeOf, typeInfo, zeroValue, hi, hz0, asInt, asIntOf, hw, hneg, hns, hroom, h63', h48', h48i, Question.forced, hold, newRow, grownCap]
  · refine Row.new w.drew ow q T i.size (n + m) _ _ _ ?_ hge (grownCap_le_maxLen w (n + m) c T b1) ?_ ?_
    · rw [List.length_append, hl, Array.length_toList, size_zeroCells, hz, Nat.add_mul]
    · simp only [Array.size_append, List.size_toArray, size_zeroCells, hz, hl, ← Nat.add_mul]
      exact Nat.mul_le_mul_right _ (by omega)
    · intro j u hj
      have hlt := (List.getElem?_eq_some_iff.1 hj).1
      rw [Array.getElem?_append_left (by simpa using hlt)]
      rw [← Array.getElem?_toList]
      simpa using hj
  · exact (New.refl w ow).drew.alloc _ q
  · intro k hk
    simp only [Value.ownBlock, Option.map_some, Option.some.injEq] at hk
    omega
theorem wpList_append_zeros {w : World} {ops : Array Oper} {rest : List Oper} {o : Oper} {a : Act} {Q : Exit → Act → World → Prop} (hgd : o.guard = none) (s x : Operand) (t tn : TypeId)
    (ho : o.op = .call { callee := .builtin .append, args := #[s, x], argTypes := #[t, tn] }) (vs vx : Value) (hs : a.eval s = vs) (hx : a.eval x = vx)
    {v' : Value} {w' : World} (hr : ∀ ty, (Builtin.append_ #[t, tn] ty #[vs, vx]).run P w = .ok v' w') (h : wpList P ops Q rest (a.put o.dst v') w') : wpList P ops Q (o :: rest) a w := by
  refine wpList_plain hgd fun K hK => ?_
  unfold Oper.wp execOp
  simp only [ho, resolve, invoke, builtin, Sem.run_bind, Sem.run_pure, Result.andThen_ok, List.map_toArray, List.map_cons, List.map_nil, hs, hx, hr]
  exact hK _ _ h

/-- append, as an operation whose run is known. -/
theorem wp_append_eq {w : World} {o : Oper} {a : Act} {K : Act → World → Prop} {Q : Exit → Act → World → Prop} (s x : Operand) (t tn : TypeId)
    (ho : o.op = .call { callee := .builtin .append, args := #[s, x], argTypes := #[t, tn] }) (vs vx : Value) (hs : a.eval s = vs) (hx : a.eval x = vx)
    {v' : Value} {w' : World} (hr : ∀ ty, (Builtin.append_ #[t, tn] ty #[vs, vx]).run P w = .ok v' w') (h : K (a.put o.dst v') w') : o.wp P a w K Q := by
  unfold Oper.wp execOp
  simp only [ho, resolve, invoke, builtin, Sem.run_bind, Sem.run_pure, Result.andThen_ok, List.map_toArray, List.map_cons, List.map_nil, hs, hx, hr]
  exact h
theorem wpList_clear_run {w : World} {ops : Array Oper} {rest : List Oper} {o : Oper} {a : Act} {Q : Exit → Act → World → Prop} (hgd : o.guard = none) (s : Operand) (t : TypeId)
    (ho : o.op = .call { callee := .builtin .clear, args := #[s], argTypes := #[t] }) (vs : Value) (hs : a.eval s = vs)
    {v' : Value} {w' : World} (hr : ∀ ty, (Builtin.clear_ #[t] ty #[vs]).run P w = .ok v' w') (h : wpList P ops Q rest (a.put o.dst v') w') : wpList P ops Q (o :: rest) a w := by
  refine wpList_plain hgd fun K hK => ?_
  unfold Oper.wp execOp
  simp only [ho, resolve, invoke, builtin, Sem.run_bind, Sem.run_pure, Result.andThen_ok, List.map_toArray, List.map_cons, List.map_nil, hs, hr]
  exact hK _ _ h

theorem ins_cells (a x d z : List Value) (hz : z.length = x.length + d.length) (k1 k2 k3 : Nat) (h1 : k1 = a.length) (h2 : k2 = a.length + x.length) (h3 : k3 = a.length + x.length + d.length) :
    (((a ++ z).take k1 ++ x ++ (a ++ z).drop k2).take k2 ++ d ++ ((a ++ z).take k1 ++ x ++ (a ++ z).drop k2).drop k3) = a ++ x ++ d := by
  subst h1 h2 h3
  rw [List.take_left]
  have e : ∀ r : List Value, (a ++ x ++ r).take (a.length + x.length) = a ++ x := fun r => by rw [← List.length_append, List.take_left]
  rw [e, List.drop_eq_nil_of_le (by simp only [List.length_append, List.length_drop]; omega), List.append_nil]
theorem ins_cells2 (a x d g : List Value) (hg : g.length = a.length + x.length + d.length) (ha : g.take a.length = a) (k1 k2 k3 : Nat) (h1 : k1 = a.length) (h2 : k2 = a.length + x.length) (h3 : k3 = a.length + x.length + d.length) :
    ((g.take k2 ++ d ++ g.drop k3).take k1 ++ x ++ (g.take k2 ++ d ++ g.drop k3).drop k2) = a ++ x ++ d := by
  subst h1 h2 h3
  rw [List.drop_eq_nil_of_le (i := a.length + x.length + d.length) (by omega), List.append_nil]
  have hl : (g.take (a.length + x.length)).length = a.length + x.length := by rw [List.length_take]; omega
  rw [List.take_append_of_le_length (by omega), List.take_take, Nat.min_eq_left (by omega), ha]
  rw [List.drop_append, hl, Nat.sub_self, List.drop_zero, List.drop_eq_nil_of_le (by omega), List.nil_append]

/-- clear of a row's part. -/
theorem run_clear_row {w : World} {ow : Ow} {p : List Nat} {t T : TypeId} {z : Value} {sz bytes : Nat} (ht : P.underlying t = some (.slice T)) (hinfo : (P.info? T).map (fun i => (i.zero, i.size, i.bytes)) = some (some z, sz, bytes)) (hz : z.cells.size = sz) (h1 : ∀ u ∈ z.cells.toList, u.oneCell' = true)
    {n cap b off : Nat} {cs : List Value} (hr : Row w ow p T sz (.slice (some ⟨b, off, none⟩) n cap) n cs) (k : Nat) (m : Nat) (hm : 0 < m) (hk : k + m ≤ n) (dc : Nat) :
    ∀ ty, (Builtin.clear_ #[t] ty #[.slice (some ⟨b, off + k * sz, none⟩) m dc]).run P w = .ok (.tuple #[]) (w.setCells b (off + k * sz) (Builtin.zeroCells z.cells m).toList) := by
  obtain ⟨i, hi, hz0, rfl, hby⟩ := info_parts hinfo
  obtain ⟨hb, ho, hf, hcell⟩ := hr.open_
  have hle : k * i.size + m * i.size ≤ n * i.size := by rw [← Nat.add_mul]; exact Nat.mul_le_mul_right _ hk
  have hl : (Builtin.zeroCells z.cells m).toList.length = m * i.size := by rw [Array.length_toList, size_zeroCells, hz]
  have hst := run_storeCells_cells (P := P) b (off + k * i.size) (Builtin.zeroCells z.cells m).toList 0 w (fun j hj => by
    rw [Nat.add_zero, Nat.add_assoc]
    have hlt : k * i.size + j < cs.length := by rw [hr.1]; omega
    rw [hcell _ _ (List.getElem?_eq_getElem hlt)]; rfl) (fun j _ => hf _) (fun u hu => by
      obtain ⟨j, hj⟩ := List.mem_iff_getElem?.1 hu
      rw [Array.getElem?_toList] at hj
      unfold Builtin.zeroCells at hj
      rw [Array.getElem?_map] at hj
      obtain ⟨x, hx, rfl⟩ := Option.map_eq_some_iff.1 hj
      have hxlt : x < m * z.cells.size := by
        have := Array.mem_of_getElem? hx
        simpa using this
      have h0 : 0 < z.cells.size := by
        rcases Nat.eq_zero_or_pos z.cells.size with h | h
        · rw [h] at hxlt; omega
        · exact h
      have hmod : x % z.cells.size < z.cells.size := Nat.mod_lt _ h0
      refine h1 _ ?_
      rw [getElem!_pos z.cells _ hmod]
      exact Array.getElem_mem_toList hmod)
  have hm0 : ¬ m = 0 := by omega
  obtain ⟨m', rfl⟩ : ∃ m', m = m' + 1 := ⟨m - 1, by omega⟩
  rw [Nat.add_zero] at hst
  intro ty
  simp [Builtin.clear_, run_underlying ht, zeroValue, typeInfo, hi, hz0, hst]
end

end Go.Proofs.YtnehiooioodkfaaDoor
