/-
  OPS: append and make, told in CORE's words, as the walk takes them.
-/
import Derived.Test.YtnehiooioodkfaaDoorCore
import Derived.Deep.AppendSrc
import Derived.Deep.Upon
set_option linter.unusedVariables false
set_option linter.unusedSimpArgs false
namespace Go.Proofs.YtnehiooioodkfaaDoor
open Go Go.RowKit

theorem setCells_blk (g : Nat) (T : TypeId) : ∀ (vs : List Value) (o : Nat) (w : World) (c : Array Value), w.heap[g]? = some (.cells c T (0, 0)) → o + vs.length ≤ c.size →
    ∃ c', (w.setCells g o vs).heap[g]? = some (.cells c' T (0, 0)) ∧ c'.size = c.size ∧ (∀ i, i < o ∨ o + vs.length ≤ i → c'[i]? = c[i]?) ∧ (∀ j u, vs[j]? = some u → c'[o + j]? = some u)
  | [], o, w, c, h, _ => ⟨c, h, rfl, fun _ _ => rfl, fun j u hj => by simp at hj⟩
  | v :: r, o, w, c, h, hs => by
    have h1 : (w.setCell ⟨g, o, none⟩ v).heap[g]? = some (.cells (c.setIfInBounds o v) T (0, 0)) := heap_setCell_same w g o c T v h
    obtain ⟨c', e1, e2, e3, e4⟩ := setCells_blk g T r (o + 1) _ _ h1 (by simp at hs ⊢; omega)
    refine ⟨c', e1, by simpa using e2, fun i hi => ?_, fun j u hj => ?_⟩
    · rw [e3 i (by simp at hi; omega), Array.getElem?_setIfInBounds_ne (by simp at hi; omega)]
    · cases j with
      | zero =>
        have : v = u := by simpa using hj
        subst this
        rw [Nat.add_zero, e3 o (by omega)]
        have : o < c.size := by simp at hs; omega
        simp [this]
      | succ j =>
        have := e4 j u (by simpa using hj)
        rw [show o + (j + 1) = o + 1 + j by omega]
        exact this

theorem setCells_far (g : Nat) : ∀ (vs : List Value) (o : Nat) (w : World) (k : Nat), k ≠ g → (w.setCells g o vs).heap[k]? = w.heap[k]?
  | [], _, _, _, _ => rfl
  | v :: r, o, w, k, h => (setCells_far g r (o + 1) _ k h).trans (Below.heap_setCell w ⟨g, o, none⟩ v k h)

theorem setCells_turn {p : List Nat} (g : Nat) {ow : Ow} : ∀ (vs : List Value) (o : Nat) (w : World), (∀ i, p <+: ow g i) → Turn p w ow (w.setCells g o vs) ow
  | [], _, _, _ => Turn.refl _ _ _
  | v :: r, o, w, h => ((Turn.refl p w ow).setCell v (h o)).trans (setCells_turn g r (o + 1) _ h)

section
variable {P : Program} {w : World} {ow : Ow} {p : List Nat}

/-- What is appended, out of a slice that is read. -/
theorem Reads.src {sz m : Nat} {tx e' : TypeId} {x : Value} {news : List Value} (h : Reads w x m news) (hk : P.underlying tx = some (.slice e')) (hl : news.length = m * sz) (h1 : ∀ u ∈ news, u.oneCell' = true) : Src P sz tx x m news w := by
  rcases h with ⟨rfl, rfl, rfl⟩ | ⟨g, off, cap, rfl, hn, hc⟩
  · exact Src.ofNil w hk 0
  · exact Src.ofSlice w hk _ _ _ _ hl (fun j u hj => by rw [Addr.add_lit]; exact hc j u hj) h1

theorem run_append_row {t tx ty T : TypeId} {z : Value} {sz bytes : Nat} (ht : P.underlying t = some (.slice T)) (hinfo : (P.info? T).map (fun i => (i.zero, i.size, i.bytes)) = some (some z, sz, bytes)) (hz : z.cells.size = sz)
    {v : Value} {n : Nat} {cs : List Value} (hr : Row w ow p T sz v n cs) {x : Value} {m : Nat} {news : List Value} (hs : Src P sz tx x m news w) (b1 : n + m ≤ maxLen) (b2 : (n + m) * bytes ≤ 140737488355328) :
    ∃ v' w' ow', (Builtin.append_ #[t, tx] ty #[v, x]).run P w = .ok v' w' ∧ Row w' ow' p T sz v' (n + m) (cs ++ news) ∧ Turn p w ow w' ow' := by
  obtain ⟨i, hi, hz0, rfl, hby⟩ := info_parts hinfo
  have hlen : (cs ++ news).length = (n + m) * i.size := by rw [List.length_append, hr.1, hs.newsLen, Nat.add_mul]
  have hsmall : ((n + m : Nat) : Int) ≤ 9223372036854775807 := by have := b1; simp only [maxLen] at this; omega
  have grow : ∀ (base : Option Addr) (cap : Nat), v = .slice base n cap → cap < n + m → (Builtin.firstCells i.size n (.slice base n cap)).run P w.drew = .ok cs.toArray w.drew →
      ∃ v' w' ow', (Builtin.append_ #[t, tx] ty #[v, x]).run P w = .ok v' w' ∧ Row w' ow' p T i.size v' (n + m) (cs ++ news) ∧ Turn p w ow w' ow' := by
    intro base cap hv hcap hold
    subst hv
    have hrun := run_append_grow_src (P := P) w t tx ty T i z ht hi hz0 base n cap cs hold x m news hs hcap hsmall (by rw [hby]; exact growslice_fits hcap b2)
    refine ⟨_, _, ow.set w.heap.size p, hrun, ?_, ?_⟩
    · have hge := grownCap_ge w (n + m) cap T
      refine Row.new w.drew ow p T i.size (n + m) _ _ _ hlen hge (grownCap_le_maxLen w (n + m) cap T b1) ?_ ?_
      · simp only [Array.size_append, List.size_toArray, size_zeroCells, hz, hlen, ← Nat.add_mul]
        exact Nat.mul_le_mul_right _ (by omega)
      · intro j u hj
        have hlt : j < (cs ++ news).length := (List.getElem?_eq_some_iff.1 hj).1
        rw [Array.getElem?_append_left (by simpa using hlt)]
        simpa using hj
    · exact (Turn.refl p w ow).drew.alloc _ p
  rcases hr.2 with ⟨rfl, rfl⟩ | ⟨g, off, cap, c, rfl, hg, ho, hn, hm, hsz, hc⟩
  · by_cases hm : m = 0
    · subst hm
      have hnews : news = [] := List.eq_nil_of_length_eq_zero (by simpa using hs.newsLen)
      subst hnews
      refine ⟨.slice none 0 0, w, ow, ?_, by simpa using hr, Turn.refl _ _ _⟩
      exact run_append_nothing w t tx ty T i ht hi none 0 0 (Nat.le_refl _) x hs
    · have hcs : cs = [] := List.eq_nil_of_length_eq_zero (by simpa using hr.1)
      subst hcs
      exact grow none 0 rfl (by omega) (run_firstCells_none _ _ _ _ _)
  · by_cases hroom : n + m ≤ cap
    · have hb : off + n * i.size + news.length ≤ c.size := by
        have := Nat.mul_le_mul_right i.size hroom
        rw [hs.newsLen]
        rw [Nat.add_mul] at this
        omega
      have hrun := run_append_room_src (P := P) w t tx ty T i ht hi g off n cap x m news hs hroom (fun j hj => by
        have : off + n * i.size + j < c.size := by omega
        simp [World.cell?, hg, this]) (fun j _ => by simp [World.frozen?, hg])
      obtain ⟨c', e1, e2, e3, e4⟩ := setCells_blk g T news (off + n * i.size) w c hg hb
      refine ⟨_, _, ow, hrun, ⟨hlen, .inr ⟨g, off, cap, c', rfl, e1, ho, hroom, hm, by rw [e2]; exact hsz, fun j u hj => ?_⟩⟩, setCells_turn g news _ w fun i => by rw [ho]; exact List.prefix_refl _⟩
      by_cases hj' : j < cs.length
      · rw [List.getElem?_append_left hj'] at hj
        rw [e3 (off + j) (by rw [hr.1] at hj'; omega)]
        exact hc j u hj
      · rw [List.getElem?_append_right (by omega)] at hj
        have := e4 (j - cs.length) u hj
        rw [hr.1] at this
        rw [hr.1] at hj'
        rwa [show off + n * i.size + (j - n * i.size) = off + j by omega] at this
    · refine grow (some ⟨g, off, none⟩) cap rfl (by omega) ?_
      refine run_firstCells_some w.drew i.size n _ n cap cs hr.1 fun j u hj => ?_
      rw [Addr.add_lit]
      show w.cell? _ = _
      simp [World.cell?, hg, hc j u hj]

/-- append, as one operation. -/
theorem wp_append_row {o : Oper} {a : Act} {K : Act → World → Prop} {Q : Exit → Act → World → Prop} (s x : Operand) (t tx : TypeId)
    (ho : o.op = .call { callee := .builtin .append, args := #[s, x], argTypes := #[t, tx] }) (T : TypeId) (z : Value) (sz bytes : Nat) (ht : P.underlying t = some (.slice T))
    (hinfo : (P.info? T).map (fun i => (i.zero, i.size, i.bytes)) = some (some z, sz, bytes)) (hz : z.cells.size = sz)
    {v : Value} {n : Nat} {cs : List Value} (hs : a.eval s = v) (hr : Row w ow p T sz v n cs) {xv : Value} {m : Nat} {news : List Value} (hx : a.eval x = xv) (hsrc : Src P sz tx xv m news w)
    (b1 : n + m ≤ maxLen) (b2 : (n + m) * bytes ≤ 140737488355328)
    (h : ∀ v' w' ow', Row w' ow' p T sz v' (n + m) (cs ++ news) → Turn p w ow w' ow' → K (a.put o.dst v') w') : o.wp P a w K Q := by
  obtain ⟨v', w', ow', hrun, h2, h3⟩ := run_append_row (ty := o.type) ht hinfo hz hr hsrc b1 b2
  unfold Oper.wp execOp
  simp only [ho, resolve, invoke, builtin, Sem.run_bind, Sem.run_pure, Result.andThen_ok, List.map_toArray, List.map_cons, List.map_nil, hs, hx, hrun]
  exact h v' w' ow' h2 h3

/-- append, for the walk. -/
theorem wpList_append_row {ops : Array Oper} {rest : List Oper} {o : Oper} {a : Act} {Q : Exit → Act → World → Prop} (hgd : o.guard = none) (s x : Operand) (t tx : TypeId)
    (ho : o.op = .call { callee := .builtin .append, args := #[s, x], argTypes := #[t, tx] }) (T : TypeId) (z : Value) (sz bytes : Nat) (ht : P.underlying t = some (.slice T))
    (hinfo : (P.info? T).map (fun i => (i.zero, i.size, i.bytes)) = some (some z, sz, bytes)) (hz : z.cells.size = sz)
    {v : Value} {n : Nat} {cs : List Value} (hs : a.eval s = v) (hr : Row w ow p T sz v n cs) {xv : Value} {m : Nat} {news : List Value} (hx : a.eval x = xv) (hsrc : Src P sz tx xv m news w)
    (b1 : n + m ≤ maxLen) (b2 : (n + m) * bytes ≤ 140737488355328)
    (h : ∀ v' w' ow', Row w' ow' p T sz v' (n + m) (cs ++ news) → Turn p w ow w' ow' → wpList P ops Q rest (a.put o.dst v') w') : wpList P ops Q (o :: rest) a w := by
  refine wpList_plain hgd fun K hK => ?_
  obtain ⟨v', w', ow', hrun, h2, h3⟩ := run_append_row (ty := o.type) ht hinfo hz hr hsrc b1 b2
  unfold Oper.wp execOp
  simp only [ho, resolve, invoke, builtin, Sem.run_bind, Sem.run_pure, Result.andThen_ok, List.map_toArray, List.map_cons, List.map_nil, hs, hx, hrun]
  exact hK _ _ (h v' w' ow' h2 h3)

/-- append, as a step of a region that draws its order. -/
theorem step_append_row {o : Oper} {a : Act} {K : Act → World → Prop} {Q : Exit → Act → World → Prop} {E : Prop} (hgd : o.guard = none) {ops : Array Oper} (s x : Operand) (t tx : TypeId)
    (ho : o.op = .call { callee := .builtin .append, args := #[s, x], argTypes := #[t, tx] }) (T : TypeId) (z : Value) (sz bytes : Nat) (ht : P.underlying t = some (.slice T))
    (hinfo : (P.info? T).map (fun i => (i.zero, i.size, i.bytes)) = some (some z, sz, bytes)) (hz : z.cells.size = sz)
    {v : Value} {n : Nat} {cs : List Value} (hs : a.eval s = v) (hr : Row w ow p T sz v n cs) {xv : Value} {m : Nat} {news : List Value} (hx : a.eval x = xv) (hsrc : Src P sz tx xv m news w)
    (b1 : n + m ≤ maxLen) (b2 : (n + m) * bytes ≤ 140737488355328)
    (h : ∀ v' w' ow', Row w' ow' p T sz v' (n + m) (cs ++ news) → Turn p w ow w' ow' → K (a.put o.dst v') w') : if Region.wanted o (yielded ops a.tmps) = true then Oper.wp P o a w K Q else E := by
  have hw : Region.wanted o (yielded ops a.tmps) = true := by simp [Region.wanted, hgd]
  rw [if_pos hw]
  obtain ⟨v', w', ow', hrun, h2, h3⟩ := run_append_row (ty := o.type) ht hinfo hz hr hsrc b1 b2
  unfold Oper.wp execOp
  simp only [ho, resolve, invoke, builtin, Sem.run_bind, Sem.run_pure, Result.andThen_ok, List.map_toArray, List.map_cons, List.map_nil, hs, hx, hrun]
  exact h v' w' ow' h2 h3

/-- make([]T, l, c): l zeros, room for c. -/
theorem run_make_row (q : List Nat) {t T : TypeId} {z : Value} {sz bytes : Nat} (ht : P.underlying t = some (.slice T)) (hinfo : (P.info? T).map (fun i => (i.zero, i.size, i.bytes)) = some (some z, sz, bytes)) (hz : z.cells.size = sz)
    (kl kc : IntKind) (l c : Nat) (hlc : l ≤ c) (hb : bytes * c ≤ 281474976710656) (h63 : c ≤ maxLen) :
    ∃ v w' ow', (Instr.makeSlice t (.int kl (l : Int)) (.int kc (c : Int))).run P w = .ok v w' ∧ Row w' ow' q T sz v l (madeCells z.cells (l * sz)).toList ∧ New w ow w' ow' := by
  obtain ⟨i, hi, hz0, rfl, hby⟩ := info_parts hinfo
  have hb' : (i.bytes : Int) * (c : Int) ≤ 281474976710656 := by
    have h : ((i.bytes * c : Nat) : Int) ≤ 281474976710656 := by rw [hby]; omega
    rwa [Int.natCast_mul] at h
  have hr := run_make (P := P) w t T i z ht hi hz0 kl kc l c (by omega) (by omega) hb' (by simp only [maxLen] at h63; omega)
  refine ⟨_, _, ow.set w.heap.size q, hr, ?_, (New.refl _ _).alloc _ _⟩
  simp only [Int.toNat_natCast]
  refine Row.new w ow q T i.size l c _ _ (by rw [Array.length_toList, size_madeCells]) hlc h63 (by rw [size_madeCells]; exact Nat.le_refl _) fun j u hj => ?_
  have hlt : j < l * i.size := by have := (List.getElem?_eq_some_iff.1 hj).1; rwa [Array.length_toList, size_madeCells] at this
  have hle := Nat.mul_le_mul_right i.size hlc
  rw [Array.getElem?_toList] at hj
  unfold madeCells at hj ⊢
  rw [Array.getElem?_map, Array.getElem?_range, if_pos (by omega)]
  rw [Array.getElem?_map, Array.getElem?_range, if_pos hlt] at hj
  exact hj

theorem wpList_make_row (q : List Nat) (ow : Ow) {ops : Array Oper} {rest : List Oper} {o : Oper} {a : Act} {Q : Exit → Act → World → Prop} (hgd : o.guard = none) (lo co : Operand) (t : TypeId)
    (ho : o.op = .makeSlice t lo co) (T : TypeId) (z : Value) (sz bytes : Nat) (ht : P.underlying t = some (.slice T))
    (hinfo : (P.info? T).map (fun i => (i.zero, i.size, i.bytes)) = some (some z, sz, bytes)) (hz : z.cells.size = sz)
    (kl kc : IntKind) (L C : Int) (l c : Nat) (hl : a.eval lo = .int kl L) (hL : L = (l : Int)) (hc : a.eval co = .int kc C) (hC : C = (c : Int)) (hlc : l ≤ c) (hb : bytes * c ≤ 281474976710656) (h63 : c ≤ maxLen)
    (h : ∀ v w' ow', Row w' ow' q T sz v l (madeCells z.cells (l * sz)).toList → New w ow w' ow' → wpList P ops Q rest (a.put o.dst v) w') : wpList P ops Q (o :: rest) a w := by
  refine wpList_plain hgd fun K hK => ?_
  obtain ⟨v', w', ow', hrun, h2, h3⟩ := run_make_row (w := w) (ow := ow) q ht hinfo hz kl kc l c hlc hb h63
  subst hL
  subst hC
  unfold Oper.wp execOp
  simp only [ho, hl, hc, hrun, Sem.run_bind, Sem.run_pure, Result.andThen_ok]
  exact hK _ _ (h v' w' ow' h2 h3)

/-- make([]T, n), as an equation. -/
theorem run_make_eq {P : Program} {t T : TypeId} {z : Value} {sz bytes : Nat} (ht : P.underlying t = some (.slice T)) (hinfo : (P.info? T).map (fun i => (i.zero, i.size, i.bytes)) = some (some z, sz, bytes))
    (kl kc : IntKind) (l c : Nat) (hlc : l ≤ c) (hb : bytes * c ≤ 281474976710656) (h63 : c ≤ maxLen) (w : World) :
    Sem.run P (Instr.makeSlice t (.int kl (l : Int)) (.int kc (c : Int))) w = .ok (.slice (some ⟨w.heap.size, 0, none⟩) l c) (w.alloc (.cells (madeCells z.cells (c * sz)) T)) := by
  obtain ⟨i, hi, hz0, rfl, hby⟩ := info_parts hinfo
  have hb' : (i.bytes : Int) * (c : Int) ≤ 281474976710656 := by
    have h : ((i.bytes * c : Nat) : Int) ≤ 281474976710656 := by rw [hby]; omega
    rwa [Int.natCast_mul] at h
  have hrun := run_make (P := P) w t T i z ht hi hz0 kl kc l c (by omega) (by omega) hb' (by simp only [maxLen] at h63; omega)
  simpa only [Int.toNat_natCast] using hrun

/-- make([]T, l, c), as one operation, the new block in plain sight. -/
theorem wp_make_raw {o : Oper} {a : Act} {K : Act → World → Prop} {Q : Exit → Act → World → Prop} (lo co : Operand) (t : TypeId)
    (ho : o.op = .makeSlice t lo co) (T : TypeId) (z : Value) (sz bytes : Nat) (ht : P.underlying t = some (.slice T))
    (hinfo : (P.info? T).map (fun i => (i.zero, i.size, i.bytes)) = some (some z, sz, bytes))
    (kl kc : IntKind) (L C : Int) (l c : Nat) (hl : a.eval lo = .int kl L) (hL : L = (l : Int)) (hc : a.eval co = .int kc C) (hC : C = (c : Int)) (hlc : l ≤ c) (hb : bytes * c ≤ 281474976710656) (h63 : c ≤ maxLen)
    (h : K (a.put o.dst (.slice (some ⟨w.heap.size, 0, none⟩) l c)) (w.alloc (.cells (madeCells z.cells (c * sz)) T))) : o.wp P a w K Q := by
  obtain ⟨i, hi, hz0, rfl, hby⟩ := info_parts hinfo
  have hb' : (i.bytes : Int) * (c : Int) ≤ 281474976710656 := by
    have h : ((i.bytes * c : Nat) : Int) ≤ 281474976710656 := by rw [hby]; omega
    rwa [Int.natCast_mul] at h
  have hrun := run_make (P := P) w t T i z ht hi hz0 kl kc l c (by omega) (by omega) hb' (by simp only [maxLen] at h63; omega)
  subst hL
  subst hC
  unfold Oper.wp execOp
  simp only [ho, hl, hc, hrun, Sem.run_bind, Sem.run_pure, Result.andThen_ok, Int.toNat_natCast]
  exact h

/-- make([]T, l, c), the new block in plain sight. -/
theorem wpList_make_raw {ops : Array Oper} {rest : List Oper} {o : Oper} {a : Act} {Q : Exit → Act → World → Prop} (hgd : o.guard = none) (lo co : Operand) (t : TypeId)
    (ho : o.op = .makeSlice t lo co) (T : TypeId) (z : Value) (sz bytes : Nat) (ht : P.underlying t = some (.slice T))
    (hinfo : (P.info? T).map (fun i => (i.zero, i.size, i.bytes)) = some (some z, sz, bytes))
    (kl kc : IntKind) (L C : Int) (l c : Nat) (hl : a.eval lo = .int kl L) (hL : L = (l : Int)) (hc : a.eval co = .int kc C) (hC : C = (c : Int)) (hlc : l ≤ c) (hb : bytes * c ≤ 281474976710656) (h63 : c ≤ maxLen)
    (h : wpList P ops Q rest (a.put o.dst (.slice (some ⟨w.heap.size, 0, none⟩) l c)) (w.alloc (.cells (madeCells z.cells (c * sz)) T))) : wpList P ops Q (o :: rest) a w := by
  refine wpList_plain hgd fun K hK => ?_
  obtain ⟨i, hi, hz0, rfl, hby⟩ := info_parts hinfo
  have hb' : (i.bytes : Int) * (c : Int) ≤ 281474976710656 := by
    have h : ((i.bytes * c : Nat) : Int) ≤ 281474976710656 := by rw [hby]; omega
    rwa [Int.natCast_mul] at h
  have hrun := run_make (P := P) w t T i z ht hi hz0 kl kc l c (by omega) (by omega) hb' (by simp only [maxLen] at h63; omega)
  subst hL
  subst hC
  unfold Oper.wp execOp
  simp only [ho, hl, hc, hrun, Sem.run_bind, Sem.run_pure, Result.andThen_ok, Int.toNat_natCast]
  exact hK _ _ h
end

theorem madeCells_at (z : Array Value) (n i : Nat) (h : i < n) : (madeCells z n)[i]? = some z[i % z.size]! := by
  unfold madeCells
  rw [Array.getElem?_map, Array.getElem?_range, if_pos h]
  rfl

end Go.Proofs.YtnehiooioodkfaaDoor
