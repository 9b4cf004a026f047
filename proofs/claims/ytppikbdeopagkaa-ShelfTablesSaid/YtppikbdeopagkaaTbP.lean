/-
  TABLES: the rows of a table, rising, and the document's, in no order: both sides answer alike.
-/
import Derived.Test.YtppikbdeopagkaaTXPG
import Derived.Test.YtppikbdeopagkaaTNIP
import Derived.Test.YtppikbdeopagkaaRW2
import Derived.Test.YtppikbdeopagkaaRW3
set_option linter.unusedVariables false
set_option linter.unusedSimpArgs false
namespace Go.Proofs.Ytppikbdeopagkaa
open Go Go.RowKit
namespace TB

/-- The row of the table with text keys. -/
def pr (r : Int × Int) : Int × Pr := (r.1, ⟨r.2, Tx.tx r.2⟩)
theorem pos_pr {rows : List (Int × Int)} {k : Int} {i : Nat} (h : TNI.Pos rows k i) : TXP.Pos (rows.map pr) k i := by
  obtain ⟨h1, h2, h3⟩ := h
  refine ⟨by rw [List.length_map]; exact h1, fun t r ht hlt => ?_, fun t r ht hle => ?_⟩
  all_goals
    rw [List.getElem?_map, Option.map_eq_some_iff] at ht
    obtain ⟨x, hx, rfl⟩ := ht
  · exact h2 t x hx hlt
  · exact h3 t x hx hle
theorem found_pr (rows : List (Int × Int)) (k : Int) (i : Nat) : TXP.foundB (rows.map pr) k i = TNI.foundB rows k i := by
  unfold TXP.foundB TNI.foundB
  rw [List.getElem?_map]
  cases rows[i]? <;> rfl
theorem ins_pr (rows : List (Int × Int)) (k v : Int) (i : Nat) : TXP.insR (rows.map pr) i (k, ⟨v, Tx.tx v⟩) = (TNI.insR rows i (k, v)).map pr := by
  simp [TXP.insR, TNI.insR, pr]
theorem set_pr (rows : List (Int × Int)) (k v : Int) (i : Nat) : (rows.map pr).set i (k, ⟨v, Tx.tx v⟩) = (rows.set i (k, v)).map pr := by
  rw [List.map_set]; rfl
theorem erase_pr (rows : List (Int × Int)) (i : Nat) : (rows.map pr).eraseIdx i = (rows.eraseIdx i).map pr := by
  simp [List.eraseIdx_eq_take_drop_succ]

def Same (rows ys : List (Int × Int)) : Prop := TNI.Rise rows ∧ rows.Perm ys ∧ ∀ r ∈ rows, EInt.Rng r.1 ∧ EInt.Rng r.2
theorem Same.nil : Same [] [] := ⟨List.Pairwise.nil, List.Perm.refl _, fun r h => by cases h⟩
theorem Same.rng {rows ys : List (Int × Int)} (h : Same rows ys) : ∀ r ∈ rows.map pr, EInt.Rng r.1 := fun r hr => by
  obtain ⟨x, hx, rfl⟩ := List.mem_map.1 hr
  exact (h.2.2 x hx).1
theorem Same.len {rows ys : List (Int × Int)} (h : Same rows ys) : ys.length = rows.length := h.2.1.length_eq.symm
theorem uniq : ∀ {rows : List (Int × Int)}, TNI.Rise rows → ∀ a ∈ rows, ∀ b ∈ rows, a.1 = b.1 → a = b
  | [], _, a, ha, _, _, _ => by cases ha
  | r :: rs, h, a, ha, b, hb, e => by
    obtain ⟨h1, h2⟩ := List.pairwise_cons.1 h
    rcases List.mem_cons.1 ha with rfl | ha' <;> rcases List.mem_cons.1 hb with rfl | hb'
    · rfl
    · have := h1 b hb'; omega
    · have := h1 a ha'; omega
    · exact uniq h2 a ha' b hb' e
theorem Same.no {rows ys : List (Int × Int)} (h : Same rows ys) {k : Int} (hf : TNI.has rows k = false) : ∀ z ∈ ys, z.1 ≠ k := fun z hz e => by
  have := (TNI.has_iff rows h.1 k).2 ⟨z, h.2.1.mem_iff.2 hz, e⟩
  rw [hf] at this; cases this
theorem Same.yes {rows ys : List (Int × Int)} (h : Same rows ys) {k : Int} (hf : TNI.has rows k = true) : ¬ ∀ z ∈ ys, z.1 ≠ k := fun hn => by
  obtain ⟨r, hr, e⟩ := (TNI.has_iff rows h.1 k).1 hf
  exact hn r (h.2.1.mem_iff.1 hr) e
theorem perm_at {l : List (Int × Int)} {b : Nat} {y : Int × Int} (h : l[b]? = some y) : l.Perm (y :: l.eraseIdx b) := by
  obtain ⟨h1, rfl⟩ := List.getElem?_eq_some_iff.1 h
  rw [List.eraseIdx_eq_take_drop_succ]
  conv => lhs; rw [← List.take_append_drop b l, List.drop_eq_getElem_cons h1]
  exact List.perm_middle
theorem perm_set {l : List (Int × Int)} {b : Nat} (h : b < l.length) (x : Int × Int) : (l.set b x).Perm (x :: l.eraseIdx b) := by
  rw [List.set_eq_take_append_cons_drop, if_pos h, List.eraseIdx_eq_take_drop_succ]
  exact List.perm_middle
theorem perm_ins (rows : List (Int × Int)) (i : Nat) (x : Int × Int) : (TNI.insR rows i x).Perm (x :: rows) := by
  have : TNI.insR rows i x = rows.take i ++ x :: rows.drop i := by simp [TNI.insR]
  rw [this]
  have h := List.perm_middle (a := x) (l₁ := rows.take i) (l₂ := rows.drop i)
  rwa [List.take_append_drop] at h
/-- The row found is the document's. -/
theorem Same.at {rows ys : List (Int × Int)} (h : Same rows ys) {k : Int} {i b : Nat} {r y : Int × Int} (hr : rows[i]? = some r) (hk : r.1 = k) (hy : RW.At ys k b y) : r = y ∧ (rows.eraseIdx i).Perm (ys.eraseIdx b) := by
  have e : r = y := uniq h.1 r (List.mem_of_getElem? hr) y (h.2.1.mem_iff.2 (List.mem_of_getElem? hy.1)) (hk.trans hy.2.1.symm)
  subst e
  exact ⟨rfl, ((perm_at hr).symm.trans (h.2.1.trans (perm_at hy.1))).cons_inv⟩
theorem pos_blw (k : Int) : ∀ (rows : List (Int × Int)), TNI.Rise rows → TNI.posN k rows = RW.blw rows k
  | [], _ => rfl
  | r :: rs, h => by
    obtain ⟨h1, h2⟩ := List.pairwise_cons.1 h
    unfold TNI.posN RW.blw
    by_cases hlt : r.1 < k
    · rw [if_pos hlt, List.filter_cons_of_pos (by simpa using hlt), List.length_cons, pos_blw k rs h2]; rfl
    · rw [if_neg hlt, List.filter_cons_of_neg (by simpa using hlt)]
      have : rs.filter (fun y => decide (y.1 < k)) = [] := List.filter_eq_nil_iff.2 fun a ha => by have := h1 a ha; simp; omega
      rw [this]; rfl
theorem Same.blw {rows ys : List (Int × Int)} (h : Same rows ys) (k : Int) : RW.blw ys k = TNI.posN k rows := by
  rw [pos_blw k rows h.1]
  exact ((h.2.1.filter _).length_eq).symm
theorem Same.keys {rows ys : List (Int × Int)} (h : Same rows ys) {zs : List Int} (hz : zs.Perm (ys.map (·.1))) (hs : RW.Srt zs zs.length) : zs = rows.map (·.1) := by
  have p1 : zs.Pairwise (· ≤ ·) := List.pairwise_iff_getElem.2 fun i j hi hj hij => hs i j _ _ hij hj (List.getElem?_eq_getElem hi) (List.getElem?_eq_getElem hj)
  have p2 : (rows.map (·.1)).Pairwise (· ≤ ·) := ((TNI.rise_map rows).1 h.1).imp fun hab => Int.le_of_lt hab
  exact List.Perm.eq_of_pairwise (fun a b _ _ h1 h2 => Int.le_antisymm h1 h2) p1 p2 (hz.trans (h.2.1.symm.map _))
theorem insR_mem {rows : List (Int × Int)} {i : Nat} {x r : Int × Int} (h : r ∈ TNI.insR rows i x) : r = x ∨ r ∈ rows := by
  have := (perm_ins rows i x).mem_iff.1 h
  simpa using this

/-- Set. -/
theorem setQ2 {rows ys : List (Int × Int)} (h : Same rows ys) (k v : Int) (hk : EInt.Rng k) (hv : EInt.Rng v) (hn : rows.length ≤ 1000000) :
    ∃ (c : Bool) (rows' : List (Int × Int)), rows'.length ≤ rows.length + 1 ∧
      (∀ W OW p g, RW.Rw W OW p g ys → Calls Try.prog 73 #[.pointer (some ⟨g, 0, none⟩), .int .i64 k, .int .i64 v] W fun e w' => ∃ ow' ys', e = .returned (.bool c) ∧ Same rows' ys' ∧ RW.Rw w' ow' p g ys' ∧ Turn p W OW w' ow') ∧
      (∀ W OW p g o, TNI.TbP W OW p g o rows → Calls Try.prog 74 #[.pointer (some ⟨g, o, none⟩), .int .i64 k, .int .i64 v] W (TNI.TbL W OW p g o (.bool c) rows')) ∧
      (∀ W OW p g o, TXP.TbP W OW p g o (rows.map pr) → Calls Try.prog 75 #[.pointer (some ⟨g, o, none⟩), .string (Tx.tx k), .agg #[.int .i64 v, .string (Tx.tx v)]] W (TXP.TbL W OW p g o (.bool c) (rows'.map pr))) := by
  have hn2 : rows.length ≤ 1099511627776 := by omega
  have hn3 : ys.length ≤ 1099511627776 := by rw [h.len]; omega
  have hn4 : (rows.map pr).length ≤ 1099511627776 := by rw [List.length_map]; omega
  have hP := TNI.posN_pos k rows h.1
  have hQ := pos_pr hP
  by_cases hf : TNI.has rows k = true
  · obtain ⟨r, hr, hrk⟩ := TNI.foundB_some hf
    have hl := (List.getElem?_eq_some_iff.1 hr).1
    have hs : TNI.setT rows k v = rows.set (TNI.posN k rows) (k, v) := if_pos hf
    have hrise := TNI.setT_rise rows h.1 k v
    rw [hs] at hrise
    refine ⟨false, rows.set (TNI.posN k rows) (k, v), by rw [List.length_set]; omega, fun W OW p g hw => (RW.set_old W OW p g ys k v hw hn3 (h.yes hf)).mono ?_, fun W OW p g o ht => ?_, fun W OW p g o ht => ?_⟩
    · rintro e w' ⟨b, y, ow', hy, rfl, hw', t⟩
      obtain ⟨rfl, hpe⟩ := h.at hr hrk hy
      have hlb := (List.getElem?_eq_some_iff.1 hy.1).1
      refine ⟨ow', _, rfl, ⟨hrise, (perm_set hl _).trans ((List.Perm.cons _ hpe).trans (perm_set hlb _).symm), fun x hx => ?_⟩, hw', t⟩
      rcases List.mem_or_eq_of_mem_set hx with hx | rfl
      · exact h.2.2 x hx
      · exact ⟨hk, hv⟩
    · have := TNI.t_set_old W OW p g o rows k v _ r ht hP hr hrk hn2
      rwa [hrk] at this
    · have := TXP.t_set_old W OW p g o (rows.map pr) k ⟨v, Tx.tx v⟩ _ (pr r) ht hQ (by rw [List.getElem?_map, hr]; rfl) hrk hn4 h.rng hk
      rw [show (pr r).1 = k from hrk, set_pr] at this
      exact this
  · have hf : TNI.has rows k = false := by simpa using hf
    have hs : TNI.setT rows k v = TNI.insR rows (TNI.posN k rows) (k, v) := by unfold TNI.setT; rw [if_neg (by rw [hf]; simp)]
    have hrise := TNI.setT_rise rows h.1 k v
    rw [hs] at hrise
    have hf2 : TXP.foundB (rows.map pr) k (TNI.posN k rows) = false := by rw [found_pr]; exact hf
    refine ⟨true, TNI.insR rows (TNI.posN k rows) (k, v), by rw [(perm_ins rows _ _).length_eq, List.length_cons]; omega, fun W OW p g hw => (RW.set_new W OW p g ys k v hw hn3 (h.no hf)).mono ?_, fun W OW p g o ht => TNI.t_set_new W OW p g o rows k v _ ht hP hf hn2, fun W OW p g o ht => ?_⟩
    · rintro e w' ⟨ow', rfl, hw', t⟩
      refine ⟨ow', _, rfl, ⟨hrise, (perm_ins rows _ _).trans ((List.Perm.cons _ h.2.1).trans (List.perm_append_singleton _ _).symm), fun x hx => ?_⟩, hw', t⟩
      rcases insR_mem hx with rfl | hx
      · exact ⟨hk, hv⟩
      · exact h.2.2 x hx
    · have := TXP.t_set_new W OW p g o (rows.map pr) k ⟨v, Tx.tx v⟩ _ ht hQ hf2 hn4 h.rng hk
      rw [ins_pr] at this
      exact this

/-- Delete. -/
theorem delQ2 {rows ys : List (Int × Int)} (h : Same rows ys) (k : Int) (hk : EInt.Rng k) (hn : rows.length ≤ 1000000) :
    ∃ (c : Bool) (rows' : List (Int × Int)), rows'.length ≤ rows.length ∧
      (∀ W OW p g, RW.Rw W OW p g ys → Calls Try.prog 76 #[.pointer (some ⟨g, 0, none⟩), .int .i64 k] W fun e w' => ∃ ow' ys', e = .returned (.bool c) ∧ Same rows' ys' ∧ RW.Rw w' ow' p g ys' ∧ Turn p W OW w' ow') ∧
      (∀ W OW p g o, TNI.TbP W OW p g o rows → Calls Try.prog 77 #[.pointer (some ⟨g, o, none⟩), .int .i64 k] W (TNI.TbL W OW p g o (.bool c) rows')) ∧
      (∀ W OW p g o, TXP.TbP W OW p g o (rows.map pr) → Calls Try.prog 78 #[.pointer (some ⟨g, o, none⟩), .string (Tx.tx k)] W (TXP.TbL W OW p g o (.bool c) (rows'.map pr))) := by
  have hn2 : rows.length ≤ 1099511627776 := by omega
  have hn3 : ys.length ≤ 1099511627776 := by rw [h.len]; omega
  have hn4 : (rows.map pr).length ≤ 1099511627776 := by rw [List.length_map]; omega
  have hP := TNI.posN_pos k rows h.1
  have hQ := pos_pr hP
  by_cases hf : TNI.has rows k = true
  · obtain ⟨r, hr, hrk⟩ := TNI.foundB_some hf
    have hl := (List.getElem?_eq_some_iff.1 hr).1
    refine ⟨true, rows.eraseIdx (TNI.posN k rows), by rw [List.length_eraseIdx]; split <;> omega, fun W OW p g hw => (RW.del_yes W OW p g ys k hw hn3 (h.yes hf)).mono ?_, fun W OW p g o ht => TNI.t_delete_yes W OW p g o rows k _ r ht hP hr hrk hn2, fun W OW p g o ht => ?_⟩
    · rintro e w' ⟨b, y, ow', hy, rfl, hw', t⟩
      obtain ⟨rfl, hpe⟩ := h.at hr hrk hy
      exact ⟨ow', _, rfl, ⟨h.1.sublist (List.eraseIdx_sublist _ _), hpe, fun x hx => h.2.2 x (List.mem_of_mem_eraseIdx hx)⟩, hw', t⟩
    · have := TXP.t_delete_yes W OW p g o (rows.map pr) k _ (pr r) ht hQ (by rw [List.getElem?_map, hr]; rfl) hrk hn4 h.rng hk
      rw [erase_pr] at this
      exact this
  · have hf : TNI.has rows k = false := by simpa using hf
    have hf2 : TXP.foundB (rows.map pr) k (TNI.posN k rows) = false := by rw [found_pr]; exact hf
    refine ⟨false, rows, Nat.le_refl _, fun W OW p g hw => (RW.del_no W OW p g ys k hw hn3 (h.no hf)).mono ?_, fun W OW p g o ht => (TNI.t_delete_no W OW p g o rows k _ ht hP hf hn2).mono ?_, fun W OW p g o ht => (TXP.t_delete_no W OW p g o (rows.map pr) k _ ht hQ hf2 hn4 h.rng hk).mono ?_⟩
    · rintro e w' ⟨rfl, b⟩; exact ⟨OW, ys, rfl, h, hw.new_ (b.nw OW), (b.nw OW).turn p⟩
    · rintro e w' ⟨rfl, b⟩; exact ⟨OW, rfl, ht.new_ (b.nw OW), (b.nw OW).turn p⟩
    · rintro e w' ⟨rfl, b⟩; exact ⟨OW, rfl, ht.new_ (b.nw OW), (b.nw OW).turn p⟩

/-- Get: what each side says. -/
def GetQ (rows ys : List (Int × Int)) (k : Int) (a : Int) (b : Bool) (z : Value) : Prop :=
  (∀ W OW p g o, TNI.TbP W OW p g o rows → Calls Try.prog 79 #[.pointer (some ⟨g, o, none⟩), .int .i64 k] W fun e w' => e = .returned (.tuple #[.int .i64 a, .bool b]) ∧ Below W.heap.size W w') ∧
  (∀ W OW p g, RW.Rw W OW p g ys → Calls Try.prog 80 #[.pointer (some ⟨g, 0, none⟩), .int .i64 k] W fun e w' => e = .returned (.tuple #[.int .i64 a, .bool b]) ∧ Below W.heap.size W w') ∧
  (∀ W OW p g o, TXP.TbP W OW p g o (rows.map pr) → Calls Try.prog 81 #[.pointer (some ⟨g, o, none⟩), .string (Tx.tx k)] W fun e w' => e = .returned (.tuple #[z, .bool b]) ∧ Below W.heap.size W w')
theorem getQ {rows ys : List (Int × Int)} (h : Same rows ys) (k : Int) (hk : EInt.Rng k) (hn : rows.length ≤ 1000000) :
    GetQ rows ys k 0 false (.agg #[.int .i64 0, .string ⟨#[]⟩]) ∨ ∃ x, EInt.Rng x ∧ GetQ rows ys k x true (.agg #[.int .i64 x, .string (Tx.tx x)]) := by
  have hn2 : rows.length ≤ 1099511627776 := by omega
  have hn3 : ys.length ≤ 1099511627776 := by rw [h.len]; omega
  have hn4 : (rows.map pr).length ≤ 1099511627776 := by rw [List.length_map]; omega
  have hP := TNI.posN_pos k rows h.1
  have hQ := pos_pr hP
  by_cases hf : TNI.has rows k = true
  · obtain ⟨r, hr, hrk⟩ := TNI.foundB_some hf
    have hm := List.mem_of_getElem? hr
    refine .inr ⟨r.2, (h.2.2 r hm).2, fun W OW p g o ht => TNI.t_get_yes W OW p g o rows k _ r ht hP hr hrk hn2, fun W OW p g hw => (RW.get_yes W OW p g ys k hw hn3 (h.yes hf)).mono ?_, fun W OW p g o ht => TXP.t_get_yes W OW p g o (rows.map pr) k _ (pr r) ht hQ (by rw [List.getElem?_map, hr]; rfl) hrk hn4 h.rng hk⟩
    rintro e w' ⟨b, y, hy, rfl, hb⟩
    obtain ⟨rfl, -⟩ := h.at hr hrk hy
    exact ⟨rfl, hb⟩
  · have hf : TNI.has rows k = false := by simpa using hf
    have hf2 : TXP.foundB (rows.map pr) k (TNI.posN k rows) = false := by rw [found_pr]; exact hf
    exact .inl ⟨fun W OW p g o ht => TNI.t_get_no W OW p g o rows k _ ht hP hf hn2, fun W OW p g hw => RW.get_no W OW p g ys k hw hn3 (h.no hf), fun W OW p g o ht => TXP.t_get_no W OW p g o (rows.map pr) k _ ht hQ hf2 hn4 h.rng hk⟩
/-- A row of the table: the document has just it. -/
theorem getR {rows ys : List (Int × Int)} (h : Same rows ys) {i : Nat} {r : Int × Int} (hr : rows[i]? = some r) (hn : rows.length ≤ 1000000) :
    ∀ W OW p g, RW.Rw W OW p g ys → Calls Try.prog 80 #[.pointer (some ⟨g, 0, none⟩), .int .i64 r.1] W fun e w' => e = .returned (.tuple #[.int .i64 r.2, .bool true]) ∧ Below W.heap.size W w' := fun W OW p g hw => by
  have hn3 : ys.length ≤ 1099511627776 := by rw [h.len]; omega
  have hf := (TNI.has_iff rows h.1 r.1).2 ⟨r, List.mem_of_getElem? hr, rfl⟩
  refine (RW.get_yes W OW p g ys r.1 hw hn3 (h.yes hf)).mono ?_
  rintro e w' ⟨b, y, hy, rfl, hb⟩
  obtain ⟨rfl, -⟩ := h.at hr rfl hy
  exact ⟨rfl, hb⟩
/-- Below. -/
theorem belowQ2 {rows ys : List (Int × Int)} (h : Same rows ys) (k : Int) (hk : EInt.Rng k) (hn : rows.length ≤ 1000000) :
    ∃ n : Int, (∀ W OW p g o, TNI.TbP W OW p g o rows → Calls Try.prog 84 #[.pointer (some ⟨g, o, none⟩), .int .i64 k] W fun e w' => e = .returned (.int .i64 n) ∧ Below W.heap.size W w') ∧
      (∀ W OW p g, RW.Rw W OW p g ys → Calls Try.prog 85 #[.pointer (some ⟨g, 0, none⟩), .int .i64 k] W fun e w' => e = .returned (.int .i64 n) ∧ Below W.heap.size W w') ∧
      (∀ W OW p g o, TXP.TbP W OW p g o (rows.map pr) → Calls Try.prog 86 #[.pointer (some ⟨g, o, none⟩), .string (Tx.tx k)] W fun e w' => e = .returned (.int .i64 n) ∧ Below W.heap.size W w') := by
  have hn2 : rows.length ≤ 1099511627776 := by omega
  have hn3 : ys.length ≤ 1099511627776 := by rw [h.len]; omega
  have hn4 : (rows.map pr).length ≤ 1099511627776 := by rw [List.length_map]; omega
  have hP := TNI.posN_pos k rows h.1
  refine ⟨TNI.posN k rows, fun W OW p g o ht => TNI.t_below W OW p g o rows k _ ht hP hn2, fun W OW p g hw => ?_, fun W OW p g o ht => TXP.t_below W OW p g o (rows.map pr) k _ ht (pos_pr hP) hn4 h.rng hk⟩
  have := RW.below W OW p g ys k hw hn3
  rwa [h.blw k] at this
end TB
end Go.Proofs.Ytppikbdeopagkaa
