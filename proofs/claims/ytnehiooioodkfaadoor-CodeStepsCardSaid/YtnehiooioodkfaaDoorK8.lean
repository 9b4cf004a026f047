/-
  CODE: begins, Check.
-/
import Derived.Test.YtnehiooioodkfaaDoorK5
import Derived.Test.YtnehiooioodkfaaDoorK6
set_option linter.unusedVariables false
set_option linter.unusedSimpArgs false
namespace Go.Proofs.YtnehiooioodkfaaDoor
open Go Go.RowKit
namespace CD
set_option maxRecDepth 100000 in
set_option maxHeartbeats 2000000 in
theorem begins (w : World) (ow : Ow) (p : List Nat) (g : Nat) (s : ByteArray) (k : Nat) (A : Option Addr) (nops c : Nat) (opn : Nat) (h : RB w ow p g s k (.slice A nops c) opn) (kind : Int) :
    Calls Tryd.prog 39 #[.pointer (some ⟨g, 0, none⟩), .int .i64 kind] w fun e w' => e = .returned (.int .i64 (beginsG kind nops opn)) ∧ w' = w := by
  have c2 := Cells.get h 2 rfl
  have c3 := Cells.get h 3 rfl
  simp only [Nat.zero_add] at c2 c3
  clear h
  unfold beginsG
  by_cases h1 : nops = 256
  · rw [if_pos h1]
    subst h1
    as_aux_lemma =>
    go_enter Tryd.func39, Tryd.ntmps39
    go_wp2
    go_ret
    exact ⟨rfl, rfl⟩
  rw [if_neg h1]
  have e1 : ((nops : Int) == 256) = false := beq_eq_false_iff_ne.2 (by omega)
  have e1' : ¬ (nops : Int) = 256 := by omega
  by_cases h2 : kind = 0
  · rw [if_pos (.inl h2)]
    subst h2
    as_aux_lemma =>
    go_enter Tryd.func39, Tryd.ntmps39
    go_wp2
    go_ret
    exact ⟨rfl, rfl⟩
  have e2 : (kind == 0) = false := beq_eq_false_iff_ne.2 h2
  by_cases h3 : kind = 11
  · subst h3
    by_cases h4 : opn = 0
    · rw [if_pos (.inr ⟨rfl, h4⟩)]
      subst h4
      as_aux_lemma =>
      go_enter Tryd.func39, Tryd.ntmps39
      go_wp2
      go_ret
      exact ⟨rfl, rfl⟩
    · rw [if_neg (by rintro (h | h); exact absurd h h2; exact h4 h.2), if_neg (by rintro ⟨h, -⟩; omega)]
      have e4 : ((opn : Int) == 0) = false := beq_eq_false_iff_ne.2 (by omega)
      as_aux_lemma =>
      go_enter Tryd.func39, Tryd.ntmps39
      go_wp2
      go_ret
      exact ⟨rfl, rfl⟩
  have e3 : (kind == 11) = false := beq_eq_false_iff_ne.2 h3
  rw [if_neg (by rintro (h | h); exact h2 h; exact h3 h.1)]
  by_cases h5 : kind = 10
  · subst h5
    by_cases h6 : opn = 4
    · rw [if_pos ⟨rfl, h6⟩]
      subst h6
      as_aux_lemma =>
      go_enter Tryd.func39, Tryd.ntmps39
      go_wp2
      go_ret
      exact ⟨rfl, rfl⟩
    · rw [if_neg (by rintro ⟨-, h⟩; exact h6 h)]
      have e6 : ((opn : Int) == 4) = false := beq_eq_false_iff_ne.2 (by omega)
      as_aux_lemma =>
      go_enter Tryd.func39, Tryd.ntmps39
      go_wp2
      go_ret
      exact ⟨rfl, rfl⟩
  · have e5 : (kind == 10) = false := beq_eq_false_iff_ne.2 h5
    rw [if_neg (by rintro ⟨h, -⟩; exact h5 h)]
    as_aux_lemma =>
    go_enter Tryd.func39, Tryd.ntmps39
    go_wp2
    go_ret
    exact ⟨rfl, rfl⟩

theorem drop_cons {α : Type} {xs : List α} {k : Nat} {x : α} (h : xs[k]? = some x) : xs.drop k = x :: xs.drop (k + 1) := by
  obtain ⟨hlt, rfl⟩ := List.getElem?_eq_some_iff.1 h
  exact List.drop_eq_getElem_cons hlt
def ckR (w : World) (xs : List Op4) (gn : Nat) (a b : Value) (wr : World) : Prop :=
  ∃ k op : Nat, gn = xs.length - k ∧ k ≤ xs.length ∧ op ≤ k ∧ a = .int .i64 (op : Int) ∧ b = .int .i64 (k : Int) ∧ checkG (xs.drop k) k op = checkG xs 0 0 ∧ Below w.heap.size w wr
theorem at4 {xs : List Op4} {w : World} {v : Value} (h : Reads w v xs.length (EOq.css xs)) {k : Nat} {x : Op4} (hx : xs[k]? = some x) : ∃ g off cap, v = .slice (some ⟨g, off, none⟩) xs.length cap ∧
    w.cell? ⟨g, off + k * 4, none⟩ = some (.int .i64 x.kind) ∧ w.cell? ⟨g, off + k * 4 + 1, none⟩ = some (.int .i64 x.res) ∧ w.cell? ⟨g, off + k * 4 + 2, none⟩ = some (.int .i64 x.n) ∧ w.cell? ⟨g, off + k * 4 + 3, none⟩ = some (.int .i64 x.v) := by
  have hlt := (List.getElem?_eq_some_iff.1 hx).1
  obtain ⟨g, off, cap, rfl, -, hc⟩ := h.at (by omega)
  refine ⟨g, off, cap, rfl, ?_, ?_, ?_, ?_⟩
  · exact hc _ _ (EOq.css_at xs k x hx 0 _ rfl (by omega))
  · exact hc _ _ (EOq.css_at xs k x hx 1 _ rfl (by omega))
  · exact hc _ _ (EOq.css_at xs k x hx 2 _ rfl (by omega))
  · exact hc _ _ (EOq.css_at xs k x hx 3 _ rfl (by omega))
/-- A slice of operations, read; an empty one wherever it points. -/
def Rd4 (w : World) (v : Value) (xs : List Op4) : Prop := ∃ (A : Option Addr) (c : Nat), v = .slice A xs.length c ∧ xs.length ≤ c ∧ (0 < xs.length → Reads w v xs.length (EOq.css xs))
theorem Rd4.slice {w : World} {v : Value} {xs : List Op4} (h : Rd4 w v xs) : ∃ A c, v = .slice A xs.length c ∧ xs.length ≤ c := by
  obtain ⟨A, c, h1, h2, -⟩ := h
  exact ⟨A, c, h1, h2⟩
theorem Rd4.new_ {w w1 : World} {v : Value} {xs : List Op4} (h : Rd4 w v xs) (b : Below w.heap.size w w1) : Rd4 w1 v xs := by
  obtain ⟨A, c, h1, h2, h3⟩ := h
  exact ⟨A, c, h1, h2, fun h0 => (h3 h0).new_ b⟩
theorem rd4 {w : World} {v : Value} {xs : List Op4} (h : Reads w v xs.length (EOq.css xs)) : Rd4 w v xs := by
  obtain ⟨A, c, h1, h2⟩ := h.slice
  exact ⟨A, c, h1, h2, fun _ => h⟩
theorem at4r {xs : List Op4} {w : World} {v : Value} (h : Rd4 w v xs) {k : Nat} {x : Op4} (hx : xs[k]? = some x) : ∃ g off cap, v = .slice (some ⟨g, off, none⟩) xs.length cap ∧
    w.cell? ⟨g, off + k * 4, none⟩ = some (.int .i64 x.kind) ∧ w.cell? ⟨g, off + k * 4 + 1, none⟩ = some (.int .i64 x.res) ∧ w.cell? ⟨g, off + k * 4 + 2, none⟩ = some (.int .i64 x.n) ∧ w.cell? ⟨g, off + k * 4 + 3, none⟩ = some (.int .i64 x.v) := by
  have hlt := (List.getElem?_eq_some_iff.1 hx).1
  obtain ⟨A, c, -, -, h3⟩ := h
  exact at4 (h3 (by omega)) hx
set_option maxRecDepth 100000 in
set_option maxHeartbeats 4000000 in
theorem check (w : World) (v : Value) (xs : List Op4) (h : Rd4 w v xs) (hn : xs.length ≤ 1000000) :
    Calls Tryd.prog 20 #[v] w fun e w' => e = .returned (.tuple #[.int .i64 (checkB xs).1, .int .i64 (checkB xs).2]) ∧ Below w.heap.size w w' := by
  obtain ⟨C, hC⟩ : ∃ C, checkB xs = C := ⟨_, rfl⟩
  rw [hC]
  have HC := Lib.hid hC
  clear hC
  have hfi := fields
  have Hfi := Lib.hid hfi
  clear hfi
  have H := Lib.hid h
  by_cases h256 : 256 < xs.length
  · have hc : C = (256, 4) := by rw [← HC.out]; unfold checkB; rw [if_pos h256]
    subst hc
    obtain ⟨A, c, rfl, hc2⟩ := h.slice
    have i0 : (256 : Int) < (xs.length : Int) := by omega
    clear h H
    as_aux_lemma =>
    go_enter Tryd.func20, Tryd.ntmps20
    go_wp2
    go_ret2
    exact ⟨rfl, Below.refl _ _⟩
  have i0 : ¬ (256 : Int) < (xs.length : Int) := by omega
  have hcc : checkG xs 0 0 = C := by rw [← HC.out]; unfold checkB; rw [if_neg h256]
  have HK := Lib.hid hcc
  clear hcc HC
  obtain ⟨A, c, rfl, hc2⟩ := h.slice
  clear h
  go_enter Tryd.func20, Tryd.ntmps20
  go_wp2
  go_loopg [4, 12] xs.length (fun gn a b wr => ckR w xs gn a b wr)
  case atStart => exact ⟨0, 0, rfl, Nat.zero_le _, Nat.le_refl _, rfl, rfl, rfl, Below.refl _ _⟩
  case round =>
    obtain ⟨k, op, hgk, hk, hop, rfl, rfl, hck, bd⟩ := hrel
    have Hgk := Lib.hid hgk
    have Hck := Lib.hid hck
    clear hgk hck
    by_cases hlt : k < xs.length
    · have j0 : (k : Int) < (xs.length : Int) := by omega
      obtain ⟨x, hx⟩ : ∃ x, xs[k]? = some x := ⟨_, List.getElem?_eq_getElem hlt⟩
      have hd := Hck.out
      rw [drop_cons hx] at hd
      obtain ⟨g, off, cap, hv, r0, r1, r2, r3⟩ := at4r (H.out.new_ bd) hx
      simp only [Value.slice.injEq, true_and] at hv
      obtain ⟨rfl, rfl⟩ := hv
      have Hd := Lib.hid hd
      clear hd hx Hck
      obtain ⟨kind, res, n, v⟩ := x
      simp only at r0 r1 r2 r3
      go_wp2_with fail
      obtain ⟨ow1, hB, nn, hsz⟩ := SH.add_cells wr ow0 [1] [.int .i64 kind, .int .i64 res, .int .i64 n, .int .i64 v] 32
      have Bd := nn.below
      refine (Hfi.out (wr.alloc (.cells #[.int .i64 kind, .int .i64 res, .int .i64 n, .int .i64 v] 32)) ⟨kind, res, n, v⟩).mono ?_
      rintro e w2 ⟨rfl, b2⟩
      replace hB := hB.new_ (b2.nw ow1)
      have bd2 := bd.trans ((Bd.trans (b2.mono Bd.size)).mono bd.size)
      have c0 := hB.get 0 rfl
      simp only [Nat.zero_add] at c0
      clear nn hsz Bd b2 bd hB r0 r1 r2 r3
      cases hf : fieldsB ⟨kind, res, n, v⟩ with
      | false =>
        have hc : C = ((k : Int), 30) := by rw [← HK.out, ← Hd.out, checkG, if_pos hf]
        subst hc
        as_aux_lemma =>
        go_wp2
        go_ret2
        exact ⟨rfl, bd2⟩
      | true =>
        have hf0 : ¬ fieldsB ⟨kind, res, n, v⟩ = false := by rw [hf]; simp
        by_cases h10 : kind = 10
        · subst h10
          by_cases h4 : op = 4
          · have hc : C = ((k : Int), 32) := by rw [← HK.out, ← Hd.out, checkG, if_neg hf0, if_pos rfl, if_pos h4]
            subst hc
            subst h4
            as_aux_lemma =>
            go_wp2
            go_ret2
            exact ⟨rfl, bd2⟩
          · have hst : checkG (xs.drop (k + 1)) (k + 1) (op + 1) = C := by rw [← HK.out, ← Hd.out, checkG, if_neg hf0, if_pos rfl, if_neg h4]
            have e4 : ((op : Int) == 4) = false := beq_eq_false_iff_ne.2 (by omega)
            have hwr : IntKind.i64.wrap ((op : Int) + 1) = (op : Int) + 1 := by rw [IntKind.wrap_i64]; omega
            have Hst := Lib.hid hst
            clear hst
            go_wp2
            go_roundg (xs.length - (k + 1))
            case measure => have := Hgk.out; omega
            case rel => exact ⟨k + 1, op + 1, rfl, by omega, by omega, by go_num, by go_num, by rw [HK.out]; exact Hst.out, bd2⟩
        · have e10 : (kind == 10) = false := beq_eq_false_iff_ne.2 h10
          by_cases h11 : kind = 11
          · subst h11
            by_cases h0 : op = 0
            · have hc : C = ((k : Int), 31) := by rw [← HK.out, ← Hd.out, checkG, if_neg hf0, if_neg (by simp), if_pos rfl, if_pos h0]
              subst hc
              subst h0
              as_aux_lemma =>
              go_wp2
              go_ret2
              exact ⟨rfl, bd2⟩
            · have hst : checkG (xs.drop (k + 1)) (k + 1) (op - 1) = C := by rw [← HK.out, ← Hd.out, checkG, if_neg hf0, if_neg (by simp), if_pos rfl, if_neg h0]
              have e0 : ((op : Int) == 0) = false := beq_eq_false_iff_ne.2 (by omega)
              have hwr : IntKind.i64.wrap ((op : Int) - 1) = (op : Int) - 1 := by rw [IntKind.wrap_i64]; omega
              have Hst := Lib.hid hst
              clear hst
              go_wp2
              go_roundg (xs.length - (k + 1))
              case measure => have := Hgk.out; omega
              case rel => exact ⟨k + 1, op - 1, rfl, by omega, by omega, by rw [Int.ofNat_sub (by omega)]; go_num, by go_num, by rw [HK.out]; exact Hst.out, bd2⟩
          · have e11 : (kind == 11) = false := beq_eq_false_iff_ne.2 h11
            have hst : checkG (xs.drop (k + 1)) (k + 1) op = C := by rw [← HK.out, ← Hd.out, checkG, if_neg hf0, if_neg h10, if_neg h11]
            have Hst := Lib.hid hst
            clear hst
            go_wp2
            go_roundg (xs.length - (k + 1))
            case measure => have := Hgk.out; omega
            case rel => exact ⟨k + 1, op, rfl, by omega, by omega, rfl, by go_num, by rw [HK.out]; exact Hst.out, bd2⟩
    · obtain rfl : k = xs.length := by omega
      have hfin := Hck.out
      rw [List.drop_eq_nil_of_le (Nat.le_refl _)] at hfin
      by_cases ho : 0 < op
      · have hc : C = ((xs.length : Int), 31) := by rw [← HK.out, ← hfin]; unfold checkG; rw [if_pos ho]
        subst hc
        have o0 : (0 : Int) < (op : Int) := by omega
        clear hfin Hck
        go_wp2
        go_ret2
        exact ⟨rfl, bd⟩
      · have hc : C = (0, 0) := by rw [← HK.out, ← hfin]; unfold checkG; rw [if_neg ho]
        subst hc
        obtain rfl : op = 0 := by omega
        clear hfin Hck
        go_wp2
        go_ret2
        exact ⟨rfl, bd⟩
end CD
end Go.Proofs.YtnehiooioodkfaaDoor
