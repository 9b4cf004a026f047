/-
  LAW 1: ShelfLevels: each call answers alike on both sides.
-/
import Derived.Test.YtppikbdeopagkaaLvP
set_option linter.unusedVariables false
set_option linter.unusedSimpArgs false
namespace Go.Proofs.Ytppikbdeopagkaa
open Go Go.RowKit
namespace RL
open EInt

theorem Same.small {n : Nat} {qs : List (List Int)} {ys : List (Int × Int)} (h : Same n qs ys) (hl : ys.length ≤ 1000000) : ∀ xs ∈ qs, xs.length ≤ 1099511627776 := fun xs hx => by
  have := SH.total_mem qs xs hx
  have := h.2.2.2
  omega
theorem nonempty {ys : List (Int × Int)} (h : ys ≠ []) : ∃ (b : Nat) (x : Int × Int), FrTo ys ys.length b ∧ ys[b]? = some x := by
  have hp : 0 < ys.length := List.length_pos_iff.2 h
  obtain ⟨b, hb⟩ := first_exists ys ys.length hp (Nat.le_refl _)
  exact ⟨b, _, hb, List.getElem?_eq_getElem hb.1⟩

theorem frontQ {n : Nat} {qs : List (List Int)} {ys : List (Int × Int)} (h : Same n qs ys) (hn : n ≤ 32) (hl : ys.length ≤ 1000000) :
    ∃ (a b : Int) (c : Bool), (∀ w ow p g, L w ow p g 0 qs → Calls Try.prog 92 #[.pointer (some ⟨g, 0, none⟩)] w fun e w' => e = .returned (.tuple #[.int .i64 a, .int .i64 b, .bool c]) ∧ Below w.heap.size w w') ∧
      (∀ w ow p g, Lv w ow p g n ys → Calls Try.prog 93 #[.pointer (some ⟨g, 0, none⟩)] w fun e w' => e = .returned (.tuple #[.int .i64 a, .int .i64 b, .bool c]) ∧ Below w.heap.size w w') := by
  have hs := h.small hl
  have hq : qs.length ≤ 32 := by rw [h.1]; exact hn
  by_cases h0 : ys = []
  · subst h0
    exact ⟨0, 0, false, fun w ow p g hL => l_front_none w ow p g 0 qs hL hs hq h.empty_, fun w ow p g hV => front_none w ow p g n hV⟩
  · obtain ⟨b, x, hb, hx⟩ := nonempty h0
    obtain ⟨i, l, e1, e2, e3, -⟩ := h.first_ hb hx
    refine ⟨x.1, x.2, true, fun w ow p g hL => ?_, fun w ow p g hV => ?_⟩
    · rw [e2]
      exact l_front_some w ow p g 0 qs i x.2 l hL hs hq e1 e3
    · refine (front_some w ow p g n ys hV h0 (by omega)).mono ?_
      rintro e w' ⟨b', x', hx', hF', rfl, bd⟩
      obtain rfl := hF'.uniq hb
      obtain rfl : x' = x := by rw [hx] at hx'; exact (Option.some.inj hx').symm
      exact ⟨rfl, bd⟩

def TkL (w : World) (ow : Ow) (p : List Nat) (g : Nat) (v : Value) (qs : List (List Int)) (e : Ending) (w' : World) : Prop := ∃ ow', e = .returned v ∧ L w' ow' p g 0 qs ∧ Turn p w ow w' ow'
theorem takeQ {n : Nat} {qs : List (List Int)} {ys : List (Int × Int)} (h : Same n qs ys) (hn : n ≤ 32) (hl : ys.length ≤ 1000000) :
    ∃ (a b : Int) (c : Bool) (qs' : List (List Int)) (ys' : List (Int × Int)), Same n qs' ys' ∧ ys'.length ≤ ys.length ∧
      (∀ w ow p g, L w ow p g 0 qs → Calls Try.prog 67 #[.pointer (some ⟨g, 0, none⟩)] w (TkL w ow p g (.tuple #[.int .i64 a, .int .i64 b, .bool c]) qs')) ∧
      (∀ w ow p g, Lv w ow p g n ys → Calls Try.prog 91 #[.pointer (some ⟨g, 0, none⟩)] w (LvP w ow p g n (.tuple #[.int .i64 a, .int .i64 b, .bool c]) ys')) := by
  have hs := h.small hl
  have hq : qs.length ≤ 32 := by rw [h.1]; exact hn
  by_cases h0 : ys = []
  · subst h0
    refine ⟨0, 0, false, qs, [], h, Nat.le_refl _, fun w ow p g hL => ?_, fun w ow p g hV => ?_⟩
    · refine (l_take_none w ow p g 0 qs hL hs hq h.empty_).mono ?_
      rintro e w' ⟨rfl, bd⟩
      exact ⟨ow, rfl, hL.new_ (bd.nw ow), (bd.nw ow).turn p⟩
    · refine (take_none w ow p g n hV).mono ?_
      rintro e w' ⟨rfl, bd⟩
      exact ⟨ow, rfl, hV.new_ (bd.nw ow), (bd.nw ow).turn p⟩
  · obtain ⟨b, x, hb, hx⟩ := nonempty h0
    obtain ⟨i, l, e1, e2, e3, e4⟩ := h.first_ hb hx
    refine ⟨x.1, x.2, true, qs.set i l, ys.eraseIdx b, e4, by rw [List.length_eraseIdx]; split <;> omega, fun w ow p g hL => ?_, fun w ow p g hV => ?_⟩
    · rw [e2]
      exact l_take_some w ow p g 0 qs i x.2 l hL hs hq e1 e3
    · refine (take_some w ow p g n ys hV h0 (by omega)).mono ?_
      rintro e w' ⟨b', x', ow', hx', hF', rfl, h5, h6⟩
      obtain rfl := hF'.uniq hb
      obtain rfl : x' = x := by rw [hx] at hx'; exact (Option.some.inj hx').symm
      exact ⟨ow', rfl, h5, h6⟩

theorem putQ {n : Nat} {qs : List (List Int)} {ys : List (Int × Int)} (h : Same n qs ys) (hn : n ≤ 32) (hl : ys.length ≤ 1000000) (lv x : Int) :
    ∃ (a : Int) (c : Bool) (qs' : List (List Int)) (ys' : List (Int × Int)), ((a = 0 ∧ c = true) ∨ (a = 1 ∧ c = false)) ∧ Same n qs' ys' ∧ ys'.length ≤ ys.length + 1 ∧
      (∀ w ow p g, L w ow p g 0 qs → Calls Try.prog 66 #[.pointer (some ⟨g, 0, none⟩), .int .i64 lv, .int .i64 x] w (TkL w ow p g (.int .i64 a) qs')) ∧
      (∀ w ow p g, Lv w ow p g n ys → Calls Try.prog 90 #[.pointer (some ⟨g, 0, none⟩), .int .i64 lv, .int .i64 x] w (LvP w ow p g n (.bool c) ys')) := by
  have hs := h.small hl
  have hq : qs.length ≤ 32 := by rw [h.1]; exact hn
  by_cases hlv : lv < 1 ∨ (n : Int) < lv
  · refine ⟨1, false, qs, ys, .inr ⟨rfl, rfl⟩, h, by omega, fun w ow p g hL => ?_, fun w ow p g hV => ?_⟩
    · refine (l_put_out w ow p g 0 qs lv x hL hq (by rw [h.1]; exact hlv)).mono ?_
      rintro e w' ⟨rfl, bd⟩
      exact ⟨ow, rfl, hL.new_ (bd.nw ow), (bd.nw ow).turn p⟩
    · refine (put_out w ow p g n ys lv x hV hlv).mono ?_
      rintro e w' ⟨rfl, bd⟩
      exact ⟨ow, rfl, hV.new_ (bd.nw ow), (bd.nw ow).turn p⟩
  · obtain ⟨i, hi⟩ : ∃ i : Nat, lv = (i : Int) + 1 := ⟨(lv - 1).toNat, by omega⟩
    obtain ⟨l, hl2⟩ : ∃ l, qs[i]? = some l := ⟨_, List.getElem?_eq_getElem (by rw [h.1]; omega)⟩
    refine ⟨0, true, qs.set i (l ++ [x]), ys ++ [(lv, x)], .inl ⟨rfl, rfl⟩, h.put hl2 hi, by rw [List.length_append]; exact Nat.le_refl _, fun w ow p g hL => ?_, fun w ow p g hV => ?_⟩
    · exact l_put w ow p g 0 qs lv i l x hL hq hi hl2 (hs _ (List.mem_of_getElem? hl2))
    · exact put w ow p g n ys lv x hV hlv (by omega)

theorem countQ {n : Nat} {qs : List (List Int)} {ys : List (Int × Int)} (h : Same n qs ys) (hn : n ≤ 32) (hl : ys.length ≤ 1000000) (w : World) (ow : Ow) (p : List Nat) (g : Nat) (lv : Int) (hL : L w ow p g 0 qs) :
    Calls Try.prog 94 #[.pointer (some ⟨g, 0, none⟩), .int .i64 lv] w fun e w' => e = .returned (.int .i64 ((atLv ys lv).length : Int)) ∧ Below w.heap.size w w' := by
  have hs := h.small hl
  have hq : qs.length ≤ 32 := by rw [h.1]; exact hn
  by_cases hlv : lv < 1 ∨ (n : Int) < lv
  · rw [h.count_out hlv]
    exact l_count_out w ow p g 0 qs lv hL hq (by rw [h.1]; exact hlv)
  · obtain ⟨i, hi⟩ : ∃ i : Nat, lv = (i : Int) + 1 := ⟨(lv - 1).toNat, by omega⟩
    obtain ⟨l, hl2⟩ : ∃ l, qs[i]? = some l := ⟨_, List.getElem?_eq_getElem (by rw [h.1]; omega)⟩
    have hc := h.count_in hl2
    rw [← hi] at hc
    rw [← hc]
    exact l_count w ow p g 0 qs lv i l hL hq hi hl2 (hs _ (List.mem_of_getElem? hl2))
theorem lenQ {n : Nat} {qs : List (List Int)} {ys : List (Int × Int)} (h : Same n qs ys) (hn : n ≤ 32) (hl : ys.length ≤ 1000000) (w : World) (ow : Ow) (p : List Nat) (g : Nat) (hL : L w ow p g 0 qs) :
    Calls Try.prog 68 #[.pointer (some ⟨g, 0, none⟩)] w fun e w' => e = .returned (.int .i64 (ys.length : Int)) ∧ ∃ k, w' = w.drewN k := by
  have := l_len w ow p g 0 qs hL (h.small hl) (by rw [h.1]; exact hn) (fun m => by have := SH.total_take_le qs m; have := h.2.2.2; omega)
  rw [h.2.2.2] at this
  exact this
end RL
end Go.Proofs.Ytppikbdeopagkaa
