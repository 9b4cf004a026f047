/-
  TEXT: a number as a text of eight bytes, the greatest first; a PAIR of both.
-/
import Derived.Test.YtppikbdeopagkaaEPr
import Derived.Test.YtppikbdeopagkaaEIntP
import Derived.Test.YtppikbdeopagkaaMore
import Derived.Laws.BytesArg
import Derived.Laws.Shifts
import Derived.Laws.Bits64
import Derived.Laws.BitsLemmas
import Derived.LoopTactic
import Derived.Deep.LoopGhost
import Derived.Outline
import Derived.Lib.Hide
set_option linter.unusedVariables false
set_option linter.unusedSimpArgs false
namespace Go.Proofs.Ytppikbdeopagkaa
open Go Go.RowKit
namespace Tx

/-- Byte j of U, the greatest first. -/
def byteAt (U : Int) (j : Nat) : Int := U / 2 ^ (56 - 8 * j) % 256
def be (U : Int) : List Int := (List.range 8).map (byteAt U)
def tx (n : Int) : ByteArray := strOfNums (be (n + 9223372036854775808))
def bc (U : Int) (m : Nat) : List Value := (List.range 8).map fun j => .int .u8 (if j < m then byteAt U j else 0)
theorem bc_set (U : Int) (m : Nat) (h : m < 8) : (bc U m).set m (.int .u8 (byteAt U m)) = bc U (m + 1) := by
  apply List.ext_getElem?
  intro j
  by_cases hj : j = m
  · subst hj
    simp [bc, h]
  · rw [List.getElem?_set_ne (Ne.symm hj)]
    by_cases h8 : j < 8
    · simp only [bc, List.getElem?_map, List.getElem?_range h8, Option.map_some]
      by_cases hlt : j < m
      · rw [if_pos hlt, if_pos (by omega)]
      · rw [if_neg hlt, if_neg (by omega)]
    · simp [bc, h8]
def textRel (w : World) (g : Nat) (U : Int) (gn : Nat) (i : Value) (wr : World) : Prop :=
  ∃ (m : Nat) (OW : Ow), gn = 8 - m ∧ m ≤ 8 ∧ i = .int .i64 (m : Int) ∧ Cells wr OW [1] g 0 (bc U m) ∧ Turn [1] w ow0 wr OW

set_option maxRecDepth 100000 in
set_option maxHeartbeats 4000000 in
theorem text (w : World) (n : Int) (hn : -9223372036854775808 ≤ n ∧ n ≤ 9223372036854775807) :
    Calls Try.prog 72 #[.int .i64 n] w fun e w' => e = .returned (.string (tx n)) ∧ Below w.heap.size w w' := by
  have hmk : ∀ w : World, (Instr.makeSlice 162 (.int .i64 8) (.int .i64 8)).run Try.prog w = .ok (.slice (some ⟨w.heap.size, 0, none⟩) 8 8) (w.alloc (.cells (bc 0 0).toArray 5)) := fun w => by
    have h := run_make_eq (P := Try.prog) (t := 162) (T := 5) (z := .int .u8 0) (sz := 1) (bytes := 1) Try.underlying162 (by kernel_rfl) .i64 .i64 8 8 (by omega) (by omega) (by unfold maxLen; omega) w
    rw [show madeCells (Value.int .u8 0).cells (8 * 1) = (bc 0 0).toArray by kernel_rfl] at h
    exact h
  obtain ⟨U, rfl⟩ : ∃ U, n = U - 9223372036854775808 := ⟨n + 9223372036854775808, by omega⟩
  have hw : IntKind.u64.wrap (IntKind.u64.wrap (U - 9223372036854775808) + 9223372036854775808) = U := by
    simp only [IntKind.wrap_u64]; omega
  have u1 : 0 ≤ U := by omega
  have u2 : U < 18446744073709551616 := by omega
  have hz : bc 0 0 = bc U 0 := by kernel_rfl
  have c0 := Cells.new w ow0 [1] (bc 0 0) 5
  have t0 := ((New.refl w ow0).alloc (.cells (bc 0 0).toArray 5) [1]).turn [1]
  rw [hz] at c0 t0
  rw [show tx (U - 9223372036854775808) = strOfNums (be U) by rw [tx, Int.sub_add_cancel]]
  go_enter Try.func72, Try.ntmps72
  go_wp2_with fail
  clear hz hw hn hmk
  generalize w.alloc (.cells (bc U 0).toArray 5) = w1 at *
  generalize ow0.set w.heap.size [1] = ow1 at *
  generalize w.heap.size = g at *
  go_loopg [5] 8 (fun gn i wr => textRel w g U gn i wr)
  case atStart => exact ⟨0, ow1, rfl, Nat.zero_le _, rfl, c0, t0⟩
  case round =>
    clear c0 t0
    obtain ⟨m, OW, hgm, hm, rfl, hc, t⟩ := hrel
    by_cases h8 : m < 8
    · have i0 : (m : Int) < 8 := by omega
      have i1 : IntKind.i64.wrap (56 - IntKind.i64.wrap (8 * (m : Int))) = ((56 - 8 * m : Nat) : Int) := by simp only [IntKind.wrap_i64]; omega
      have hb : (bc U m)[m]? = some (.int .u8 0) := by simp [bc, h8]
      have cm := hc.get m hb
      have f0 := hc.free m
      have lg := hc.lt
      have ho := hc.owner m (by simp [bc, h8])
      simp only [Nat.zero_add] at cm ho
      have hs := bc_set U m h8
      have hc2 := hc.set m (.int .u8 (byteAt U m)) (by simp [bc, h8])
      have t2 := t.setCell (g := g) (o := m) (.int .u8 (byteAt U m)) (by rw [ho]; exact List.prefix_refl _)
      rw [hs] at hc2
      simp only [Nat.zero_add, byteAt] at hc2 t2
      have Hgm := Lib.hid hgm
      clear hgm hb hs hc t
      go_wp2
      go_roundg (8 - (m + 1))
      case measure => have := Hgm.out; omega
      case rel => exact ⟨m + 1, OW, rfl, by omega, by go_num, hc2, t2⟩
    · obtain rfl : m = 8 := by omega
      have hk := run_convert_bytes_arg (P := Try.prog) wr 162 5 Try.underlying162 Try.underlying5 g 0 8 8 (be U) rfl (fun i hi => hc.get i (by simp [bc, be, hi])) 9 Try.underlying9
      have fin := (t.new_ ow0 [1]).below
      clear hgm hm hc t
      go_wp2
      go_ret
      exact ⟨rfl, fin⟩

/-- A pair of a number and its text. -/
def mkP (n : Int) : Pr := ⟨n, tx n⟩

set_option maxRecDepth 100000 in
set_option maxHeartbeats 4000000 in
theorem pair (w : World) (n : Int) (hn : -9223372036854775808 ≤ n ∧ n ≤ 9223372036854775807) :
    Calls Try.prog 40 #[.int .i64 n] w fun e w' => e = .returned (.agg #[.int .i64 n, .string (tx n)]) ∧ Below w.heap.size w w' := by
  have c0 := Cells.new w ow0 [1] [.int .i64 0, .string ⟨#[]⟩] 62
  have t0 := ((New.refl w ow0).alloc (.cells #[.int .i64 0, .string ⟨#[]⟩] 62) [1]).turn [1]
  go_enter Try.func40, Try.ntmps40
  go_wp2_with fail
  generalize w.alloc (.cells #[.int .i64 0, .string ⟨#[]⟩] 62) = w0 at *
  generalize ow0.set w.heap.size [1] = ow1 at *
  generalize w.heap.size = g at *
  refine (text w0 n hn).mono ?_
  rintro e w1 ⟨rfl, b1⟩
  have hc := c0.new_ (b1.nw ow1)
  have t1 := t0.trans ((b1.nw ow1).turn [1])
  have c0 := hc.get 0 rfl
  have c1 := hc.get 1 rfl
  have f0 := hc.free 0
  have f1 := hc.free 1
  have lg := hc.lt
  have o0 := hc.owner 0 (by simp)
  have o1 := hc.owner 1 (by simp)
  simp only [Nat.zero_add] at c0 c1 o0 o1
  have h2 := (hc.set 0 (.int .i64 n) (by simp)).set 1 (.string (tx n)) (by simp)
  have t2 := (t1.setCell (g := g) (o := 0) (.int .i64 n) (by rw [o0]; exact List.prefix_refl _)).setCell (g := g) (o := 1) (.string (tx n)) (by rw [o1]; exact List.prefix_refl _)
  simp only [Nat.zero_add] at h2
  have r0 := h2.get 0 rfl
  have r1 := h2.get 1 rfl
  simp only [Nat.zero_add] at r0 r1
  have l2 := h2.lt
  go_wp2
  generalize (w1.setCell ⟨g, 0, none⟩ (.int .i64 n)).setCell ⟨g, 1, none⟩ (.string (tx n)) = w2 at *
  refine bodyPost_ret (v := .agg #[.int .i64 n, .string (tx n)]) (by simp [results, Try.results40, go_sem, r0, r1]) rfl ⟨rfl, (t2.new_ ow0 [1]).below⟩

theorem _root_.Go.Proofs.Ytppikbdeopagkaa.EInt.Cov.of_reads {w : World} {A : Option Addr} {n c : Nat} {us : List Value} (h : Reads w (.slice A n c) n us) : EInt.Cov w A us := fun h0 => by
  rcases h with ⟨hv, hn, hu⟩ | ⟨g, off, cap, hv, -, hc⟩
  · subst hu; simp at h0
  · simp only [Value.slice.injEq] at hv
    obtain ⟨rfl, -, rfl⟩ := hv
    exact ⟨g, off, rfl, hc⟩

set_option maxRecDepth 100000 in
set_option maxHeartbeats 4000000 in
theorem pairs (w : World) (v1 : Value) (A2 : Option Addr) (c2 : Nat) (xs : List Int) (hb : xs.length ≤ 1099511627776) (hr : ∀ x ∈ xs, EInt.Rng x) (h1 : Reads w v1 xs.length (EPr.css (xs.map mkP))) (h2 : EInt.Cov w A2 (EInt.css xs)) :
    Calls Try.prog 45 #[v1, .slice A2 xs.length c2] w fun e w' => e = .returned (.bool true) ∧ Below w.heap.size w w' := by
  obtain ⟨A1, c1, rfl, r1⟩ : ∃ A c, v1 = .slice A xs.length c ∧ (0 < xs.length → ∃ g off, A = some ⟨g, off, none⟩ ∧ ∀ j u, (EPr.css (xs.map mkP))[j]? = some u → w.cell? ⟨g, off + j, none⟩ = some u) := by
    rcases h1 with ⟨rfl, h0, -⟩ | ⟨g, off, cap, rfl, -, hc⟩
    · exact ⟨none, 0, by rw [h0], fun h => by omega⟩
    · exact ⟨_, cap, rfl, fun _ => ⟨g, off, rfl, hc⟩⟩
  have r2 : 0 < xs.length → ∃ g off, A2 = some ⟨g, off, none⟩ ∧ ∀ j u, (EInt.css xs)[j]? = some u → w.cell? ⟨g, off + j, none⟩ = some u := fun h => h2 (by rw [EInt.css_length]; omega)
  have R1 := Lib.hid r1
  have R2 := Lib.hid r2
  have Hr := Lib.hid hr
  clear r1 r2 h1 h2 hr
  go_enter Try.func45, Try.ntmps45
  go_wp2
  go_loopw [5] (fun i wr => ∃ m : Nat, m ≤ xs.length ∧ i = .int .i64 m ∧ Below w.heap.size w wr) (fun i _ => xs.length - (intOf i).toNat)
  case atStart => exact ⟨0, Nat.zero_le _, rfl, Below.refl _ _⟩
  case round =>
    obtain ⟨m, hm, rfl, bd⟩ := hrel
    by_cases hlt : m < xs.length
    · obtain ⟨x, hx⟩ : ∃ x, xs[m]? = some x := ⟨_, List.getElem?_eq_getElem hlt⟩
      have hxp : (xs.map mkP)[m]? = some (mkP x) := by rw [List.getElem?_map, hx]; rfl
      have hrx := Hr.out x (List.mem_of_getElem? hx)
      obtain ⟨g1, o1, rfl, s1⟩ := R1.out (by omega)
      obtain ⟨g2, o2, rfl, s2⟩ := R2.out (by omega)
      have a0 := s1 (m * 2 + 0) _ (EPr.css_at _ m _ hxp 0 _ rfl (by omega))
      have a1 := s1 (m * 2 + 1) _ (EPr.css_at _ m _ hxp 1 _ rfl (by omega))
      have b0 := s2 (m * 1 + 0) _ (EInt.css_at xs m x hx 0 _ rfl (by omega))
      simp only [Nat.add_zero, Nat.mul_one, ← Nat.add_assoc] at a0 a1 b0
      have l1 := World.block_lt_of_cell? w _ a0
      have l2 := World.block_lt_of_cell? w _ b0
      simp only at l1 l2
      have a0 := (bd.cell (p := ⟨g1, o1 + m * 2, none⟩) l1).trans a0
      have a1 := (bd.cell (p := ⟨g1, o1 + m * 2 + 1, none⟩) l1).trans a1
      have b0 := (bd.cell (p := ⟨g2, o2 + m, none⟩) l2).trans b0
      have i0 : (m : Int) < (xs.length : Int) := by omega
      clear s1 s2 R1 R2 hx hxp
      go_wp2_with fail
      refine plain_regionN (fun W' => W'.cell? ⟨g1, o1 + m * 2, none⟩ = some (.int .i64 x) ∧ W'.cell? ⟨g1, o1 + m * 2 + 1, none⟩ = some (.string (tx x)) ∧ W'.cell? ⟨g2, o2 + m, none⟩ = some (.int .i64 x)) [] (by kernel_rfl) ?_
      have hS : (fun W' : World => W'.cell? ⟨g1, o1 + m * 2, none⟩ = some (.int .i64 x) ∧ W'.cell? ⟨g1, o1 + m * 2 + 1, none⟩ = some (.string (tx x)) ∧ W'.cell? ⟨g2, o2 + m, none⟩ = some (.int .i64 x)) wr.drew := ⟨a0, a1, b0⟩
      refine anyX_takeN 0 (v := ?_) rfl rfl (by kernel_rfl) (by kernel_rfl) (by kernel_rfl) (by kernel_rfl) (by kernel_rfl) (fun _ _ _ h => h) rfl ?_ hS ?_
      rotate_left
      · intro W' hW'
        obtain ⟨s0, s1, s2⟩ := hW'
        all_goals (go_simp; first | done | rfl)
      intro tm' htm
      simp only [List.setIfInBounds_toArray, List.set_cons_succ, List.set_cons_zero] at htm
      subst htm
      refine anyX_takeN 1 (v := ?_) rfl rfl (by kernel_rfl) (by kernel_rfl) (by kernel_rfl) (by kernel_rfl) (by kernel_rfl) (fun _ _ _ h => h) rfl ?_ hS ?_
      rotate_left
      · intro W' hW'
        obtain ⟨s0, s1, s2⟩ := hW'
        all_goals (go_simp; first | done | rfl)
      intro tm' htm
      simp only [List.setIfInBounds_toArray, List.set_cons_succ, List.set_cons_zero] at htm
      subst htm
      refine anyX_takeN 2 (v := ?_) rfl rfl (by kernel_rfl) (by kernel_rfl) (by kernel_rfl) (by kernel_rfl) (by kernel_rfl) (fun _ _ _ h => h) rfl ?_ hS ?_
      rotate_left
      · intro W' hW'
        obtain ⟨s0, s1, s2⟩ := hW'
        all_goals (go_simp; first | done | rfl)
      intro tm' htm
      simp only [List.setIfInBounds_toArray, List.set_cons_succ, List.set_cons_zero] at htm
      subst htm
      refine anyX_takeN 3 (v := ?_) rfl rfl (by kernel_rfl) (by kernel_rfl) (by kernel_rfl) (by kernel_rfl) (by kernel_rfl) (fun _ _ _ h => h) rfl ?_ hS ?_
      rotate_left
      · intro W' hW'
        obtain ⟨s0, s1, s2⟩ := hW'
        all_goals (go_simp; first | done | rfl)
      intro tm' htm
      simp only [List.setIfInBounds_toArray, List.set_cons_succ, List.set_cons_zero] at htm
      subst htm
      refine anyX_takeN 4 (v := ?_) rfl rfl (by kernel_rfl) (by kernel_rfl) (by kernel_rfl) (by kernel_rfl) (by kernel_rfl) (fun _ _ _ h => h) rfl ?_ hS ?_
      rotate_left
      · intro W' hW'
        obtain ⟨s0, s1, s2⟩ := hW'
        all_goals (go_simp; first | done | rfl)
      intro tm' htm
      simp only [List.setIfInBounds_toArray, List.set_cons_succ, List.set_cons_zero] at htm
      subst htm
      refine anyX_takeN 5 (v := ?_) rfl rfl (by kernel_rfl) (by kernel_rfl) (by kernel_rfl) (by kernel_rfl) (by kernel_rfl) (fun _ _ _ h => h) rfl ?_ hS ?_
      rotate_left
      · intro W' hW'
        obtain ⟨s0, s1, s2⟩ := hW'
        all_goals (go_simp; first | done | rfl)
      intro tm' htm
      simp only [List.setIfInBounds_toArray, List.set_cons_succ, List.set_cons_zero] at htm
      subst htm
      refine anyX_takeN 6 (v := ?_) rfl rfl (by kernel_rfl) (by kernel_rfl) (by kernel_rfl) (by kernel_rfl) (by kernel_rfl) (fun _ _ _ h => h) rfl ?_ hS ?_
      rotate_left
      · intro W' hW'
        obtain ⟨s0, s1, s2⟩ := hW'
        all_goals (go_simp; first | done | rfl)
      intro tm' htm
      simp only [List.setIfInBounds_toArray, List.set_cons_succ, List.set_cons_zero] at htm
      subst htm
      refine anyX_takeN 7 (v := ?_) rfl rfl (by kernel_rfl) (by kernel_rfl) (by kernel_rfl) (by kernel_rfl) (by kernel_rfl) (fun _ _ _ h => h) rfl ?_ hS ?_
      rotate_left
      · intro W' hW'
        obtain ⟨s0, s1, s2⟩ := hW'
        all_goals (go_simp; first | done | rfl)
      intro tm' htm
      simp only [List.setIfInBounds_toArray, List.set_cons_succ, List.set_cons_zero] at htm
      subst htm
      refine anyX_one (i := 8) (by kernel_rfl) rfl rfl fun K' hK' => ?_
      unfold Oper.wp
      go_simp
      refine (pair _ x hrx).mono ?_
      rintro e w5 ⟨rfl, b5⟩
      have b5 : Below wr.heap.size wr w5 := ⟨b5.os, b5.tape, b5.output, b5.size, b5.block⟩
      have bs := bd.size
      have hS : (fun W' : World => W'.cell? ⟨g1, o1 + m * 2, none⟩ = some (.int .i64 x) ∧ W'.cell? ⟨g1, o1 + m * 2 + 1, none⟩ = some (.string (tx x)) ∧ W'.cell? ⟨g2, o2 + m, none⟩ = some (.int .i64 x)) w5 := ⟨(b5.cell (p := ⟨g1, o1 + m * 2, none⟩) (by show g1 < _; omega)).trans a0, (b5.cell (p := ⟨g1, o1 + m * 2 + 1, none⟩) (by show g1 < _; omega)).trans a1, (b5.cell (p := ⟨g2, o2 + m, none⟩) (by show g2 < _; omega)).trans b0⟩
      refine hK' _ _ (fun _ => hS) ?_
      clear hK' K'
      refine anyX_one (i := 9) (by kernel_rfl) rfl rfl fun K' hK' => ?_
      unfold Oper.wp
      go_simp
      refine hK' _ _ (fun _ => hS) (anyX_done (by kernel_rfl) ?_ _)
      refine NoPanic.normal ?_
      clear hK' K'
      have fin := bd.trans (b5.mono bd.size)
      go_wp2
      exact ⟨⟨m + 1, by omega, by go_num, fin⟩, by simp only [intOf]; omega⟩
    · obtain rfl : m = xs.length := by omega
      go_wp2
      go_ret
      exact ⟨rfl, bd⟩

end Tx
end Go.Proofs.Ytppikbdeopagkaa
