import Derived.Test.YtnehiooioodkfaaDoorK8
import Derived.Test.YtnehiooioodkfaaDoorKN
import Derived.Test.YtnehiooioodkfaaDoorKS
import Derived.Laws.BytesArg
import Derived.Lib.ItoaMem
import Derived.Lib.ItoaLen
import Derived.LoopTactic
import Derived.Deep.LoopGhost
import Derived.Test.YtnehiooioodkfaaDoorKC
import Derived.Deep.CutRange
import Derived.Deep.CutBlock
/-
  CODE: the document's answer: words, forms, bounds, whether an operation fits.
-/
set_option linter.unusedVariables false
set_option linter.unusedSimpArgs false
namespace Go.Proofs.YtnehiooioodkfaaDoor
open Go Go.RowKit
namespace CR
open CD
def formsB : List ByteArray := [⟨#[]⟩, ⟨#[82, 78]⟩, ⟨#[82]⟩, ⟨#[86]⟩, ⟨#[]⟩, ⟨#[83]⟩, ⟨#[82]⟩, ⟨#[82]⟩, ⟨#[]⟩, ⟨#[]⟩, ⟨#[83, 66]⟩, ⟨#[]⟩]
def formB (k : Nat) : ByteArray := (formsB[k]?).getD ⟨#[]⟩
set_option maxRecDepth 100000 in
theorem words (w : World) : Calls Tryd.prog 51 #[] w fun e w' => e = .returned (.slice (some ⟨w.heap.size, 0, none⟩) 12 12) ∧ w' = w.alloc (.cells (wordsB.map Value.string).toArray 9) := by
  go_enter Tryd.func51, Tryd.ntmps51
  go_wp2
  go_ret
  exact ⟨rfl, rfl⟩
set_option maxRecDepth 100000 in
theorem form (w : World) (k : Nat) (hk : k < 12) : Calls Tryd.prog 52 #[.int .i64 (k : Int)] w fun e w' => e = .returned (.string (formB k)) ∧ Below w.heap.size w w' := by
  have hl : Loc (w.alloc (.cells (formsB.map Value.string).toArray 9)) w.heap.size (formsB.map Value.string) := Loc.make rfl rfl
  have hg := hl.get k (u := .string (formB k)) (by
    have : k < formsB.length := hk
    rw [List.getElem?_map, List.getElem?_eq_getElem this]
    unfold formB
    rw [List.getElem?_eq_getElem this]
    rfl)
  have hg' : (w.alloc (.cells #[.string ⟨#[]⟩, .string ⟨#[82, 78]⟩, .string ⟨#[82]⟩, .string ⟨#[86]⟩, .string ⟨#[]⟩, .string ⟨#[83]⟩, .string ⟨#[82]⟩, .string ⟨#[82]⟩, .string ⟨#[]⟩, .string ⟨#[]⟩, .string ⟨#[83, 66]⟩, .string ⟨#[]⟩] 9)).cell? ⟨w.heap.size, k, none⟩ = some (.string (formB k)) := hg
  have i0 : (k : Int) < 12 := by omega
  have bd : Below w.heap.size w (w.alloc (.cells #[.string ⟨#[]⟩, .string ⟨#[82, 78]⟩, .string ⟨#[82]⟩, .string ⟨#[86]⟩, .string ⟨#[]⟩, .string ⟨#[83]⟩, .string ⟨#[82]⟩, .string ⟨#[82]⟩, .string ⟨#[]⟩, .string ⟨#[]⟩, .string ⟨#[83, 66]⟩, .string ⟨#[]⟩] 9)) := (Below.refl _ _).alloc (Nat.le_refl _) _
  clear hl hg
  go_enter Tryd.func52, Tryd.ntmps52
  go_wp2
  go_ret
  exact ⟨rfl, bd⟩
/-- Is a number in the bounds of its place? -/
def boundB (p : Int) (n : Int) : Bool := if p = 82 then decide (0 ≤ n) && decide (n < 16) else if p = 78 then decide (1 ≤ n) && decide (n ≤ 255) else if p = 83 then decide (1 ≤ n) && decide (n ≤ 4096) else true
theorem bound (w : World) (p n : Int) : Calls Tryd.prog 54 #[.int .u8 p, .int .i64 n] w fun e w' => e = .returned (.bool (boundB p n)) ∧ w' = w := by
  unfold boundB
  by_cases h1 : p = 82
  · subst h1
    rw [if_pos rfl]
    by_cases a : (0 : Int) ≤ n
    · by_cases b : n < 16
      · rw [decide_eq_true a, decide_eq_true b]
        go_enter Tryd.func54, Tryd.ntmps54
        go_wp2
        go_ret
        exact ⟨rfl, rfl⟩
      · rw [decide_eq_true a, decide_eq_false b]
        go_enter Tryd.func54, Tryd.ntmps54
        go_wp2
        go_ret
        exact ⟨rfl, rfl⟩
    · rw [decide_eq_false a]
      go_enter Tryd.func54, Tryd.ntmps54
      go_wp2
      go_ret
      exact ⟨rfl, rfl⟩
  · have e1 : (p == 82) = false := beq_eq_false_iff_ne.2 h1
    rw [if_neg h1]
    by_cases h2 : p = 78
    · subst h2
      rw [if_pos rfl]
      by_cases a : (1 : Int) ≤ n
      · by_cases b : n ≤ 255
        · rw [decide_eq_true a, decide_eq_true b]
          go_enter Tryd.func54, Tryd.ntmps54
          go_wp2
          go_ret
          exact ⟨rfl, rfl⟩
        · rw [decide_eq_true a, decide_eq_false b]
          go_enter Tryd.func54, Tryd.ntmps54
          go_wp2
          go_ret
          exact ⟨rfl, rfl⟩
      · rw [decide_eq_false a]
        go_enter Tryd.func54, Tryd.ntmps54
        go_wp2
        go_ret
        exact ⟨rfl, rfl⟩
    · have e2 : (p == 78) = false := beq_eq_false_iff_ne.2 h2
      rw [if_neg h2]
      by_cases h3 : p = 83
      · subst h3
        rw [if_pos rfl]
        by_cases a : (1 : Int) ≤ n
        · by_cases b : n ≤ 4096
          · rw [decide_eq_true a, decide_eq_true b]
            go_enter Tryd.func54, Tryd.ntmps54
            go_wp2
            go_ret
            exact ⟨rfl, rfl⟩
          · rw [decide_eq_true a, decide_eq_false b]
            go_enter Tryd.func54, Tryd.ntmps54
            go_wp2
            go_ret
            exact ⟨rfl, rfl⟩
        · rw [decide_eq_false a]
          go_enter Tryd.func54, Tryd.ntmps54
          go_wp2
          go_ret
          exact ⟨rfl, rfl⟩
      · have e3 : (p == 83) = false := beq_eq_false_iff_ne.2 h3
        rw [if_neg h3]
        go_enter Tryd.func54, Tryd.ntmps54
        go_wp2
        go_ret
        exact ⟨rfl, rfl⟩
/-- What an operation should be, byte after byte of its form. -/
def wantG : List UInt8 → Op4 → Op4 → Option Op4
  | [], o, x => some x
  | c :: r, o, x =>
    if c.toNat = 82 then (if boundB 82 o.res = true then wantG r o { x with res := o.res } else none)
    else if c.toNat = 78 ∨ c.toNat = 83 then (if boundB (c.toNat : Int) o.n = true then wantG r o { x with n := o.n } else none)
    else if c.toNat = 86 then wantG r o { x with v := o.v }
    else wantG r o x
def fitsG (o : Op4) : Bool := if 1 ≤ o.kind ∧ o.kind ≤ 11 then (match wantG (formB o.kind.toNat).data.toList o ⟨o.kind, 0, 0, 0⟩ with | none => false | some y => decide (o = y)) else false
def fitM (x : Option Op4) (o : Op4) : Bool := match x with | none => false | some y => decide (o = y)
theorem f_none (k a b c : Int) : fitM (some ⟨k, 0, 0, 0⟩) ⟨k, a, b, c⟩ = (decide (a = 0) && decide (b = 0) && decide (c = 0)) := by
  unfold fitM
  by_cases h1 : a = 0 <;> by_cases h2 : b = 0 <;> by_cases h3 : c = 0 <;> simp [h1, h2, h3]
theorem f_R (k a b c : Int) : fitM (if boundB 82 a = true then some ⟨k, a, 0, 0⟩ else none) ⟨k, a, b, c⟩ = (decide (0 ≤ a) && decide (a < 16) && decide (b = 0) && decide (c = 0)) := by
  unfold fitM boundB
  by_cases h1 : 0 ≤ a <;> by_cases h2 : a < 16 <;> by_cases h3 : b = 0 <;> by_cases h4 : c = 0 <;> simp [h1, h2, h3, h4]
theorem f_RN (k a b c : Int) : fitM (if boundB 82 a = true then (if boundB 78 b = true then some ⟨k, a, b, 0⟩ else none) else none) ⟨k, a, b, c⟩ = (decide (0 ≤ a) && decide (a < 16) && decide (1 ≤ b) && decide (b ≤ 255) && decide (c = 0)) := by
  unfold fitM boundB
  by_cases h1 : 0 ≤ a <;> by_cases h2 : a < 16 <;> by_cases h3 : 1 ≤ b <;> by_cases h4 : b ≤ 255 <;> by_cases h5 : c = 0 <;> simp [h1, h2, h3, h4, h5]
theorem f_V (k a b c : Int) : fitM (some ⟨k, 0, 0, c⟩) ⟨k, a, b, c⟩ = (decide (a = 0) && decide (b = 0)) := by
  unfold fitM
  by_cases h1 : a = 0 <;> by_cases h2 : b = 0 <;> simp [h1, h2]
theorem f_S (k a b c : Int) : fitM (if boundB 83 b = true then some ⟨k, 0, b, 0⟩ else none) ⟨k, a, b, c⟩ = (decide (a = 0) && decide (1 ≤ b) && decide (b ≤ 4096) && decide (c = 0)) := by
  unfold fitM boundB
  by_cases h1 : a = 0 <;> by_cases h2 : 1 ≤ b <;> by_cases h3 : b ≤ 4096 <;> by_cases h4 : c = 0 <;> simp [h1, h2, h3, h4]
theorem fits_eq (o : Op4) : fitsG o = fieldsB o := by
  obtain ⟨k, a, b, c⟩ := o
  by_cases hk : 1 ≤ k ∧ k ≤ 11
  · have h11 : k = 1 ∨ k = 2 ∨ k = 3 ∨ k = 4 ∨ k = 5 ∨ k = 6 ∨ k = 7 ∨ k = 8 ∨ k = 9 ∨ k = 10 ∨ k = 11 := by omega
    have e1 : fitsG ⟨k, a, b, c⟩ = fitM (wantG (formB k.toNat).data.toList ⟨k, a, b, c⟩ ⟨k, 0, 0, 0⟩) ⟨k, a, b, c⟩ := by
      unfold fitsG
      rw [if_pos hk]
      rfl
    rw [e1]
    rcases h11 with rfl | rfl | rfl | rfl | rfl | rfl | rfl | rfl | rfl | rfl | rfl
    · exact f_RN 1 a b c
    · exact f_R 2 a b c
    · exact f_V 3 a b c
    · exact f_none 4 a b c
    · exact f_S 5 a b c
    · exact f_R 6 a b c
    · exact f_R 7 a b c
    · exact f_none 8 a b c
    · exact f_none 9 a b c
    · exact f_S 10 a b c
    · exact f_none 11 a b c
  · have hkb : kindB k = false := decide_eq_false hk
    unfold fitsG fieldsB
    simp only
    rw [if_neg hk, if_pos hkb]
end CR
end Go.Proofs.YtnehiooioodkfaaDoor

/-
  CODE: the document's answer: does an operation fit?
-/
set_option linter.unusedVariables false
set_option linter.unusedSimpArgs false
namespace Go.Proofs.YtnehiooioodkfaaDoor
open Go Go.RowKit
namespace CR
open CD
set_option maxRecDepth 100000 in
set_option maxHeartbeats 4000000 in
theorem fits (w : World) (o : Op4) : Calls Tryd.prog 56 #[.agg #[.int .i64 o.kind, .int .i64 o.res, .int .i64 o.n, .int .i64 o.v]] w fun e w' => e = .returned (.bool (fieldsB o)) ∧ Below w.heap.size w w' := by
  rw [← fits_eq]
  obtain ⟨F, hF⟩ : ∃ F, fitsG o = F := ⟨_, rfl⟩
  rw [hF]
  have HF := Lib.hid hF
  clear hF
  obtain ⟨kind, res, n, v⟩ := o
  go_enter Tryd.func56, Tryd.ntmps56
  by_cases hk : 1 ≤ kind ∧ kind ≤ 11
  rotate_left
  · have hf : F = false := by rw [← HF.out]; unfold fitsG; rw [if_neg hk]
    subst hf
    by_cases h1 : kind < 1
    · as_aux_lemma =>
      go_wp2
      go_ret
      exact ⟨rfl, (Below.refl _ _).alloc (Nat.le_refl _) _⟩
    · have h2 : 11 < kind := by omega
      as_aux_lemma =>
      go_wp2
      go_ret
      exact ⟨rfl, (Below.refl _ _).alloc (Nat.le_refl _) _⟩
  obtain ⟨m, rfl⟩ : ∃ m : Nat, kind = (m : Int) := ⟨kind.toNat, by omega⟩
  have h1 : ¬ (m : Int) < 1 := by omega
  have h2 : ¬ 11 < (m : Int) := by omega
  have hfo := form
  have Hfo := Lib.hid hfo
  have hbo := bound
  have Hbo := Lib.hid hbo
  clear hfo hbo
  obtain ⟨ow1, hB1, n1, z1⟩ := SH.add_cells w ow0 [1, 0] [.int .i64 (m : Int), .int .i64 res, .int .i64 n, .int .i64 v] 32
  obtain ⟨ow2, hX1, n2, z2⟩ := SH.add_cells (w.alloc (.cells #[.int .i64 (m : Int), .int .i64 res, .int .i64 n, .int .i64 v] 32)) ow1 [1, 1] [.int .i64 (m : Int), .int .i64 0, .int .i64 0, .int .i64 0] 32
  have hB2 := hB1.new_ n2
  have T2 := (n1.trans n2).turn [1]
  rw [z1] at hX1
  clear n1 n2 hB1 z2
  go_wp2_with fail
  refine (Hfo.out _ m (by omega)).mono ?_
  rintro e w1 ⟨rfl, b1⟩
  have hB3 := hB2.new_ (b1.nw ow2)
  have hX3 := hX1.new_ (b1.nw ow2)
  have T3 := T2.trans ((b1.nw ow2).turn [1])
  clear hB2 hX1 T2 b1 z1
  have hFl : fitsG ⟨(m : Int), res, n, v⟩ = fitM (wantG (formB m).data.toList ⟨(m : Int), res, n, v⟩ ⟨(m : Int), 0, 0, 0⟩) ⟨(m : Int), res, n, v⟩ := by
    unfold fitsG
    rw [if_pos hk]
    rfl
  rw [hFl] at HF
  clear hFl
  have hfz : (formB m).size ≤ 2 := by
    have h12 : m = 1 ∨ m = 2 ∨ m = 3 ∨ m = 4 ∨ m = 5 ∨ m = 6 ∨ m = 7 ∨ m = 8 ∨ m = 9 ∨ m = 10 ∨ m = 11 := by omega
    rcases h12 with rfl | rfl | rfl | rfl | rfl | rfl | rfl | rfl | rfl | rfl | rfl <;> decide
  generalize formB m = f at *
  obtain ⟨R, hR⟩ : ∃ R, wantG f.data.toList ⟨(m : Int), res, n, v⟩ ⟨(m : Int), 0, 0, 0⟩ = R := ⟨_, rfl⟩
  rw [hR] at HF
  have HR := Lib.hid hR
  have HB3 := Lib.hid hB3
  have HX3 := Lib.hid hX3
  have HT3 := Lib.hid T3
  clear hR hB3 hX3 T3
  generalize hg : w.heap.size = g at *
  go_wp2
  go_loopg [5] f.size (fun gn a wr => ∃ (k : Nat) (x : Op4) (OW : Ow), gn = f.size - k ∧ k ≤ f.size ∧ a = .int .i64 (k : Int) ∧ wantG (f.data.toList.drop k) ⟨(m : Int), res, n, v⟩ x = R ∧ Cells wr OW [1, 0] g 0 [.int .i64 (m : Int), .int .i64 res, .int .i64 n, .int .i64 v] ∧ Cells wr OW [1, 1] (g + 1) 0 (EOq.cs x) ∧ Turn [1] w ow0 wr OW)
  case atStart => exact ⟨0, ⟨(m : Int), 0, 0, 0⟩, ow2, rfl, Nat.zero_le _, rfl, HR.out, HB3.out, HX3.out, HT3.out⟩
  case round =>
    clear HR HB3 HX3 HT3
    obtain ⟨k, x, OW, hgk, hk2, rfl, hwant, hB, hX, T⟩ := hrel
    have Hgk := Lib.hid hgk
    clear hgk
    by_cases hlt : k < f.size
    · have i0 : (k : Int) < (f.size : Int) := by omega
      have hwk : IntKind.i64.wrap ((k : Int) + 1) = (k : Int) + 1 := by rw [IntKind.wrap_i64]; omega
      have hdr : f.data.toList.drop k = f[k] :: f.data.toList.drop (k + 1) := by
        rw [List.drop_eq_getElem_cons (by simpa using hlt)]
        rfl
      rw [hdr, wantG] at hwant
      have c1 := hB.get 1 rfl
      have c2 := hB.get 2 rfl
      have c3 := hB.get 3 rfl
      simp only [Nat.zero_add] at c1 c2 c3
      by_cases hc1 : f[k].toNat = 82
      · rw [if_pos hc1] at hwant
        have e82 : ((f[k].toNat : Int) == 82) = true := beq_iff_eq.2 (by omega)
        cases hb : boundB 82 res with
        | true =>
          rw [hb, if_pos rfl] at hwant
          as_aux_lemma =>
          go_wp2_with fail
          refine (Hbo.out _ _ _).mono ?_
          rintro e w3 ⟨rfl, hw⟩
          subst w3
          rw [hb]
          have x1 := hX.get 1 rfl
          have f1 := hX.free 1
          have lx := hX.lt
          have hX' := hX.set 1 (.int .i64 res) (by simp [EOq.cs])
          have tk := hX.turn 1 (.int .i64 res) (by simp [EOq.cs])
          have hB' := hB.keep tk (by simp)
          have T' := T.trans (tk.up (by simp))
          simp only [Nat.zero_add] at x1 f1 hX' tk hB' T'
          have hX2 : Cells _ OW [1, 1] (g + 1) 0 (EOq.cs { x with res := res }) := hX'
          have HX' := Lib.hid hX2
          have HB' := Lib.hid hB'
          have HT' := Lib.hid T'
          have HW := Lib.hid hwant
          clear hX hX' hX2 tk hB hB' T T' hwant hdr
          go_wp2
          go_roundg (f.size - (k + 1))
          case measure => have := Hgk.out; omega
          case rel => exact ⟨k + 1, { x with res := res }, OW, rfl, by omega, by go_num, HW.out, HB'.out, HX'.out, HT'.out⟩
        | false =>
          rw [hb, if_neg (by decide)] at hwant
          as_aux_lemma =>
          go_wp2_with fail
          refine (Hbo.out _ _ _).mono ?_
          rintro e w3 ⟨rfl, hw⟩
          subst w3
          rw [hb]
          subst hwant
          have hf : F = false := by rw [← HF.out]; rfl
          subst hf
          have fin := (T.new_ ow0 [1]).below
          clear hB hX T
          go_wp2
          go_ret
          exact ⟨rfl, fin⟩
      have e82 : ((f[k].toNat : Int) == 82) = false := beq_eq_false_iff_ne.2 (by omega)
      rw [if_neg hc1] at hwant
      by_cases hc2 : f[k].toNat = 78 ∨ f[k].toNat = 83
      · rw [if_pos hc2] at hwant
        rcases hc2 with hc2 | hc2
        · have e78 : ((f[k].toNat : Int) == 78) = true := beq_iff_eq.2 (by omega)
          rw [show ((f[k].toNat : Nat) : Int) = 78 by omega] at hwant
          cases hb : boundB 78 n with
          | true =>
            rw [hb, if_pos rfl] at hwant
            as_aux_lemma =>
            go_wp2_with fail
            replace hB := Cells.drew hB
            replace hX := Cells.drew hX
            replace T := T.drew
            refine plain_regionN (fun W' : World => W'.cell? ⟨g, 2, none⟩ = some (.int .i64 n)) [] (by kernel_rfl) ?_
            have hS : (fun W' : World => W'.cell? ⟨g, 2, none⟩ = some (.int .i64 n)) wr.drew := c2
            generalize wr.drew = wq at *
            refine anyX_takeNL 0 (v := ?_) rfl rfl (by as_aux_lemma => kernel_rfl) (by as_aux_lemma => kernel_rfl) (by as_aux_lemma => kernel_rfl) (by as_aux_lemma => kernel_rfl) (by as_aux_lemma => kernel_rfl) (fun _ _ _ h => h) rfl ?_ hS ?_
            rotate_left
            · intro W' hW'
              obtain s0 := hW'
              all_goals (go_simp; first | done | rfl)
            intro l' hl
            dsimp only [List.set_cons_succ, List.set_cons_zero] at hl
            subst hl
            refine anyX_takeNL 1 (v := ?_) rfl rfl (by as_aux_lemma => kernel_rfl) (by as_aux_lemma => kernel_rfl) (by as_aux_lemma => kernel_rfl) (by as_aux_lemma => kernel_rfl) (by as_aux_lemma => kernel_rfl) (fun _ _ _ h => h) rfl ?_ hS ?_
            rotate_left
            · intro W' hW'
              obtain s0 := hW'
              all_goals (go_simp; first | done | rfl)
            intro l' hl
            dsimp only [List.set_cons_succ, List.set_cons_zero] at hl
            subst hl
            refine anyX_takeNL 2 (v := ?_) rfl rfl (by as_aux_lemma => kernel_rfl) (by as_aux_lemma => kernel_rfl) (by as_aux_lemma => kernel_rfl) (by as_aux_lemma => kernel_rfl) (by as_aux_lemma => kernel_rfl) (fun _ _ _ h => h) rfl ?_ hS ?_
            rotate_left
            · intro W' hW'
              obtain s0 := hW'
              all_goals (go_simp; first | done | rfl)
            intro l' hl
            dsimp only [List.set_cons_succ, List.set_cons_zero] at hl
            subst hl
            refine anyX_takeNL 3 (v := ?_) rfl rfl (by as_aux_lemma => kernel_rfl) (by as_aux_lemma => kernel_rfl) (by as_aux_lemma => kernel_rfl) (by as_aux_lemma => kernel_rfl) (by as_aux_lemma => kernel_rfl) (fun _ _ _ h => h) rfl ?_ hS ?_
            rotate_left
            · intro W' hW'
              obtain s0 := hW'
              all_goals (go_simp; first | done | rfl)
            intro l' hl
            dsimp only [List.set_cons_succ, List.set_cons_zero] at hl
            subst hl
            refine anyX_takeNL 4 (v := ?_) rfl rfl (by as_aux_lemma => kernel_rfl) (by as_aux_lemma => kernel_rfl) (by as_aux_lemma => kernel_rfl) (by as_aux_lemma => kernel_rfl) (by as_aux_lemma => kernel_rfl) (fun _ _ _ h => h) rfl ?_ hS ?_
            rotate_left
            · intro W' hW'
              obtain s0 := hW'
              all_goals (go_simp; first | done | rfl)
            intro l' hl
            dsimp only [List.set_cons_succ, List.set_cons_zero] at hl
            subst hl
            refine anyX_one (i := 5) (by kernel_rfl) rfl rfl fun K' hK' => ?_
            unfold Oper.wp
            go_simp
            refine (Hbo.out _ _ _).mono ?_
            rintro e w3 ⟨rfl, hw⟩
            subst w3
            rw [hb]
            refine hK' _ _ (fun _ => hS) ?_
            clear hK' K'
            refine anyX_one (i := 6) (by kernel_rfl) rfl rfl fun K' hK' => ?_
            unfold Oper.wp
            go_simp
            refine hK' _ _ (fun _ => hS) (anyX_done (by kernel_rfl) ?_ _)
            refine NoPanic.normal ?_
            clear hK' K'
            have c2 := hS
            clear hS
            have x2 := hX.get 2 rfl
            have f2 := hX.free 2
            have lx := hX.lt
            have hX' := hX.set 2 (.int .i64 n) (by simp [EOq.cs])
            have tk := hX.turn 2 (.int .i64 n) (by simp [EOq.cs])
            have hB' := hB.keep tk (by simp)
            have T' := T.trans (tk.up (by simp))
            simp only [Nat.zero_add] at x2 f2 hX' tk hB' T'
            have hX2 : Cells _ OW [1, 1] (g + 1) 0 (EOq.cs { x with n := n }) := hX'
            have HX' := Lib.hid hX2
            have HB' := Lib.hid hB'
            have HT' := Lib.hid T'
            have HW := Lib.hid hwant
            clear hX hX' hX2 tk hB hB' T T' hwant hdr
            go_wp2
            go_roundg (f.size - (k + 1))
            case measure => have := Hgk.out; omega
            case rel => exact ⟨k + 1, { x with n := n }, OW, rfl, by omega, by go_num, HW.out, HB'.out, HX'.out, HT'.out⟩
          | false =>
            rw [hb, if_neg (by decide)] at hwant
            as_aux_lemma =>
            go_wp2_with fail
            replace hB := Cells.drew hB
            replace hX := Cells.drew hX
            replace T := T.drew
            refine plain_regionN (fun W' : World => W'.cell? ⟨g, 2, none⟩ = some (.int .i64 n)) [] (by kernel_rfl) ?_
            have hS : (fun W' : World => W'.cell? ⟨g, 2, none⟩ = some (.int .i64 n)) wr.drew := c2
            generalize wr.drew = wq at *
            refine anyX_takeNL 0 (v := ?_) rfl rfl (by as_aux_lemma => kernel_rfl) (by as_aux_lemma => kernel_rfl) (by as_aux_lemma => kernel_rfl) (by as_aux_lemma => kernel_rfl) (by as_aux_lemma => kernel_rfl) (fun _ _ _ h => h) rfl ?_ hS ?_
            rotate_left
            · intro W' hW'
              obtain s0 := hW'
              all_goals (go_simp; first | done | rfl)
            intro l' hl
            dsimp only [List.set_cons_succ, List.set_cons_zero] at hl
            subst hl
            refine anyX_takeNL 1 (v := ?_) rfl rfl (by as_aux_lemma => kernel_rfl) (by as_aux_lemma => kernel_rfl) (by as_aux_lemma => kernel_rfl) (by as_aux_lemma => kernel_rfl) (by as_aux_lemma => kernel_rfl) (fun _ _ _ h => h) rfl ?_ hS ?_
            rotate_left
            · intro W' hW'
              obtain s0 := hW'
              all_goals (go_simp; first | done | rfl)
            intro l' hl
            dsimp only [List.set_cons_succ, List.set_cons_zero] at hl
            subst hl
            refine anyX_takeNL 2 (v := ?_) rfl rfl (by as_aux_lemma => kernel_rfl) (by as_aux_lemma => kernel_rfl) (by as_aux_lemma => kernel_rfl) (by as_aux_lemma => kernel_rfl) (by as_aux_lemma => kernel_rfl) (fun _ _ _ h => h) rfl ?_ hS ?_
            rotate_left
            · intro W' hW'
              obtain s0 := hW'
              all_goals (go_simp; first | done | rfl)
            intro l' hl
            dsimp only [List.set_cons_succ, List.set_cons_zero] at hl
            subst hl
            refine anyX_takeNL 3 (v := ?_) rfl rfl (by as_aux_lemma => kernel_rfl) (by as_aux_lemma => kernel_rfl) (by as_aux_lemma => kernel_rfl) (by as_aux_lemma => kernel_rfl) (by as_aux_lemma => kernel_rfl) (fun _ _ _ h => h) rfl ?_ hS ?_
            rotate_left
            · intro W' hW'
              obtain s0 := hW'
              all_goals (go_simp; first | done | rfl)
            intro l' hl
            dsimp only [List.set_cons_succ, List.set_cons_zero] at hl
            subst hl
            refine anyX_takeNL 4 (v := ?_) rfl rfl (by as_aux_lemma => kernel_rfl) (by as_aux_lemma => kernel_rfl) (by as_aux_lemma => kernel_rfl) (by as_aux_lemma => kernel_rfl) (by as_aux_lemma => kernel_rfl) (fun _ _ _ h => h) rfl ?_ hS ?_
            rotate_left
            · intro W' hW'
              obtain s0 := hW'
              all_goals (go_simp; first | done | rfl)
            intro l' hl
            dsimp only [List.set_cons_succ, List.set_cons_zero] at hl
            subst hl
            refine anyX_one (i := 5) (by kernel_rfl) rfl rfl fun K' hK' => ?_
            unfold Oper.wp
            go_simp
            refine (Hbo.out _ _ _).mono ?_
            rintro e w3 ⟨rfl, hw⟩
            subst w3
            rw [hb]
            refine hK' _ _ (fun _ => hS) ?_
            clear hK' K'
            refine anyX_one (i := 6) (by kernel_rfl) rfl rfl fun K' hK' => ?_
            unfold Oper.wp
            go_simp
            refine hK' _ _ (fun _ => hS) (anyX_done (by kernel_rfl) ?_ _)
            refine NoPanic.normal ?_
            clear hK' K'
            clear hS
            subst hwant
            have hf : F = false := by rw [← HF.out]; rfl
            subst hf
            have fin := (T.new_ ow0 [1]).below
            clear hB hX T
            go_wp2
            go_ret
            exact ⟨rfl, fin⟩
        · have e78 : ((f[k].toNat : Int) == 78) = false := beq_eq_false_iff_ne.2 (by omega)
          have e83 : ((f[k].toNat : Int) == 83) = true := beq_iff_eq.2 (by omega)
          rw [show ((f[k].toNat : Nat) : Int) = 83 by omega] at hwant
          cases hb : boundB 83 n with
          | true =>
            rw [hb, if_pos rfl] at hwant
            as_aux_lemma =>
            go_wp2_with fail
            replace hB := Cells.drew hB
            replace hX := Cells.drew hX
            replace T := T.drew
            refine plain_regionN (fun W' : World => W'.cell? ⟨g, 2, none⟩ = some (.int .i64 n)) [] (by kernel_rfl) ?_
            have hS : (fun W' : World => W'.cell? ⟨g, 2, none⟩ = some (.int .i64 n)) wr.drew := c2
            generalize wr.drew = wq at *
            refine anyX_takeNL 0 (v := ?_) rfl rfl (by as_aux_lemma => kernel_rfl) (by as_aux_lemma => kernel_rfl) (by as_aux_lemma => kernel_rfl) (by as_aux_lemma => kernel_rfl) (by as_aux_lemma => kernel_rfl) (fun _ _ _ h => h) rfl ?_ hS ?_
            rotate_left
            · intro W' hW'
              obtain s0 := hW'
              all_goals (go_simp; first | done | rfl)
            intro l' hl
            dsimp only [List.set_cons_succ, List.set_cons_zero] at hl
            subst hl
            refine anyX_takeNL 1 (v := ?_) rfl rfl (by as_aux_lemma => kernel_rfl) (by as_aux_lemma => kernel_rfl) (by as_aux_lemma => kernel_rfl) (by as_aux_lemma => kernel_rfl) (by as_aux_lemma => kernel_rfl) (fun _ _ _ h => h) rfl ?_ hS ?_
            rotate_left
            · intro W' hW'
              obtain s0 := hW'
              all_goals (go_simp; first | done | rfl)
            intro l' hl
            dsimp only [List.set_cons_succ, List.set_cons_zero] at hl
            subst hl
            refine anyX_takeNL 2 (v := ?_) rfl rfl (by as_aux_lemma => kernel_rfl) (by as_aux_lemma => kernel_rfl) (by as_aux_lemma => kernel_rfl) (by as_aux_lemma => kernel_rfl) (by as_aux_lemma => kernel_rfl) (fun _ _ _ h => h) rfl ?_ hS ?_
            rotate_left
            · intro W' hW'
              obtain s0 := hW'
              all_goals (go_simp; first | done | rfl)
            intro l' hl
            dsimp only [List.set_cons_succ, List.set_cons_zero] at hl
            subst hl
            refine anyX_takeNL 3 (v := ?_) rfl rfl (by as_aux_lemma => kernel_rfl) (by as_aux_lemma => kernel_rfl) (by as_aux_lemma => kernel_rfl) (by as_aux_lemma => kernel_rfl) (by as_aux_lemma => kernel_rfl) (fun _ _ _ h => h) rfl ?_ hS ?_
            rotate_left
            · intro W' hW'
              obtain s0 := hW'
              all_goals (go_simp; first | done | rfl)
            intro l' hl
            dsimp only [List.set_cons_succ, List.set_cons_zero] at hl
            subst hl
            refine anyX_takeNL 4 (v := ?_) rfl rfl (by as_aux_lemma => kernel_rfl) (by as_aux_lemma => kernel_rfl) (by as_aux_lemma => kernel_rfl) (by as_aux_lemma => kernel_rfl) (by as_aux_lemma => kernel_rfl) (fun _ _ _ h => h) rfl ?_ hS ?_
            rotate_left
            · intro W' hW'
              obtain s0 := hW'
              all_goals (go_simp; first | done | rfl)
            intro l' hl
            dsimp only [List.set_cons_succ, List.set_cons_zero] at hl
            subst hl
            refine anyX_one (i := 5) (by kernel_rfl) rfl rfl fun K' hK' => ?_
            unfold Oper.wp
            go_simp
            refine (Hbo.out _ _ _).mono ?_
            rintro e w3 ⟨rfl, hw⟩
            subst w3
            rw [hb]
            refine hK' _ _ (fun _ => hS) ?_
            clear hK' K'
            refine anyX_one (i := 6) (by kernel_rfl) rfl rfl fun K' hK' => ?_
            unfold Oper.wp
            go_simp
            refine hK' _ _ (fun _ => hS) (anyX_done (by kernel_rfl) ?_ _)
            refine NoPanic.normal ?_
            clear hK' K'
            have c2 := hS
            clear hS
            have x2 := hX.get 2 rfl
            have f2 := hX.free 2
            have lx := hX.lt
            have hX' := hX.set 2 (.int .i64 n) (by simp [EOq.cs])
            have tk := hX.turn 2 (.int .i64 n) (by simp [EOq.cs])
            have hB' := hB.keep tk (by simp)
            have T' := T.trans (tk.up (by simp))
            simp only [Nat.zero_add] at x2 f2 hX' tk hB' T'
            have hX2 : Cells _ OW [1, 1] (g + 1) 0 (EOq.cs { x with n := n }) := hX'
            have HX' := Lib.hid hX2
            have HB' := Lib.hid hB'
            have HT' := Lib.hid T'
            have HW := Lib.hid hwant
            clear hX hX' hX2 tk hB hB' T T' hwant hdr
            go_wp2
            go_roundg (f.size - (k + 1))
            case measure => have := Hgk.out; omega
            case rel => exact ⟨k + 1, { x with n := n }, OW, rfl, by omega, by go_num, HW.out, HB'.out, HX'.out, HT'.out⟩
          | false =>
            rw [hb, if_neg (by decide)] at hwant
            as_aux_lemma =>
            go_wp2_with fail
            replace hB := Cells.drew hB
            replace hX := Cells.drew hX
            replace T := T.drew
            refine plain_regionN (fun W' : World => W'.cell? ⟨g, 2, none⟩ = some (.int .i64 n)) [] (by kernel_rfl) ?_
            have hS : (fun W' : World => W'.cell? ⟨g, 2, none⟩ = some (.int .i64 n)) wr.drew := c2
            generalize wr.drew = wq at *
            refine anyX_takeNL 0 (v := ?_) rfl rfl (by as_aux_lemma => kernel_rfl) (by as_aux_lemma => kernel_rfl) (by as_aux_lemma => kernel_rfl) (by as_aux_lemma => kernel_rfl) (by as_aux_lemma => kernel_rfl) (fun _ _ _ h => h) rfl ?_ hS ?_
            rotate_left
            · intro W' hW'
              obtain s0 := hW'
              all_goals (go_simp; first | done | rfl)
            intro l' hl
            dsimp only [List.set_cons_succ, List.set_cons_zero] at hl
            subst hl
            refine anyX_takeNL 1 (v := ?_) rfl rfl (by as_aux_lemma => kernel_rfl) (by as_aux_lemma => kernel_rfl) (by as_aux_lemma => kernel_rfl) (by as_aux_lemma => kernel_rfl) (by as_aux_lemma => kernel_rfl) (fun _ _ _ h => h) rfl ?_ hS ?_
            rotate_left
            · intro W' hW'
              obtain s0 := hW'
              all_goals (go_simp; first | done | rfl)
            intro l' hl
            dsimp only [List.set_cons_succ, List.set_cons_zero] at hl
            subst hl
            refine anyX_takeNL 2 (v := ?_) rfl rfl (by as_aux_lemma => kernel_rfl) (by as_aux_lemma => kernel_rfl) (by as_aux_lemma => kernel_rfl) (by as_aux_lemma => kernel_rfl) (by as_aux_lemma => kernel_rfl) (fun _ _ _ h => h) rfl ?_ hS ?_
            rotate_left
            · intro W' hW'
              obtain s0 := hW'
              all_goals (go_simp; first | done | rfl)
            intro l' hl
            dsimp only [List.set_cons_succ, List.set_cons_zero] at hl
            subst hl
            refine anyX_takeNL 3 (v := ?_) rfl rfl (by as_aux_lemma => kernel_rfl) (by as_aux_lemma => kernel_rfl) (by as_aux_lemma => kernel_rfl) (by as_aux_lemma => kernel_rfl) (by as_aux_lemma => kernel_rfl) (fun _ _ _ h => h) rfl ?_ hS ?_
            rotate_left
            · intro W' hW'
              obtain s0 := hW'
              all_goals (go_simp; first | done | rfl)
            intro l' hl
            dsimp only [List.set_cons_succ, List.set_cons_zero] at hl
            subst hl
            refine anyX_takeNL 4 (v := ?_) rfl rfl (by as_aux_lemma => kernel_rfl) (by as_aux_lemma => kernel_rfl) (by as_aux_lemma => kernel_rfl) (by as_aux_lemma => kernel_rfl) (by as_aux_lemma => kernel_rfl) (fun _ _ _ h => h) rfl ?_ hS ?_
            rotate_left
            · intro W' hW'
              obtain s0 := hW'
              all_goals (go_simp; first | done | rfl)
            intro l' hl
            dsimp only [List.set_cons_succ, List.set_cons_zero] at hl
            subst hl
            refine anyX_one (i := 5) (by kernel_rfl) rfl rfl fun K' hK' => ?_
            unfold Oper.wp
            go_simp
            refine (Hbo.out _ _ _).mono ?_
            rintro e w3 ⟨rfl, hw⟩
            subst w3
            rw [hb]
            refine hK' _ _ (fun _ => hS) ?_
            clear hK' K'
            refine anyX_one (i := 6) (by kernel_rfl) rfl rfl fun K' hK' => ?_
            unfold Oper.wp
            go_simp
            refine hK' _ _ (fun _ => hS) (anyX_done (by kernel_rfl) ?_ _)
            refine NoPanic.normal ?_
            clear hK' K'
            clear hS
            subst hwant
            have hf : F = false := by rw [← HF.out]; rfl
            subst hf
            have fin := (T.new_ ow0 [1]).below
            clear hB hX T
            go_wp2
            go_ret
            exact ⟨rfl, fin⟩
      have e78 : ((f[k].toNat : Int) == 78) = false := beq_eq_false_iff_ne.2 (by omega)
      have e83 : ((f[k].toNat : Int) == 83) = false := beq_eq_false_iff_ne.2 (by omega)
      rw [if_neg hc2] at hwant
      by_cases hc3 : f[k].toNat = 86
      · have e86 : ((f[k].toNat : Int) == 86) = true := beq_iff_eq.2 (by omega)
        rw [if_pos hc3] at hwant
        as_aux_lemma =>
        have x3 := hX.get 3 rfl
        have f3 := hX.free 3
        have lx := hX.lt
        have hX' := hX.set 3 (.int .i64 v) (by simp [EOq.cs])
        have tk := hX.turn 3 (.int .i64 v) (by simp [EOq.cs])
        have hB' := hB.keep tk (by simp)
        have T' := T.trans (tk.up (by simp))
        simp only [Nat.zero_add] at x3 f3 hX' tk hB' T'
        have hX2 : Cells _ OW [1, 1] (g + 1) 0 (EOq.cs { x with v := v }) := hX'
        have HX' := Lib.hid hX2
        have HB' := Lib.hid hB'
        have HT' := Lib.hid T'
        have HW := Lib.hid hwant
        clear hX hX' hX2 tk hB hB' T T' hwant hdr
        go_wp2
        go_roundg (f.size - (k + 1))
        case measure => have := Hgk.out; omega
        case rel => exact ⟨k + 1, { x with v := v }, OW, rfl, by omega, by go_num, HW.out, HB'.out, HX'.out, HT'.out⟩
      have e86 : ((f[k].toNat : Int) == 86) = false := beq_eq_false_iff_ne.2 (by omega)
      rw [if_neg hc3] at hwant
      have HB' := Lib.hid hB
      have HX' := Lib.hid hX
      have HT' := Lib.hid T
      have HW := Lib.hid hwant
      clear hB hX T hwant hdr
      go_wp2
      go_roundg (f.size - (k + 1))
      case measure => have := Hgk.out; omega
      case rel => exact ⟨k + 1, x, OW, rfl, by omega, by go_num, HW.out, HB'.out, HX'.out, HT'.out⟩
    · obtain rfl : k = f.size := by omega
      have i0 : ¬ (f.size : Int) < (f.size : Int) := by omega
      rw [List.drop_eq_nil_of_le (by simp), wantG] at hwant
      subst hwant
      have hF := HF.out
      have c0 := hB.get 0 rfl
      have c1 := hB.get 1 rfl
      have c2 := hB.get 2 rfl
      have c3 := hB.get 3 rfl
      have x0 := hX.get 0 rfl
      have x1 := hX.get 1 rfl
      have x2 := hX.get 2 rfl
      have x3 := hX.get 3 rfl
      simp only [Nat.zero_add] at c0 c1 c2 c3 x0 x1 x2 x3
      have fin := (T.new_ ow0 [1]).below
      obtain ⟨xk, xr, xn, xv⟩ := x
      rw [hg] at fin
      have hfm : fitM (some ⟨xk, xr, xn, xv⟩) ⟨(m : Int), res, n, v⟩ = decide ((⟨(m : Int), res, n, v⟩ : Op4) = ⟨xk, xr, xn, xv⟩) := rfl
      rw [hfm] at hF
      clear hB hX T HF hfm
      go_wp2
      all_goals
        go_ret
        refine ⟨?_, fin⟩
        rw [← hF]
        refine congrArg (fun b => Ending.returned (Value.bool b)) (Eq.symm ?_)
        first
        | exact decide_eq_true (by first | rfl | (congr 1 <;> omega))
        | (refine decide_eq_false fun h => ?_; injection h with e1 e2 e3 e4; omega)
end CR
end Go.Proofs.YtnehiooioodkfaaDoor

/-
  CODE: the document's Check.
-/
set_option linter.unusedVariables false
set_option linter.unusedSimpArgs false
namespace Go.Proofs.YtnehiooioodkfaaDoor
open Go Go.RowKit
namespace CR
open CD
set_option maxRecDepth 100000 in
set_option maxHeartbeats 4000000 in
theorem rcheck (w : World) (v : Value) (xs : List Op4) (h : Rd4 w v xs) (hn : xs.length ≤ 1000000) :
    Calls Tryd.prog 29 #[v] w fun e w' => e = .returned (.tuple #[.int .i64 (checkB xs).1, .int .i64 (checkB xs).2]) ∧ Below w.heap.size w w' := by
  obtain ⟨C, hC⟩ : ∃ C, checkB xs = C := ⟨_, rfl⟩
  rw [hC]
  obtain ⟨A, c, rfl, -⟩ := h.slice
  have H := Lib.hid h
  clear h
  by_cases hbig : 256 < xs.length
  · have hc : C = (256, 4) := by rw [← hC]; unfold checkB; rw [if_pos hbig]
    subst hc
    have i0 : (256 : Int) < (xs.length : Int) := by omega
    clear hC
    as_aux_lemma =>
    go_enter Tryd.func29, Tryd.ntmps29
    go_wp2
    go_ret2
    exact ⟨rfl, Below.refl _ _⟩
  have hG : checkG xs 0 0 = C := by rw [← hC]; unfold checkB; rw [if_neg hbig]
  have HG := Lib.hid hG
  have hfi := fits
  have Hfi := Lib.hid hfi
  have i0 : ¬ (256 : Int) < (xs.length : Int) := by omega
  clear hC hG hfi
  go_enter Tryd.func29, Tryd.ntmps29
  go_wp2
  go_loopg [4, 5] xs.length (fun gn a b wr => ∃ (k op : Nat), gn = xs.length - k ∧ k ≤ xs.length ∧ a = .int .i64 (op : Int) ∧ b = .int .i64 (k : Int) ∧ op ≤ 4 ∧ checkG (xs.drop k) k op = C ∧ Below w.heap.size w wr)
  case atStart => exact ⟨0, 0, rfl, Nat.zero_le _, rfl, rfl, by omega, HG.out, Below.refl _ _⟩
  case round =>
    clear HG
    obtain ⟨k, op, hgk, hk, rfl, rfl, hop, hg, bd⟩ := hrel
    have Hgk := Lib.hid hgk
    have HB := Lib.hid bd
    clear hgk
    by_cases hlt : k < xs.length
    · have j0 : (k : Int) < (xs.length : Int) := by omega
      have hwk : IntKind.i64.wrap ((k : Int) + 1) = (k : Int) + 1 := by rw [IntKind.wrap_i64]; omega
      have hwo : IntKind.i64.wrap ((op : Int) + 1) = (op : Int) + 1 := by rw [IntKind.wrap_i64]; omega
      obtain ⟨x, hx⟩ : ∃ x, xs[k]? = some x := ⟨_, List.getElem?_eq_getElem (by omega)⟩
      rw [drop_cons hx, checkG] at hg
      have Hg := Lib.hid hg
      have hR := H.out.new_ bd
      obtain ⟨g, off, cap, hv, r0, r1, r2, r3⟩ := at4r hR hx
      obtain ⟨hA, hcap⟩ : A = some ⟨g, off, none⟩ ∧ c = cap := by
        simp only [Value.slice.injEq] at hv
        exact ⟨hv.1, hv.2.2⟩
      subst hA hcap
      have Hx := Lib.hid hx
      clear hg hR hv hx bd
      go_wp2_with fail
      refine (Hfi.out wr x).mono ?_
      rintro e w1 ⟨rfl, b1⟩
      have HB1 := Lib.hid (HB.out.trans (b1.mono HB.out.size))
      have hR := H.out.new_ HB1.out
      obtain ⟨g', off', cap', hv, r0', -⟩ := at4r hR Hx.out
      simp only [Value.slice.injEq, Option.some.injEq, Addr.mk.injEq, and_true, true_and] at hv
      obtain ⟨⟨rfl, rfl⟩, rfl⟩ := hv
      have hg := Hg.out
      clear r0 r1 r2 r3 hR b1 Hg HB Hx
      cases hf : fieldsB x with
      | false =>
        rw [if_pos hf] at hg
        subst hg
        have HB2 := HB1.out
        as_aux_lemma =>
        go_wp2
        go_ret2
        exact ⟨rfl, HB2⟩
      | true =>
        rw [if_neg (by rw [hf]; decide)] at hg
        by_cases h10 : x.kind = 10
        · have b10 : (x.kind == 10) = true := beq_iff_eq.2 h10
          have b11 : (x.kind == 11) = false := beq_eq_false_iff_ne.2 (by omega)
          rw [if_pos h10] at hg
          by_cases h4 : op = 4
          · subst h4
            rw [if_pos rfl] at hg
            subst hg
            have HB2 := HB1.out
            as_aux_lemma =>
            go_wp2
            go_ret2
            exact ⟨rfl, HB2⟩
          · have b4 : ((op : Int) == 4) = false := beq_eq_false_iff_ne.2 (by omega)
            rw [if_neg h4] at hg
            have Hg := Lib.hid hg
            clear hg
            go_wp2
            go_roundg (xs.length - (k + 1))
            case measure => have := Hgk.out; omega
            case rel => exact ⟨k + 1, op + 1, rfl, by omega, by go_num, by go_num, by omega, Hg.out, HB1.out⟩
        · have b10 : (x.kind == 10) = false := beq_eq_false_iff_ne.2 h10
          rw [if_neg h10] at hg
          by_cases h11 : x.kind = 11
          · have b11 : (x.kind == 11) = true := beq_iff_eq.2 h11
            rw [if_pos h11] at hg
            by_cases h0 : op = 0
            · subst h0
              rw [if_pos rfl] at hg
              subst hg
              have HB2 := HB1.out
              as_aux_lemma =>
              go_wp2
              go_ret2
              exact ⟨rfl, HB2⟩
            · have b0 : ((op : Int) == 0) = false := beq_eq_false_iff_ne.2 (by omega)
              rw [if_neg h0] at hg
              have Hg := Lib.hid hg
              have hw1 : IntKind.i64.wrap ((op : Int) - 1) = ((op - 1 : Nat) : Int) := by rw [IntKind.wrap_i64]; omega
              clear hg
              go_wp2
              go_roundg (xs.length - (k + 1))
              case measure => have := Hgk.out; omega
              case rel => exact ⟨k + 1, op - 1, rfl, by omega, rfl, by go_num, by omega, Hg.out, HB1.out⟩
          · have b11 : (x.kind == 11) = false := beq_eq_false_iff_ne.2 h11
            rw [if_neg h11] at hg
            have Hg := Lib.hid hg
            clear hg
            go_wp2
            go_roundg (xs.length - (k + 1))
            case measure => have := Hgk.out; omega
            case rel => exact ⟨k + 1, op, rfl, by omega, rfl, by go_num, hop, Hg.out, HB1.out⟩
    · obtain rfl : k = xs.length := by omega
      have j0 : ¬ (xs.length : Int) < (xs.length : Int) := by omega
      rw [List.drop_length, checkG] at hg
      by_cases h0 : 0 < op
      · rw [if_pos h0] at hg
        subst hg
        have i1 : (0 : Int) < (op : Int) := by omega
        as_aux_lemma =>
        go_wp2
        go_ret2
        exact ⟨rfl, bd⟩
      · rw [if_neg h0] at hg
        subst hg
        have i1 : ¬ (0 : Int) < (op : Int) := by omega
        as_aux_lemma =>
        go_wp2
        go_ret2
        exact ⟨rfl, bd⟩
end CR
end Go.Proofs.YtnehiooioodkfaaDoor

/-
  CODE: the document's Text: an int in digits.
-/
set_option linter.unusedVariables false
set_option linter.unusedSimpArgs false
namespace Go.Proofs.YtnehiooioodkfaaDoor
open Go Go.RowKit
namespace CR
open CD
theorem dec_step (u : Nat) (s : List UInt8) : (if u / 10 = 0 then UInt8.ofNat (48 + u % 10) :: s else Lib.decDigits (u / 10) ++ UInt8.ofNat (48 + u % 10) :: s) = Lib.decDigits u ++ s := by
  by_cases h : u < 10
  · rw [if_pos (by omega), Lib.decDigits_one h, Nat.mod_eq_of_lt h]
    rfl
  · rw [if_neg (by omega)]
    conv => rhs; rw [Lib.decDigits, dif_neg h]
    rw [List.append_assoc]
    rfl
def txD (u0 u : Nat) (s : ByteArray) : Prop := (if u = 0 then s.data.toList else Lib.decDigits u ++ s.data.toList) = Lib.decDigits u0
set_option maxRecDepth 100000 in
set_option maxHeartbeats 4000000 in
theorem text (w : World) (n : Int) (h0 : -9223372036854775808 ≤ n) (h1 : n ≤ 9223372036854775807) : Calls Tryd.prog 66 #[.int .i64 n] w fun e w' => e = .returned (.string ⟨(Lib.itoa n).toArray⟩) ∧ Below w.heap.size w w' := by
  by_cases hz : n = 0
  · subst hz
    have e : (⟨(Lib.itoa 0).toArray⟩ : ByteArray) = ⟨#[48]⟩ := by
      have : Lib.itoa 0 = [48] := by
        have := Lib.itoa_nonneg 0
        rw [Lib.decDigits_one (by omega)] at this
        exact this
      rw [this]
    rw [e]
    as_aux_lemma =>
    go_enter Tryd.func66, Tryd.ntmps66
    go_wp2
    go_ret
    exact ⟨rfl, Below.refl _ _⟩
  have hz' : (n == 0) = false := beq_eq_false_iff_ne.2 hz
  obtain ⟨u0, hu0⟩ : ∃ u0 : Nat, u0 = n.natAbs := ⟨_, rfl⟩
  have hu1 : 1 ≤ u0 := by omega
  have hu2 : u0 ≤ 9223372036854775808 := by omega
  by_cases hneg : n < 0
  · obtain ⟨N, hup⟩ : ∃ N, IntKind.u64.wrap n = N := ⟨_, rfl⟩
    have hup2 : IntKind.u64.wrap (-N) = (u0 : Int) := by rw [← hup, IntKind.wrap_u64, IntKind.wrap_u64]; omega
    have hit : Lib.itoa n = 45 :: Lib.decDigits u0 := by unfold Lib.itoa; rw [if_pos hneg, hu0]
    have hlen := Lib.itoa_length_le n h0 h1
    rw [hit, List.length_cons] at hlen
    rw [hit]
    clear hu0 hit
    go_enter Tryd.func66, Tryd.ntmps66
    go_wp2
    go_loopg [4, 5] u0 (fun gn a b wr => ∃ (u : Nat) (s : ByteArray), gn = u ∧ u ≤ u0 ∧ a = .int .u64 (u : Int) ∧ b = .string s ∧ txD u0 u s ∧ Below w.heap.size w wr)
    case atStart => exact ⟨u0, ⟨#[]⟩, rfl, Nat.le_refl _, rfl, rfl, by unfold txD; rw [if_neg (by omega)]; exact List.append_nil _, Below.refl _ _⟩
    case round =>
      obtain ⟨u, s, hgu, huu, rfl, rfl, htx, bd⟩ := hrel
      have Hgu := Lib.hid hgu
      have HTX := Lib.hid htx
      have HB := Lib.hid bd
      have hss : s.size ≤ 30 := by
        have h := congrArg List.length htx
        have e : s.data.toList.length = s.size := by rw [Array.length_toList]; rfl
        split at h
        · omega
        · rw [List.length_append] at h; omega
      clear hgu htx bd
      by_cases hu : 0 < u
      · have i0 : (0 : Int) < (u : Int) := by omega
        have hT1 : Int.tmod (u : Int) 10 = ((u % 10 : Nat) : Int) := rfl
        have hT2 : Int.tdiv (u : Int) 10 = ((u / 10 : Nat) : Int) := rfl
        have hd : u % 10 < 10 := Nat.mod_lt _ (by omega)
        have hq : u / 10 < u := by omega
        have hst := dec_step u s.data.toList
        have hTX := HTX.out
        unfold txD at hTX
        rw [if_neg (by omega)] at hTX
        generalize hdd : u % 10 = d at *
        generalize hqq : u / 10 = q at *
        have w1 : IntKind.u64.wrap (d : Int) = (d : Int) := by rw [IntKind.wrap_u64]; omega
        have w2 : IntKind.u64.wrap (q : Int) = (q : Int) := by rw [IntKind.wrap_u64]; omega
        have w3 : IntKind.u64.wrap (48 + (d : Int)) = 48 + (d : Int) := by rw [IntKind.wrap_u64]; omega
        have w4 : IntKind.u8.wrap (48 + (d : Int)) = 48 + (d : Int) := by rw [IntKind.wrap_u8]; omega
        have hl : Loc (wr.alloc (.cells #[.int .u8 (48 + (d : Int))] 5)) wr.heap.size [.int .u8 (48 + (d : Int))] := Loc.make rfl rfl
        have hcell : ∀ i, i < 1 → (wr.alloc (.cells #[.int .u8 (48 + (d : Int))] 5)).cell? ⟨wr.heap.size, 0 + i, none⟩ = some (.int .u8 ([48 + (d : Int)].getD i 0)) := fun i hi => by
          have e : i = 0 := by omega
          subst e
          exact hl.get 0 rfl
        have hcv := run_convert_bytes_arg (P := Tryd.prog) (wr.alloc (.cells #[.int .u8 (48 + (d : Int))] 5)) 62 5 Tryd.underlying62 Tryd.underlying5 wr.heap.size 0 1 1 [48 + (d : Int)] rfl hcell 9 Tryd.underlying9
        have hadd : (48 : UInt8) + UInt8.ofNat d = UInt8.ofNat (48 + d) := by rw [UInt8.ofNat_add]; rfl
        have hst2 : strOfNums [48 + (d : Int)] = ⟨#[48 + UInt8.ofNat d]⟩ := by
          unfold strOfNums
          rw [List.map_cons, List.map_nil, show (48 + (d : Int)).toNat = 48 + d by omega, hadd]
        rw [hst2] at hcv
        have hbd := HB.out.trans ((((Below.refl _ _).alloc (Nat.le_refl _) (.cells #[.int .u8 (48 + (d : Int))] 5) : Below wr.heap.size wr _)).mono HB.out.size)
        have HB2 := Lib.hid hbd
        have q1 : ¬ 9223372036854775807 < 1 + s.size := by omega
        have hnx : txD u0 q (⟨#[48 + UInt8.ofNat d]⟩ ++ s) := by
          unfold txD
          rw [ByteArray.data_append, Array.toList_append, hadd, ← hTX, ← hst]
          rfl
        have HNX := Lib.hid hnx
        clear hl hbd hst hTX hdd hqq hnx hcell hst2 hadd
        go_wp2
        go_roundg q
        case measure => have := Hgu.out; omega
        case rel => exact ⟨q, _, rfl, by omega, rfl, rfl, HNX.out, HB2.out⟩
      · obtain rfl : u = 0 := by omega
        have i0 : ¬ (0 : Int) < ((0 : Nat) : Int) := by omega
        have hTX := HTX.out
        unfold txD at hTX
        rw [if_pos rfl] at hTX
        have q1 : ¬ 9223372036854775807 < 1 + s.size := by omega
        have HB2 := HB.out
        have HTX2 := Lib.hid hTX
        clear hTX HTX
        go_wp2
        go_ret
        exact ⟨by rw [← HTX2.out]; exact congrArg (fun x => Ending.returned (Value.string x)) (ByteArray.ext (by simp)), HB2⟩
  · have hit : Lib.itoa n = Lib.decDigits u0 := by unfold Lib.itoa; rw [if_neg hneg, hu0]; congr 1; omega
    have hlen := Lib.itoa_length_le n h0 h1
    rw [hit] at hlen
    rw [hit]
    obtain rfl : n = (u0 : Int) := by omega
    clear hit hu0
    have hup : IntKind.u64.wrap (u0 : Int) = (u0 : Int) := by rw [IntKind.wrap_u64]; omega
    go_enter Tryd.func66, Tryd.ntmps66
    go_wp2
    go_loopg [4, 5] u0 (fun gn a b wr => ∃ (u : Nat) (s : ByteArray), gn = u ∧ u ≤ u0 ∧ a = .int .u64 (u : Int) ∧ b = .string s ∧ txD u0 u s ∧ Below w.heap.size w wr)
    case atStart => exact ⟨u0, ⟨#[]⟩, rfl, Nat.le_refl _, rfl, rfl, by unfold txD; rw [if_neg (by omega)]; exact List.append_nil _, Below.refl _ _⟩
    case round =>
      obtain ⟨u, s, hgu, huu, rfl, rfl, htx, bd⟩ := hrel
      have Hgu := Lib.hid hgu
      have HTX := Lib.hid htx
      have HB := Lib.hid bd
      have hss : s.size ≤ 30 := by
        have h := congrArg List.length htx
        have e : s.data.toList.length = s.size := by rw [Array.length_toList]; rfl
        split at h
        · omega
        · rw [List.length_append] at h; omega
      clear hgu htx bd
      by_cases hu : 0 < u
      · have i0 : (0 : Int) < (u : Int) := by omega
        have hT1 : Int.tmod (u : Int) 10 = ((u % 10 : Nat) : Int) := rfl
        have hT2 : Int.tdiv (u : Int) 10 = ((u / 10 : Nat) : Int) := rfl
        have hd : u % 10 < 10 := Nat.mod_lt _ (by omega)
        have hq : u / 10 < u := by omega
        have hst := dec_step u s.data.toList
        have hTX := HTX.out
        unfold txD at hTX
        rw [if_neg (by omega)] at hTX
        generalize hdd : u % 10 = d at *
        generalize hqq : u / 10 = q at *
        have w1 : IntKind.u64.wrap (d : Int) = (d : Int) := by rw [IntKind.wrap_u64]; omega
        have w2 : IntKind.u64.wrap (q : Int) = (q : Int) := by rw [IntKind.wrap_u64]; omega
        have w3 : IntKind.u64.wrap (48 + (d : Int)) = 48 + (d : Int) := by rw [IntKind.wrap_u64]; omega
        have w4 : IntKind.u8.wrap (48 + (d : Int)) = 48 + (d : Int) := by rw [IntKind.wrap_u8]; omega
        have hl : Loc (wr.alloc (.cells #[.int .u8 (48 + (d : Int))] 5)) wr.heap.size [.int .u8 (48 + (d : Int))] := Loc.make rfl rfl
        have hcell : ∀ i, i < 1 → (wr.alloc (.cells #[.int .u8 (48 + (d : Int))] 5)).cell? ⟨wr.heap.size, 0 + i, none⟩ = some (.int .u8 ([48 + (d : Int)].getD i 0)) := fun i hi => by
          have e : i = 0 := by omega
          subst e
          exact hl.get 0 rfl
        have hcv := run_convert_bytes_arg (P := Tryd.prog) (wr.alloc (.cells #[.int .u8 (48 + (d : Int))] 5)) 62 5 Tryd.underlying62 Tryd.underlying5 wr.heap.size 0 1 1 [48 + (d : Int)] rfl hcell 9 Tryd.underlying9
        have hadd : (48 : UInt8) + UInt8.ofNat d = UInt8.ofNat (48 + d) := by rw [UInt8.ofNat_add]; rfl
        have hst2 : strOfNums [48 + (d : Int)] = ⟨#[48 + UInt8.ofNat d]⟩ := by
          unfold strOfNums
          rw [List.map_cons, List.map_nil, show (48 + (d : Int)).toNat = 48 + d by omega, hadd]
        rw [hst2] at hcv
        have hbd := HB.out.trans ((((Below.refl _ _).alloc (Nat.le_refl _) (.cells #[.int .u8 (48 + (d : Int))] 5) : Below wr.heap.size wr _)).mono HB.out.size)
        have HB2 := Lib.hid hbd
        have q1 : ¬ 9223372036854775807 < 1 + s.size := by omega
        have hnx : txD u0 q (⟨#[48 + UInt8.ofNat d]⟩ ++ s) := by
          unfold txD
          rw [ByteArray.data_append, Array.toList_append, hadd, ← hTX, ← hst]
          rfl
        have HNX := Lib.hid hnx
        clear hl hbd hst hTX hdd hqq hnx hcell hst2 hadd
        go_wp2
        go_roundg q
        case measure => have := Hgu.out; omega
        case rel => exact ⟨q, _, rfl, by omega, rfl, rfl, HNX.out, HB2.out⟩
      · obtain rfl : u = 0 := by omega
        have i0 : ¬ (0 : Int) < ((0 : Nat) : Int) := by omega
        have hTX := HTX.out
        unfold txD at hTX
        rw [if_pos rfl] at hTX
        have q1 : ¬ 9223372036854775807 < 1 + s.size := by omega
        have HB2 := HB.out
        have HTX2 := Lib.hid hTX
        clear hTX HTX
        go_wp2
        go_ret
        exact ⟨by rw [← HTX2.out]; exact congrArg (fun x => Ending.returned (Value.string x)) (ByteArray.ext (by simp)), HB2⟩
end CR
end Go.Proofs.YtnehiooioodkfaaDoor

/-
  CODE: the document's One: an operation's text.
-/
set_option linter.unusedVariables false
set_option linter.unusedSimpArgs false
namespace Go.Proofs.YtnehiooioodkfaaDoor
open Go Go.RowKit
namespace CR
open CD
def textF : List UInt8 → Op4 → List UInt8
  | [], _ => []
  | c :: r, o => (if c.toNat = 82 then 32 :: Lib.itoa o.res else if c.toNat = 86 then 32 :: Lib.itoa o.v else if c.toNat = 66 then [32, 123] else 32 :: Lib.itoa o.n) ++ textF r o
theorem textF_eq (o : Op4) (h : 1 ≤ o.kind ∧ o.kind ≤ 11) : (wordOf o.kind).data.toList ++ textF (formB o.kind.toNat).data.toList o = textO o := by
  obtain ⟨k, a, b, c⟩ := o
  unfold textO
  rw [List.append_assoc]
  congr 1
  have h11 : k = 1 ∨ k = 2 ∨ k = 3 ∨ k = 4 ∨ k = 5 ∨ k = 6 ∨ k = 7 ∨ k = 8 ∨ k = 9 ∨ k = 10 ∨ k = 11 := by simp only at h; omega
  rcases h11 with rfl | rfl | rfl | rfl | rfl | rfl | rfl | rfl | rfl | rfl | rfl <;> simp [textF, numsT, formB, formsB, hasOf, hasB]
theorem wordsB_at (m : Nat) (h : 1 ≤ m ∧ m ≤ 11) : (wordsB.map Value.string)[m]? = some (.string (wordOf (m : Int))) := by
  have h11 : m = 1 ∨ m = 2 ∨ m = 3 ∨ m = 4 ∨ m = 5 ∨ m = 6 ∨ m = 7 ∨ m = 8 ∨ m = 9 ∨ m = 10 ∨ m = 11 := by omega
  rcases h11 with rfl | rfl | rfl | rfl | rfl | rfl | rfl | rfl | rfl | rfl | rfl <;> rfl
theorem bsz (s : ByteArray) : s.size = s.data.toList.length := by rw [Array.length_toList]; rfl
theorem textF_len (o : Op4) (hr : Rg o) : ∀ l : List UInt8, (textF l o).length ≤ 22 * l.length
  | [] => by simp [textF]
  | c :: r => by
    obtain ⟨⟨x1, x2⟩, ⟨y1, y2⟩, ⟨z1, z2⟩⟩ := hr
    have a := Lib.itoa_length_le o.res x1 x2
    have b := Lib.itoa_length_le o.n y1 y2
    have d := Lib.itoa_length_le o.v z1 z2
    have ih := textF_len o ⟨⟨x1, x2⟩, ⟨y1, y2⟩, ⟨z1, z2⟩⟩ r
    rw [textF, List.length_append, List.length_cons]
    have : (if c.toNat = 82 then 32 :: Lib.itoa o.res else if c.toNat = 86 then 32 :: Lib.itoa o.v else if c.toNat = 66 then [32, 123] else 32 :: Lib.itoa o.n).length ≤ 22 := by
      split
      · rw [List.length_cons]; omega
      · split
        · rw [List.length_cons]; omega
        · split
          · decide
          · rw [List.length_cons]; omega
    omega
set_option maxRecDepth 100000 in
set_option maxHeartbeats 4000000 in
theorem one (w : World) (o : Op4) (hk : 1 ≤ o.kind ∧ o.kind ≤ 11) (hr : Rg o) : Calls Tryd.prog 55 #[.agg #[.int .i64 o.kind, .int .i64 o.res, .int .i64 o.n, .int .i64 o.v]] w fun e w' => e = .returned (.string ⟨(textO o).toArray⟩) ∧ Below w.heap.size w w' := by
  have hte := textF_eq o hk
  have hz := textF_len o hr
  have hwl := wordOf_len o.kind
  obtain ⟨⟨x1, x2⟩, ⟨y1, y2⟩, ⟨z1, z2⟩⟩ := hr
  obtain ⟨kind, res, n, v⟩ := o
  simp only at hk hwl x1 x2 y1 y2 z1 z2
  obtain ⟨m, rfl⟩ : ∃ m : Nat, kind = (m : Int) := ⟨kind.toNat, by omega⟩
  have hm : 1 ≤ m ∧ m ≤ 11 := by omega
  obtain ⟨Tx, hTx⟩ : ∃ Tx, textO ⟨(m : Int), res, n, v⟩ = Tx := ⟨_, rfl⟩
  rw [hTx] at hte ⊢
  have HTE := Lib.hid hte
  have HZ := Lib.hid hz
  have hfo := form
  have Hfo := Lib.hid hfo
  have hte := text
  have Hte := Lib.hid hte
  have hwo := words
  have Hwo := Lib.hid hwo
  clear hfo hte hwo hTx hz
  go_enter Tryd.func55, Tryd.ntmps55
  go_wp2_with fail
  have hL0 : Loc (w.alloc (.cells #[.int .i64 (m : Int), .int .i64 res, .int .i64 n, .int .i64 v] 32)) w.heap.size [.int .i64 (m : Int), .int .i64 res, .int .i64 n, .int .i64 v] := Loc.make rfl rfl
  have bd0 : Below w.heap.size w (w.alloc (.cells #[.int .i64 (m : Int), .int .i64 res, .int .i64 n, .int .i64 v] 32)) := (Below.refl _ _).alloc (Nat.le_refl _) _
  generalize w.alloc (.cells #[.int .i64 (m : Int), .int .i64 res, .int .i64 n, .int .i64 v] 32) = w1 at *
  have hL1 : Loc w1.drew w.heap.size [.int .i64 (m : Int), .int .i64 res, .int .i64 n, .int .i64 v] := hL0
  have bd1 : Below w.heap.size w w1.drew := bd0.drew
  have c0 := hL1.get 0 rfl
  have i12 : (m : Int) < 12 := by omega
  refine plain_regionN (fun W' : World => W'.cell? ⟨w.heap.size, 0, none⟩ = some (.int .i64 (m : Int))) [] (by kernel_rfl) ?_
  have hS : (fun W' : World => W'.cell? ⟨w.heap.size, 0, none⟩ = some (.int .i64 (m : Int))) w1.drew := c0
  generalize w1.drew = w2 at *
  clear hL0 bd0
  refine anyX_takeNL 1 (v := ?_) rfl rfl (by as_aux_lemma => kernel_rfl) (by as_aux_lemma => kernel_rfl) (by as_aux_lemma => kernel_rfl) (by as_aux_lemma => kernel_rfl) (by as_aux_lemma => kernel_rfl) (fun _ _ _ h => h) rfl ?_ hS ?_
  rotate_left
  · intro W' hW'
    obtain s0 := hW'
    all_goals (go_simp; first | done | rfl)
  intro l' hl
  dsimp only [List.set_cons_succ, List.set_cons_zero] at hl
  subst hl
  refine anyX_takeNL 2 (v := ?_) rfl rfl (by as_aux_lemma => kernel_rfl) (by as_aux_lemma => kernel_rfl) (by as_aux_lemma => kernel_rfl) (by as_aux_lemma => kernel_rfl) (by as_aux_lemma => kernel_rfl) (fun _ _ _ h => h) rfl ?_ hS ?_
  rotate_left
  · intro W' hW'
    obtain s0 := hW'
    all_goals (go_simp; first | done | rfl)
  intro l' hl
  dsimp only [List.set_cons_succ, List.set_cons_zero] at hl
  subst hl
  refine anyX_one (i := 0) (by kernel_rfl) rfl rfl fun K' hK' => ?_
  unfold Oper.wp
  go_simp
  refine (Hwo.out w2).mono ?_
  rintro e w3 ⟨rfl, hw3⟩
  have hS3 : (fun W' : World => W'.cell? ⟨w.heap.size, 0, none⟩ = some (.int .i64 (m : Int))) w3 := by rw [hw3]; exact cell_alloc hS _
  have hLw : Loc w3 w2.heap.size (wordsB.map Value.string) := by rw [hw3]; exact Loc.make rfl rfl
  have b3 : Below w2.heap.size w2 w3 := by rw [hw3]; exact (Below.refl _ _).alloc (Nat.le_refl _) _
  have cw := hLw.get m (wordsB_at m hm)
  have hL3 := hL1.new_ b3
  have bd3 := bd1.trans (b3.mono bd1.size)
  refine hK' _ _ (fun _ => hS3) ?_
  clear hK' K' hS hw3 hLw b3 hL1 bd1
  have hS := hS3
  refine anyX_one (i := 3) (by kernel_rfl) rfl rfl fun K' hK' => ?_
  unfold Oper.wp
  go_simp
  refine hK' _ _ (fun _ => hS) ?_
  clear hK' K'
  refine anyX_one (i := 4) (by kernel_rfl) rfl rfl fun K' hK' => ?_
  unfold Oper.wp
  go_simp
  refine hK' _ _ (fun _ => hS) ?_
  clear hK' K'
  refine anyX_one (i := 5) (by kernel_rfl) rfl rfl fun K' hK' => ?_
  unfold Oper.wp
  go_simp
  refine hK' _ _ (fun _ => hS) (anyX_done (by kernel_rfl) ?_ _)
  refine NoPanic.normal ?_
  clear hK' K'
  have d0 := hL3.get 0 rfl
  go_wp2_with fail
  refine (Hfo.out w3 m (by omega)).mono ?_
  rintro e w4 ⟨rfl, b4⟩
  have hL4 := hL3.new_ b4
  have bd4 := bd3.trans (b4.mono bd3.size)
  have htx0 := HTE.out
  rw [Int.toNat_natCast] at htx0
  have hfz : (formB m).size ≤ 2 := by
    have h12 : m = 1 ∨ m = 2 ∨ m = 3 ∨ m = 4 ∨ m = 5 ∨ m = 6 ∨ m = 7 ∨ m = 8 ∨ m = 9 ∨ m = 10 ∨ m = 11 := by omega
    rcases h12 with rfl | rfl | rfl | rfl | rfl | rfl | rfl | rfl | rfl | rfl | rfl <;> decide
  have hws : (wordOf (m : Int)).size ≤ 6 := by rw [Array.length_toList] at hwl; exact hwl
  generalize formB m = f at *
  generalize wordOf (m : Int) = wd at *
  have HTX0 := Lib.hid htx0
  clear hL3 HTE b4 bd3 d0 c0 cw hS hS3 htx0 hwl
  go_wp2
  go_loopg [3, 5] f.size (fun gn a b wr => ∃ (k : Nat) (s : ByteArray), gn = f.size - k ∧ k ≤ f.size ∧ a = .string s ∧ b = .int .i64 (k : Int) ∧ s.data.toList ++ textF (f.data.toList.drop k) ⟨(m : Int), res, n, v⟩ = Tx ∧ s.size ≤ 6 + 22 * k ∧ Below w4.heap.size w4 wr)
  case atStart => exact ⟨0, wd, rfl, Nat.zero_le _, rfl, rfl, HTX0.out, hws, Below.refl _ _⟩
  case round =>
    clear HTX0
    obtain ⟨k, s, hgk, hk2, rfl, rfl, htx, hss, bd⟩ := hrel
    have Hgk := Lib.hid hgk
    clear hgk
    by_cases hlt : k < f.size
    · have i0 : (k : Int) < (f.size : Int) := by omega
      have hwk : IntKind.i64.wrap ((k : Int) + 1) = (k : Int) + 1 := by rw [IntKind.wrap_i64]; omega
      have hdr : f.data.toList.drop k = f[k] :: f.data.toList.drop (k + 1) := by
        rw [List.drop_eq_getElem_cons (by simpa using hlt)]
        rfl
      rw [hdr, textF] at htx
      by_cases hc1 : f[k].toNat = 82
      · have e82 : ((f[k].toNat : Int) == 82) = true := beq_iff_eq.2 (by omega)
        rw [if_pos hc1] at htx
        as_aux_lemma =>
        have cj := (hL4.new_ bd).get 1 rfl
        have hln := Lib.itoa_length_le res x1 x2
        have q1 : ¬ 9223372036854775807 < s.size + 1 := by omega
        have q2 : ¬ 9223372036854775807 < s.size + 1 + (Lib.itoa res).length := by omega
        have hs1 : (s ++ ⟨#[32]⟩ ++ ⟨(Lib.itoa res).toArray⟩).data.toList = s.data.toList ++ 32 :: Lib.itoa res := by simp
        have hs2 : (s ++ ⟨#[32]⟩ ++ ⟨(Lib.itoa res).toArray⟩).size ≤ 6 + 22 * (k + 1) := by rw [bsz, hs1, List.length_append, List.length_cons, ← bsz]; omega
        have hs3 : (s ++ ⟨#[32]⟩ ++ ⟨(Lib.itoa res).toArray⟩).data.toList ++ textF (f.data.toList.drop (k + 1)) ⟨(m : Int), res, n, v⟩ = Tx := by rw [hs1, ← htx, List.append_assoc]
        have HS2 := Lib.hid hs2
        have HS3 := Lib.hid hs3
        have HBD := Lib.hid bd
        clear hs1 hs2 hs3 htx hdr bd
        go_wp2_with fail
        refine Calls.mono (Hte.out wr res x1 x2) ?_
        rintro e w5 ⟨rfl, b5⟩
        have HBD5 := Lib.hid (HBD.out.trans (b5.mono HBD.out.size))
        clear b5 cj
        go_wp2
        go_roundg (f.size - (k + 1))
        case measure => have := Hgk.out; omega
        case rel => exact ⟨k + 1, _, rfl, by omega, rfl, by go_num, HS3.out, HS2.out, HBD5.out⟩
      have e82 : ((f[k].toNat : Int) == 82) = false := beq_eq_false_iff_ne.2 (by omega)
      rw [if_neg hc1] at htx
      by_cases hc2 : f[k].toNat = 86
      · have e86 : ((f[k].toNat : Int) == 86) = true := beq_iff_eq.2 (by omega)
        rw [if_pos hc2] at htx
        as_aux_lemma =>
        have cj := (hL4.new_ bd).get 3 rfl
        have hln := Lib.itoa_length_le v z1 z2
        have q1 : ¬ 9223372036854775807 < s.size + 1 := by omega
        have q2 : ¬ 9223372036854775807 < s.size + 1 + (Lib.itoa v).length := by omega
        have hs1 : (s ++ ⟨#[32]⟩ ++ ⟨(Lib.itoa v).toArray⟩).data.toList = s.data.toList ++ 32 :: Lib.itoa v := by simp
        have hs2 : (s ++ ⟨#[32]⟩ ++ ⟨(Lib.itoa v).toArray⟩).size ≤ 6 + 22 * (k + 1) := by rw [bsz, hs1, List.length_append, List.length_cons, ← bsz]; omega
        have hs3 : (s ++ ⟨#[32]⟩ ++ ⟨(Lib.itoa v).toArray⟩).data.toList ++ textF (f.data.toList.drop (k + 1)) ⟨(m : Int), res, n, v⟩ = Tx := by rw [hs1, ← htx, List.append_assoc]
        have HS2 := Lib.hid hs2
        have HS3 := Lib.hid hs3
        have HBD := Lib.hid bd
        clear hs1 hs2 hs3 htx hdr bd
        go_wp2_with fail
        refine Calls.mono (Hte.out wr v z1 z2) ?_
        rintro e w5 ⟨rfl, b5⟩
        have HBD5 := Lib.hid (HBD.out.trans (b5.mono HBD.out.size))
        clear b5 cj
        go_wp2
        go_roundg (f.size - (k + 1))
        case measure => have := Hgk.out; omega
        case rel => exact ⟨k + 1, _, rfl, by omega, rfl, by go_num, HS3.out, HS2.out, HBD5.out⟩
      have e86 : ((f[k].toNat : Int) == 86) = false := beq_eq_false_iff_ne.2 (by omega)
      rw [if_neg hc2] at htx
      by_cases hc3 : f[k].toNat = 66
      · have e66 : ((f[k].toNat : Int) == 66) = true := beq_iff_eq.2 (by omega)
        rw [if_pos hc3] at htx
        have q1 : ¬ 9223372036854775807 < s.size + 2 := by omega
        have hs1 : (s ++ ⟨#[32, 123]⟩).data.toList = s.data.toList ++ [32, 123] := by simp
        have hs2 : (s ++ ⟨#[32, 123]⟩).size ≤ 6 + 22 * (k + 1) := by rw [ByteArray.size_append]; show s.size + 2 ≤ _; omega
        have hs3 : (s ++ ⟨#[32, 123]⟩).data.toList ++ textF (f.data.toList.drop (k + 1)) ⟨(m : Int), res, n, v⟩ = Tx := by rw [hs1, ← htx, List.append_assoc]
        have HS2 := Lib.hid hs2
        have HS3 := Lib.hid hs3
        have HBD := Lib.hid bd
        clear hs1 hs2 hs3 htx hdr bd
        as_aux_lemma =>
        go_wp2
        go_roundg (f.size - (k + 1))
        case measure => have := Hgk.out; omega
        case rel => exact ⟨k + 1, _, rfl, by omega, rfl, by go_num, HS3.out, HS2.out, HBD.out⟩
      have e66 : ((f[k].toNat : Int) == 66) = false := beq_eq_false_iff_ne.2 (by omega)
      rw [if_neg hc3] at htx
      as_aux_lemma =>
      have cj := (hL4.new_ bd).get 2 rfl
      have hln := Lib.itoa_length_le n y1 y2
      have q1 : ¬ 9223372036854775807 < s.size + 1 := by omega
      have q2 : ¬ 9223372036854775807 < s.size + 1 + (Lib.itoa n).length := by omega
      have hs1 : (s ++ ⟨#[32]⟩ ++ ⟨(Lib.itoa n).toArray⟩).data.toList = s.data.toList ++ 32 :: Lib.itoa n := by simp
      have hs2 : (s ++ ⟨#[32]⟩ ++ ⟨(Lib.itoa n).toArray⟩).size ≤ 6 + 22 * (k + 1) := by rw [bsz, hs1, List.length_append, List.length_cons, ← bsz]; omega
      have hs3 : (s ++ ⟨#[32]⟩ ++ ⟨(Lib.itoa n).toArray⟩).data.toList ++ textF (f.data.toList.drop (k + 1)) ⟨(m : Int), res, n, v⟩ = Tx := by rw [hs1, ← htx, List.append_assoc]
      have HS2 := Lib.hid hs2
      have HS3 := Lib.hid hs3
      have HBD := Lib.hid bd
      clear hs1 hs2 hs3 htx hdr bd
      go_wp2_with fail
      refine Calls.mono (Hte.out wr n y1 y2) ?_
      rintro e w5 ⟨rfl, b5⟩
      have HBD5 := Lib.hid (HBD.out.trans (b5.mono HBD.out.size))
      clear b5 cj
      go_wp2
      go_roundg (f.size - (k + 1))
      case measure => have := Hgk.out; omega
      case rel => exact ⟨k + 1, _, rfl, by omega, rfl, by go_num, HS3.out, HS2.out, HBD5.out⟩
    · obtain rfl : k = f.size := by omega
      have i0 : ¬ (f.size : Int) < (f.size : Int) := by omega
      rw [List.drop_eq_nil_of_le (by simp), textF, List.append_nil] at htx
      have hs : s = ⟨Tx.toArray⟩ := ByteArray.ext (by rw [← htx])
      have fin := bd4.trans (bd.mono bd4.size)
      have HS := Lib.hid hs
      clear htx hs bd
      as_aux_lemma =>
      go_wp2
      go_ret
      exact ⟨by rw [HS.out]; rfl, fin⟩
end CR
end Go.Proofs.YtnehiooioodkfaaDoor

/-
  CODE: the document's Print.
-/
set_option linter.unusedVariables false
set_option linter.unusedSimpArgs false
namespace Go.Proofs.YtnehiooioodkfaaDoor
open Go Go.RowKit
namespace CR
open CD
theorem checkG_flds : ∀ (xs : List Op4) (i op : Nat), (checkG xs i op).2 = 0 → ∀ o ∈ xs, fieldsB o = true
  | [], i, op, _, o, ho => by cases ho
  | x :: r, i, op, h, o, ho => by
    rw [checkG] at h
    by_cases hf : fieldsB x = false
    · rw [if_pos hf] at h; simp at h
    · rw [if_neg hf] at h
      have hrest : ∃ j m, (checkG r j m).2 = 0 := by
        split at h
        · split at h
          · simp at h
          · exact ⟨_, _, h⟩
        · split at h
          · split at h
            · simp at h
            · exact ⟨_, _, h⟩
          · exact ⟨_, _, h⟩
      obtain ⟨j, m, hr⟩ := hrest
      rcases List.mem_cons.1 ho with rfl | ho
      · simpa using hf
      · exact checkG_flds r j m hr o ho
theorem checkB_flds {xs : List Op4} (h : (checkB xs).2 = 0) : xs.length ≤ 256 ∧ ∀ o ∈ xs, fieldsB o = true := by
  unfold checkB at h
  by_cases hb : 256 < xs.length
  · rw [if_pos hb] at h; simp at h
  · rw [if_neg hb] at h
    exact ⟨by omega, checkG_flds xs 0 0 h⟩
theorem flds_kind {o : Op4} (h : fieldsB o = true) : 1 ≤ o.kind ∧ o.kind ≤ 11 := by
  unfold fieldsB at h
  by_cases hk : kindB o.kind = false
  · rw [if_pos hk] at h; cases h
  · unfold kindB at hk
    simpa using hk
theorem textO_len (o : Op4) (hk : 1 ≤ o.kind ∧ o.kind ≤ 11) (h : Rg o) : (textO o).length ≤ 52 := by
  unfold textO
  have h1 := wordOf_len o.kind
  have h2 := numsT_len o h
  rw [List.length_append, List.length_append]
  split
  · rw [List.length_cons, List.length_cons, List.length_nil]; omega
  · rw [List.length_nil]; omega
set_option maxRecDepth 100000 in
set_option maxHeartbeats 4000000 in
theorem rprint (w : World) (v : Value) (xs : List Op4) (h : Rd4 w v xs) (hn : xs.length ≤ 1000000) (hr : ∀ o ∈ xs, Rg o) :
    Calls Tryd.prog 28 #[v] w fun e w' => e = .returned (.tuple #[.string (printB xs).1, .int .i64 (printB xs).2]) ∧ Below w.heap.size w w' := by
  obtain ⟨R, hR⟩ : ∃ R, printB xs = R := ⟨_, rfl⟩
  rw [hR]
  have hck := rcheck w v xs h hn
  obtain ⟨A, c, rfl, -⟩ := h.slice
  have HCK := Lib.hid hck
  have H := Lib.hid h
  clear hck h
  by_cases he : (checkB xs).2 = 0
  rotate_left
  · have hc : R = (⟨#[]⟩, (checkB xs).2) := by rw [← hR]; unfold printB; rw [if_neg he]
    subst hc
    have z : ((checkB xs).2 != 0) = true := by simp [he]
    clear hR
    as_aux_lemma =>
    go_enter Tryd.func28, Tryd.ntmps28
    go_wp2_with fail
    refine HCK.out.mono ?_
    rintro e w1 ⟨rfl, b1⟩
    go_wp2
    go_ret2
    exact ⟨rfl, b1⟩
  obtain ⟨hlen, hfl⟩ := checkB_flds he
  have hRe : R = if 4096 < (textB xs).length then (⟨#[]⟩, 5) else (⟨(textB xs).toArray⟩, 0) := by rw [← hR]; unfold printB; rw [if_pos he]
  rw [he] at HCK
  have HRe := Lib.hid hRe
  have HFL := Lib.hid hfl
  have HRG := Lib.hid hr
  have hone := one
  have Hone := Lib.hid hone
  clear hR hRe he hfl hr hone
  go_enter Tryd.func28, Tryd.ntmps28
  go_wp2_with fail
  refine HCK.out.mono ?_
  rintro e w1 ⟨rfl, b1⟩
  have HB1 := Lib.hid b1
  clear b1 HCK
  go_wp2
  go_loopg [6, 7] xs.length (fun gn a b wr => ∃ (k : Nat) (s : ByteArray), gn = xs.length - k ∧ k ≤ xs.length ∧ a = .string s ∧ b = .int .i64 (k : Int) ∧ s.data.toList = textB (xs.take k) ∧ s.size ≤ 60 * k ∧ Below w.heap.size w wr)
  case atStart => exact ⟨0, ⟨#[]⟩, rfl, Nat.zero_le _, rfl, rfl, rfl, Nat.zero_le _, HB1.out⟩
  case round =>
    obtain ⟨k, s, hgk, hk, rfl, rfl, hst, hss, bd⟩ := hrel
    have Hgk := Lib.hid hgk
    have HST := Lib.hid hst
    have HB := Lib.hid bd
    clear hgk hst bd
    by_cases hlt : k < xs.length
    · have j0 : (k : Int) < (xs.length : Int) := by omega
      have hwk : IntKind.i64.wrap ((k : Int) + 1) = (k : Int) + 1 := by rw [IntKind.wrap_i64]; omega
      obtain ⟨x, hx⟩ : ∃ x, xs[k]? = some x := ⟨_, List.getElem?_eq_getElem (by omega)⟩
      have hsn := textB_snoc xs k x hx
      have HSN := Lib.hid hsn
      have hmem := List.mem_of_getElem? hx
      have hkx := flds_kind (HFL.out x hmem)
      have hrx := HRG.out x hmem
      have htl := textO_len x hkx hrx
      have hRd := H.out.new_ HB.out
      obtain ⟨g, off, cap, hv, r0, r1, r2, r3⟩ := at4r hRd hx
      obtain ⟨hA, hcap⟩ : A = some ⟨g, off, none⟩ ∧ c = cap := by
        simp only [Value.slice.injEq] at hv
        exact ⟨hv.1, hv.2.2⟩
      subst hA hcap
      clear hsn hv hmem
      go_upto_if 23 with fail
      go_cut [6] from 22 to 51 (fun a wx => ∃ s1 : ByteArray, a = .string s1 ∧ s1.data.toList = s.data.toList ++ sepK xs k x ∧ s1.size ≤ s.size + 2 ∧ wx = wr)
      case first =>
        by_cases hk0 : k = 0
        · subst hk0
          as_aux_lemma =>
          go_wp2
          go_meet
          exact ⟨s, rfl, by simp [sepK], by omega, rfl⟩
        · have i0 : (0 : Int) < (k : Int) := by omega
          have hw1 : IntKind.i64.wrap ((k : Int) - 1) = ((k - 1 : Nat) : Int) := by rw [IntKind.wrap_i64]; omega
          obtain ⟨y, hy⟩ : ∃ y, xs[k - 1]? = some y := ⟨_, List.getElem?_eq_getElem (by omega)⟩
          have hsk : sepK xs k x = sepO y x := by unfold sepK; rw [if_neg hk0, hy]
          have HSK := Lib.hid hsk
          obtain ⟨g', off', cap', hv, t0, -⟩ := at4r hRd hy
          simp only [Value.slice.injEq, Option.some.injEq, Addr.mk.injEq, and_true, true_and] at hv
          obtain ⟨⟨rfl, rfl⟩, rfl⟩ := hv
          have j1 : ((k - 1 : Nat) : Int) < (xs.length : Int) := by omega
          have q1 : ¬ 9223372036854775807 < s.size + 1 := by omega
          have q2 : ¬ 9223372036854775807 < s.size + 2 := by omega
          have p1 : (s ++ ⟨#[32]⟩).data.toList = s.data.toList ++ [32] := by simp
          have p2 : (s ++ ⟨#[59, 32]⟩).data.toList = s.data.toList ++ [59, 32] := by simp
          have p3 : (s ++ ⟨#[32]⟩).size ≤ s.size + 2 := by rw [ByteArray.size_append]; show s.size + 1 ≤ _; omega
          have p4 : (s ++ ⟨#[59, 32]⟩).size ≤ s.size + 2 := by rw [ByteArray.size_append]; exact Nat.le_refl _
          have P1 := Lib.hid p1
          have P2 := Lib.hid p2
          have P3 := Lib.hid p3
          have P4 := Lib.hid p4
          clear hRd hy hsk p1 p2 p3 p4 r1 r2 r3
          by_cases h11 : x.kind = 11
          · have e11 : (x.kind == 11) = true := beq_iff_eq.2 h11
            have hso : sepO y x = [32] := by unfold sepO; rw [if_pos (.inr (.inr h11))]
            as_aux_lemma =>
            go_wp2
            go_meet
            exact ⟨_, rfl, by rw [HSK.out, hso]; exact P1.out, P3.out, rfl⟩
          have e11 : (x.kind == 11) = false := beq_eq_false_iff_ne.2 h11
          by_cases y11 : y.kind = 11
          · have f11 : (y.kind == 11) = true := beq_iff_eq.2 y11
            have hso : sepO y x = [32] := by unfold sepO; rw [if_pos (.inr (.inl y11))]
            as_aux_lemma =>
            go_wp2
            go_meet
            exact ⟨_, rfl, by rw [HSK.out, hso]; exact P1.out, P3.out, rfl⟩
          have f11 : (y.kind == 11) = false := beq_eq_false_iff_ne.2 y11
          by_cases y10 : y.kind = 10
          · have f10 : (y.kind == 10) = true := beq_iff_eq.2 y10
            have hso : sepO y x = [32] := by unfold sepO; rw [if_pos (.inl y10)]
            as_aux_lemma =>
            go_wp2
            go_meet
            exact ⟨_, rfl, by rw [HSK.out, hso]; exact P1.out, P3.out, rfl⟩
          have f10 : (y.kind == 10) = false := beq_eq_false_iff_ne.2 y10
          have hso : sepO y x = [59, 32] := by unfold sepO; rw [if_neg (by rintro (h | h | h); exact y10 h; exact y11 h; exact h11 h)]
          as_aux_lemma =>
          go_wp2
          go_meet
          exact ⟨_, rfl, by rw [HSK.out, hso]; exact P2.out, P4.out, rfl⟩
      case rest =>
        obtain ⟨s1, hx6, hs1, hz1, hwc⟩ := hcut
        subst hx6
        subst wc
        have hnx : (s1 ++ ⟨(textO x).toArray⟩).data.toList = textB (xs.take (k + 1)) := by rw [HSN.out, ← HST.out, ← List.append_assoc, ← hs1]; simp
        have hnz : (s1 ++ ⟨(textO x).toArray⟩).size ≤ 60 * (k + 1) := by
          rw [ByteArray.size_append]
          have : (⟨(textO x).toArray⟩ : ByteArray).size = (textO x).length := by show (textO x).toArray.size = _; simp
          omega
        have q1 : ¬ 9223372036854775807 < s1.size + (textO x).length := by omega
        have HNX := Lib.hid hnx
        have HNZ := Lib.hid hnz
        clear hnx hnz hs1 hRd hx
        go_wp2_with fail
        refine Calls.mono (Hone.out wr x hkx hrx) ?_
        rintro e w3 ⟨rfl, b3⟩
        have HB3 := Lib.hid (HB.out.trans (b3.mono HB.out.size))
        clear b3 r0 r1 r2 r3
        go_wp2
        go_roundg (xs.length - (k + 1))
        case measure => have := Hgk.out; omega
        case rel => exact ⟨k + 1, _, rfl, by omega, rfl, by go_num, HNX.out, HNZ.out, HB3.out⟩
    · obtain rfl : k = xs.length := by omega
      have j0 : ¬ (xs.length : Int) < (xs.length : Int) := by omega
      have hst := HST.out
      rw [List.take_length] at hst
      have hz : s.size = (textB xs).length := by rw [bsz, hst]
      by_cases hbig : 4096 < (textB xs).length
      · have hR : R = (⟨#[]⟩, 5) := by rw [HRe.out, if_pos hbig]
        have i1 : (4096 : Int) < (s.size : Int) := by omega
        subst hR
        have fin := HB.out
        clear HRe
        as_aux_lemma =>
        go_wp2
        go_ret2
        exact ⟨rfl, fin⟩
      · have hR : R = (s, 0) := by
          rw [HRe.out, if_neg hbig]
          exact Prod.ext (ByteArray.ext (by rw [← hst])) rfl
        have i1 : ¬ (4096 : Int) < (s.size : Int) := by omega
        subst hR
        have fin := HB.out
        clear HRe
        as_aux_lemma =>
        go_wp2
        go_ret2
        exact ⟨rfl, fin⟩
end CR
end Go.Proofs.YtnehiooioodkfaaDoor
