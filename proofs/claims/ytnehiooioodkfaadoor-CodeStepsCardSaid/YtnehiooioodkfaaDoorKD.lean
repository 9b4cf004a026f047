/-
  CODE: Print.
-/
import Derived.Test.YtnehiooioodkfaaDoorKC
import Derived.Deep.CutBlock
import Derived.Deep.CutRange
import Derived.Deep.DeepCutAuto
set_option linter.unusedVariables false
set_option linter.unusedSimpArgs false
namespace Go.Proofs.YtnehiooioodkfaaDoor
open Go Go.RowKit
namespace CD
theorem checkG_fields : ∀ (xs : List Op4) (i op : Nat), (checkG xs i op).2 = 0 → ∀ o ∈ xs, fieldsB o = true
  | [], _, _, _, o, ho => by cases ho
  | x :: r, i, op, h, o, ho => by
    unfold checkG at h
    split at h
    · cases h
    · rename_i hf
      have hx : fieldsB x = true := by simpa using hf
      have key : ∀ op', (checkG r (i + 1) op').2 = 0 → fieldsB o = true := fun op' h' => by
        rcases List.mem_cons.1 ho with rfl | ho'
        · exact hx
        · exact checkG_fields r (i + 1) op' h' o ho'
      split at h
      · split at h
        · cases h
        · exact key _ h
      · split at h
        · split at h
          · cases h
          · exact key _ h
        · exact key _ h
theorem checkB_ok {xs : List Op4} (h : (checkB xs).2 = 0) : xs.length ≤ 256 ∧ ∀ o ∈ xs, fieldsB o = true := by
  unfold checkB at h
  split at h
  · cases h
  · exact ⟨by omega, checkG_fields _ _ _ h⟩
theorem ba_str (s : ByteArray) : (⟨s.data.toList.toArray⟩ : ByteArray) = s := by cases s; simp
theorem ba_size (l : List UInt8) : (⟨l.toArray⟩ : ByteArray).size = l.length := by show l.toArray.size = _; simp
theorem ba_app (a b : ByteArray) : (a ++ b).data.toList = a.data.toList ++ b.data.toList := by rw [ByteArray.data_append, Array.toList_append]
theorem ba_len (s : ByteArray) : s.size = s.data.toList.length := by rw [Array.length_toList]; rfl
theorem str1_list (l : List UInt8) : ((⟨#[32]⟩ ++ ⟨l.toArray⟩ : ByteArray)).data.toList = 32 :: l := by rw [ba_app]; simp
theorem str1_size (l : List UInt8) : ((⟨#[32]⟩ ++ ⟨l.toArray⟩ : ByteArray)).size = l.length + 1 := by rw [ba_len, str1_list]; rfl
theorem str2_list (l m : List UInt8) : ((⟨#[32]⟩ ++ ⟨l.toArray⟩ ++ ⟨#[32]⟩ ++ ⟨m.toArray⟩ : ByteArray)).data.toList = 32 :: l ++ 32 :: m := by rw [ba_app, ba_app, ba_app]; simp
theorem str2_size (l m : List UInt8) : ((⟨#[32]⟩ ++ ⟨l.toArray⟩ ++ ⟨#[32]⟩ ++ ⟨m.toArray⟩ : ByteArray)).size = l.length + m.length + 2 := by rw [ba_len, str2_list]; simp; omega
theorem PB.up {w0 wx : World} {bb : Nat} {l : List UInt8} {m m' : Nat} (h : PB w0 bb l m wx) (hm : m ≤ m') : PB w0 bb l m' wx := by
  obtain ⟨h1, h2, h3, h4, h5, h6⟩ := h
  exact ⟨h1, h2, h3, h4, h5, Nat.le_trans h6 hm⟩
theorem hasOf_cases (k : Int) : hasOf k = 1 ∨ hasOf k = 2 ∨ hasOf k = 3 ∨ hasOf k = 4 ∨ hasOf k = 0 := by
  unfold hasOf
  split
  · rename_i h
    obtain ⟨m, rfl⟩ : ∃ m : Nat, k = m := ⟨k.toNat, by omega⟩
    have c : m = 1 ∨ m = 2 ∨ m = 3 ∨ m = 4 ∨ m = 5 ∨ m = 6 ∨ m = 7 ∨ m = 8 ∨ m = 9 ∨ m = 10 ∨ m = 11 := by omega
    rcases c with rfl | rfl | rfl | rfl | rfl | rfl | rfl | rfl | rfl | rfl | rfl <;> decide
  · simp
/-- What the loop keeps. -/
def pnR (w0 : World) (bb : Nat) (xs : List Op4) (gn : Nat) (i : Value) (wr : World) : Prop :=
  ∃ k : Nat, gn = xs.length - k ∧ k ≤ xs.length ∧ i = .int .i64 (k : Int) ∧ PB w0 bb (textB (xs.take k)) (k * 200) wr
set_option maxRecDepth 100000 in
set_option maxHeartbeats 8000000 in
theorem print (w : World) (v : Value) (xs : List Op4) (h : Rd4 w v xs) (hn : xs.length ≤ 1000000) (hr : ∀ o ∈ xs, Rg o) (hV : VL w) :
    Calls Tryd.prog 17 #[v] w fun e w' => e = .returned (.tuple #[.string (printB xs).1, .int .i64 (printB xs).2]) ∧ Below w.heap.size w w' := by
  obtain ⟨R, hR⟩ : ∃ R, printB xs = R := ⟨_, rfl⟩
  rw [hR]
  have hck := check w v xs h hn
  obtain ⟨A, c, rfl, hc2⟩ := h.slice
  by_cases he : (checkB xs).2 = 0
  rotate_left
  · have hc : R = (⟨#[]⟩, (checkB xs).2) := by rw [← hR]; unfold printB; rw [if_neg he]
    subst hc
    have hb : ((checkB xs).2 != 0) = true := by simp [he]
    clear hR
    as_aux_lemma =>
    go_enter Tryd.func17, Tryd.ntmps17
    go_wp2_with fail
    refine hck.mono ?_
    rintro e w1 ⟨rfl, bd⟩
    go_wp2
    go_ret2
    exact ⟨rfl, bd⟩
  have hpr : (if 4096 < (textB xs).length then (⟨#[]⟩, 5) else (⟨(textB xs).toArray⟩, 0)) = R := by rw [← hR]; unfold printB; rw [if_pos he]
  obtain ⟨hl, hfi⟩ := checkB_ok he
  have h5 := hV.1
  rw [he] at hck
  have HPR := Lib.hid hpr
  have Hr := Lib.hid hr
  have H := Lib.hid h
  have HV := Lib.hid hV
  have hrow := rowOf
  have Hrow := Lib.hid hrow
  have Hfi := Lib.hid hfi
  clear hpr hr h hV hrow hfi hR he
  go_enter Tryd.func17, Tryd.ntmps17
  go_wp2_with fail
  refine hck.mono ?_
  rintro e w1 ⟨rfl, bd1⟩
  clear hck
  go_wp2
  have hpb : PB w w1.heap.size [] 0 (w1.alloc (.cells #[.pointer none, .slice none 0 0] 77)) :=
    ⟨.of (Lib.fresh_isBuilder _ _ w1), by simp [World.alloc_eq], bdA bd1.size bd1 _, bd1.size, (HV.out.nb bd1).nb (bdA (Nat.le_refl _) (Below.refl _ _) _), Nat.le_refl _⟩
  generalize w1.alloc (.cells #[.pointer none, .slice none 0 0] 77) = w2 at *
  have hbb := bd1.size
  generalize w1.heap.size = bb at *
  clear bd1
  go_loopg [22] xs.length (fun gn i wr => pnR w bb xs gn i wr)
  case atStart => exact ⟨0, rfl, Nat.zero_le _, rfl, by simpa [textB] using hpb⟩
  case round =>
    clear hpb
    obtain ⟨k, hgk, hk, rfl, hpb⟩ := hrel
    have Hgk := Lib.hid hgk
    clear hgk
    by_cases hlt : k < xs.length
    · have j0 : (k : Int) < (xs.length : Int) := by omega
      obtain ⟨x, hx⟩ : ∃ x, xs[k]? = some x := ⟨_, List.getElem?_eq_getElem hlt⟩
      have htx := textB_snoc xs k x hx
      have hxr := Hr.out x (List.mem_of_getElem? hx)
      have hxf := Hfi.out x (List.mem_of_getElem? hx)
      have hrd := H.out.new_ hpb.2.2.1
      obtain ⟨g, off, cap, hv, r0, r1, r2, r3⟩ := at4r hrd hx
      simp only [Value.slice.injEq, true_and] at hv
      obtain ⟨rfl, rfl⟩ := hv
      have Hrd := Lib.hid hrd
      have Htx := Lib.hid htx
      have Hx := Lib.hid hx
      have Hxr := Lib.hid hxr
      have Hxf := Lib.hid hxf
      obtain ⟨L0, hL0⟩ : ∃ L0, textB (xs.take k) = L0 := ⟨_, rfl⟩
      rw [hL0] at hpb
      have HL0 := Lib.hid hL0
      clear hrd htx hx hxr hxf hL0
      obtain ⟨kind, res, n, v⟩ := x
      simp only at r0 r1 r2 r3
      go_upto_if 28 with fail
      have hBx : Bx (wr.alloc (.cells #[.int .i64 kind, .int .i64 res, .int .i64 n, .int .i64 v] 32)) wr.heap.size #[.int .i64 kind, .int .i64 res, .int .i64 n, .int .i64 v] 32 := heap_alloc_last _ _
      have hob : wr.heap.size ≠ bb := by have := hpb.2.1; omega
      have hpb := hpb.nb (bdA (Nat.le_refl _) (Below.refl _ _) (.cells #[.int .i64 kind, .int .i64 res, .int .i64 n, .int .i64 v] 32))
      have Hrd := Lib.hid (Hrd.out.new_ (bdA (Nat.le_refl _) (Below.refl _ _) (.cells #[.int .i64 kind, .int .i64 res, .int .i64 n, .int .i64 v] 32)))
      generalize wr.alloc (.cells #[.int .i64 kind, .int .i64 res, .int .i64 n, .int .i64 v] 32) = w3 at *
      generalize wr.heap.size = ob at *
      clear r0 r1 r2 r3
      have HB := Lib.hid hpb
      clear hpb
      go_cut [9] from 29 to 47 (fun s9 wx => PB w bb (L0 ++ sepK xs k ⟨kind, res, n, v⟩) (k * 200 + 2) wx ∧ Bx wx ob #[.int .i64 kind, .int .i64 res, .int .i64 n, .int .i64 v] 32)
      case first =>
        rcases Nat.eq_zero_or_pos k with rfl | hkp
        · have e0 : sepK xs 0 ⟨kind, res, n, v⟩ = [] := by simp [sepK]
          have hpb := HB.out
          as_aux_lemma =>
          go_wp2
          go_meet
          exact ⟨by rw [e0, List.append_nil]; exact hpb.up (by omega), hBx⟩
        obtain ⟨j, rfl⟩ : ∃ j, k = j + 1 := ⟨k - 1, by omega⟩
        obtain ⟨a, ha⟩ : ∃ a, xs[j]? = some a := ⟨_, List.getElem?_eq_getElem (by omega)⟩
        have hse : sepK xs (j + 1) ⟨kind, res, n, v⟩ = sepO a ⟨kind, res, n, v⟩ := by
          unfold sepK
          rw [if_neg (by omega), Nat.add_sub_cancel, ha]
        obtain ⟨g', off', cap', hv, r0, -⟩ := at4r Hrd.out ha
        simp only [Value.slice.injEq, Option.some.injEq, Addr.mk.injEq, true_and, and_true] at hv
        obtain ⟨⟨rfl, rfl⟩, rfl⟩ := hv
        have b0 : w3.cell? ⟨ob, 0, none⟩ = some (.int .i64 kind) := hBx.cell 0
        have hwr1 : IntKind.i64.wrap ((j : Int) + 1 - 1) = (j : Int) := by rw [IntKind.wrap_i64]; omega
        have hwr2 : IntKind.i64.wrap (j : Int) = (j : Int) := by rw [IntKind.wrap_i64]; omega
        have jl : (j : Int) < (xs.length : Int) := by omega
        have jp : (0 : Int) < (j : Int) + 1 := by omega
        by_cases a10 : a.kind = 10
        · have hs : sepO a ⟨kind, res, n, v⟩ = [32] := by unfold sepO; rw [if_pos (.inl a10)]
          rw [hs] at hse
          have aa : (a.kind != 10) = false := by simp [a10]
          clear hs a10
          as_aux_lemma =>
          have hpb := HB.out
          have q := hpb.wb (by omega) 32 h5
          change Calls _ _ #[_, .int .u8 32] _ _ at q
          go_wp2_with fail
          refine q.mono ?_
          rintro e w9 ⟨rfl, hpbw9, ok⟩
          have hBxw9 := hBx.ok ok hob (by decide)
          clear q hpb hBx ok
          have hpb := hpbw9
          have hBx := hBxw9
          clear hpbw9 hBxw9
          go_wp2
          go_meet
          rw [hse]
          exact ⟨by first | exact hpb.up (by omega) | (rw [List.append_assoc] at hpb; exact hpb.up (by omega)), hBx⟩

        by_cases a11 : a.kind = 11
        · have hs : sepO a ⟨kind, res, n, v⟩ = [32] := by unfold sepO; rw [if_pos (.inr (.inl a11))]
          rw [hs] at hse
          have aa : (a.kind != 10) = true := by simp [a10]
          have ab : (a.kind != 11) = false := by simp [a11]
          clear hs a11
          as_aux_lemma =>
          have hpb := HB.out
          have q := hpb.wb (by omega) 32 h5
          change Calls _ _ #[_, .int .u8 32] _ _ at q
          go_wp2_with fail
          refine q.mono ?_
          rintro e w9 ⟨rfl, hpbw9, ok⟩
          have hBxw9 := hBx.ok ok hob (by decide)
          clear q hpb hBx ok
          have hpb := hpbw9
          have hBx := hBxw9
          clear hpbw9 hBxw9
          go_wp2
          go_meet
          rw [hse]
          exact ⟨by first | exact hpb.up (by omega) | (rw [List.append_assoc] at hpb; exact hpb.up (by omega)), hBx⟩

        have aa : (a.kind != 10) = true := by simp [a10]
        have ab : (a.kind != 11) = true := by simp [a11]
        by_cases k11 : kind = 11
        · have hs : sepO a ⟨kind, res, n, v⟩ = [32] := by unfold sepO; rw [if_pos (.inr (.inr k11))]
          rw [hs] at hse
          have ac : (kind != 11) = false := by simp [k11]
          clear hs k11
          as_aux_lemma =>
          have hpb := HB.out
          have q := hpb.wb (by omega) 32 h5
          change Calls _ _ #[_, .int .u8 32] _ _ at q
          go_wp2_with fail
          refine q.mono ?_
          rintro e w9 ⟨rfl, hpbw9, ok⟩
          have hBxw9 := hBx.ok ok hob (by decide)
          clear q hpb hBx ok
          have hpb := hpbw9
          have hBx := hBxw9
          clear hpbw9 hBxw9
          go_wp2
          go_meet
          rw [hse]
          exact ⟨by first | exact hpb.up (by omega) | (rw [List.append_assoc] at hpb; exact hpb.up (by omega)), hBx⟩

        · have hs : sepO a ⟨kind, res, n, v⟩ = [59, 32] := by unfold sepO; rw [if_neg (by simp [a10, a11, k11])]
          rw [hs] at hse
          have ac : (kind != 11) = true := by simp [k11]
          as_aux_lemma =>
          have hpb := HB.out
          have q := hpb.wb (by omega) 59 h5
          change Calls _ _ #[_, .int .u8 59] _ _ at q
          go_wp2_with fail
          refine q.mono ?_
          rintro e w8 ⟨rfl, hpbw8, ok⟩
          have hBxw8 := hBx.ok ok hob (by decide)
          clear q hpb hBx ok
          have hpb := hpbw8
          have hBx := hBxw8
          clear hpbw8 hBxw8
          have q := hpb.wb (by omega) 32 h5
          change Calls _ _ #[_, .int .u8 32] _ _ at q
          go_wp2_with fail
          refine q.mono ?_
          rintro e w9 ⟨rfl, hpbw9, ok⟩
          have hBxw9 := hBx.ok ok hob (by decide)
          clear q hpb hBx ok
          have hpb := hpbw9
          have hBx := hBxw9
          clear hpbw9 hBxw9
          go_wp2
          go_meet
          rw [hse]
          exact ⟨by first | exact hpb.up (by omega) | (rw [List.append_assoc] at hpb; exact hpb.up (by omega)), hBx⟩
      case rest =>
        obtain ⟨hpb, hBx⟩ := hcut
        clear HB Hrd
        obtain ⟨L1, hL1⟩ : ∃ L1, L0 ++ sepK xs k ⟨kind, res, n, v⟩ = L1 := ⟨_, rfl⟩
        rw [hL1] at hpb
        have b0 : wc.cell? ⟨ob, 0, none⟩ = some (.int .i64 kind) := hBx.cell 0
        go_wp2_with fail
        refine (Hrow.out _ _).mono ?_
        rintro e w4 ⟨rfl, b4⟩
        replace hpb := hpb.nb b4
        replace hBx := hBx.nb b4
        clear b0 b4
        go_wp2_with fail
        have hBr : Bx (w4.alloc (.cells #[.string (wordOf kind), .int .i64 (hasOf kind)] 82)) w4.heap.size #[.string (wordOf kind), .int .i64 (hasOf kind)] 82 := heap_alloc_last _ _
        have hrb : w4.heap.size ≠ bb := by have := hpb.2.1; omega
        replace hpb := hpb.nb (bdA (Nat.le_refl _) (Below.refl _ _) (.cells #[.string (wordOf kind), .int .i64 (hasOf kind)] 82))
        replace hBx := hBx.nb (bdA (Nat.le_refl _) (Below.refl _ _) (.cells #[.string (wordOf kind), .int .i64 (hasOf kind)] 82))
        generalize w4.alloc (.cells #[.string (wordOf kind), .int .i64 (hasOf kind)] 82) = w5 at *
        generalize w4.heap.size = rb at *
        have hwl := wordOf_len kind
        have hws : (wordOf kind).size = (wordOf kind).data.toList.length := by rw [Array.length_toList]; rfl
        refine (hpb.ws (by omega) (wordOf kind) (by omega) h5).mono ?_
        rintro e w6 ⟨⟨vr, rfl⟩, hpb6, ok⟩
        replace hBx := hBx.ok ok hob (by decide)
        replace hBr := hBr.ok ok hrb (by decide)
        replace hpb6 := hpb6.up (m' := k * 200 + 10) (by omega)
        clear hpb ok
        have hb1 : w6.cell? ⟨rb, 1, none⟩ = some (.int .i64 (hasOf kind)) := hBr.cell 1
        have hhc := hasOf_cases kind
        go_upto_block 2 with fail
        have HB6 := Lib.hid hpb6
        clear hpb6
        go_cut [] from 48 to 91 (fun wx => PB w bb (L1 ++ (wordOf kind).data.toList ++ numsT ⟨kind, res, n, v⟩) (k * 200 + 60) wx ∧ Bx wx ob #[.int .i64 kind, .int .i64 res, .int .i64 n, .int .i64 v] 32)
        case first =>
          have b1 : w6.cell? ⟨ob, 1, none⟩ = some (.int .i64 res) := hBx.cell 1
          have b2 : w6.cell? ⟨ob, 2, none⟩ = some (.int .i64 n) := hBx.cell 2
          have b3 : w6.cell? ⟨ob, 3, none⟩ = some (.int .i64 v) := hBx.cell 3
          obtain ⟨⟨x1, x2⟩, ⟨y1, y2⟩, ⟨z1, z2⟩⟩ := Hxr.out
          simp only at x1 x2 y1 y2 z1 z2
          rcases hhc with hh | hh | hh | hh | hh
          · have hnu : numsT ⟨kind, res, n, v⟩ = 32 :: Lib.itoa res ++ 32 :: Lib.itoa n := by unfold numsT; simp [hh]
            rw [hh]
            have hil := Lib.itoa_length_le res x1 x2
            have hil2 := Lib.itoa_length_le n y1 y2
            have q1 : ¬ 9223372036854775807 < 1 + (Lib.itoa res).length := by omega
            have q2 : ¬ 9223372036854775807 < 1 + (Lib.itoa res).length + 1 := by omega
            have q3 : ¬ 9223372036854775807 < 1 + (Lib.itoa res).length + 1 + (Lib.itoa n).length := by omega
            as_aux_lemma =>
            go_wp2_with fail
            have hpb := HB6.out.nb (wy := w6.drew) (Below.drew (Below.refl _ _))
            replace hBx := hBx.nb (wy := w6.drew) (Below.drew (Below.refl _ _))
            refine plain_regionN (fun W' : World => W'.cell? ⟨ob, 1, none⟩ = some (.int .i64 res) ∧ W'.cell? ⟨ob, 2, none⟩ = some (.int .i64 n)) [] (by kernel_rfl) ?_
            have hS : (fun W' : World => W'.cell? ⟨ob, 1, none⟩ = some (.int .i64 res) ∧ W'.cell? ⟨ob, 2, none⟩ = some (.int .i64 n)) w6.drew := ⟨b1, b2⟩
            generalize w6.drew = w7 at *
            refine anyX_takeNL 0 (v := ?_) rfl rfl (by as_aux_lemma => kernel_rfl) (by as_aux_lemma => kernel_rfl) (by as_aux_lemma => kernel_rfl) (by as_aux_lemma => kernel_rfl) (by as_aux_lemma => kernel_rfl) (fun _ _ _ h => h) rfl ?_ hS ?_
            rotate_left
            · intro W' hW'
              obtain ⟨s1, s2⟩ := hW'
              all_goals (go_simp; first | done | rfl)
            intro l' hl
            dsimp only [List.set_cons_succ, List.set_cons_zero] at hl
            subst hl
            refine anyX_takeNL 1 (v := ?_) rfl rfl (by as_aux_lemma => kernel_rfl) (by as_aux_lemma => kernel_rfl) (by as_aux_lemma => kernel_rfl) (by as_aux_lemma => kernel_rfl) (by as_aux_lemma => kernel_rfl) (fun _ _ _ h => h) rfl ?_ hS ?_
            rotate_left
            · intro W' hW'
              obtain ⟨s1, s2⟩ := hW'
              all_goals (go_simp; first | done | rfl)
            intro l' hl
            dsimp only [List.set_cons_succ, List.set_cons_zero] at hl
            subst hl
            refine anyX_takeNL 5 (v := ?_) rfl rfl (by as_aux_lemma => kernel_rfl) (by as_aux_lemma => kernel_rfl) (by as_aux_lemma => kernel_rfl) (by as_aux_lemma => kernel_rfl) (by as_aux_lemma => kernel_rfl) (fun _ _ _ h => h) rfl ?_ hS ?_
            rotate_left
            · intro W' hW'
              obtain ⟨s1, s2⟩ := hW'
              all_goals (go_simp; first | done | rfl)
            intro l' hl
            dsimp only [List.set_cons_succ, List.set_cons_zero] at hl
            subst hl
            refine anyX_takeNL 6 (v := ?_) rfl rfl (by as_aux_lemma => kernel_rfl) (by as_aux_lemma => kernel_rfl) (by as_aux_lemma => kernel_rfl) (by as_aux_lemma => kernel_rfl) (by as_aux_lemma => kernel_rfl) (fun _ _ _ h => h) rfl ?_ hS ?_
            rotate_left
            · intro W' hW'
              obtain ⟨s1, s2⟩ := hW'
              all_goals (go_simp; first | done | rfl)
            intro l' hl
            dsimp only [List.set_cons_succ, List.set_cons_zero] at hl
            subst hl
            refine anyX_one (i := 2) (by kernel_rfl) rfl rfl fun K' hK' => ?_
            unfold Oper.wp
            go_simp
            refine (itoaC w7 res x1 x2 hpb.2.2.2.2.1).mono ?_
            rintro e w8 ⟨rfl, b8⟩
            replace hpb := hpb.nb b8
            replace hBx := hBx.nb b8
            have hS8 : (fun W' : World => W'.cell? ⟨ob, 1, none⟩ = some (.int .i64 res) ∧ W'.cell? ⟨ob, 2, none⟩ = some (.int .i64 n)) w8 := ⟨hBx.cell 1, hBx.cell 2⟩
            refine hK' _ _ (fun _ => hS8) ?_
            clear hK' K' hS b8
            have hS := hS8
            refine anyX_takeNL 3 (v := ?_) rfl rfl (by as_aux_lemma => kernel_rfl) (by as_aux_lemma => kernel_rfl) (by as_aux_lemma => kernel_rfl) (by as_aux_lemma => kernel_rfl) (by as_aux_lemma => kernel_rfl) (fun _ _ _ h => h) rfl ?_ hS ?_
            rotate_left
            · intro W' hW'
              obtain ⟨s1, s2⟩ := hW'
              all_goals (go_simp; first | done | rfl)
            intro l' hl
            dsimp only [List.set_cons_succ, List.set_cons_zero] at hl
            subst hl
            refine anyX_takeNL 4 (v := ?_) rfl rfl (by as_aux_lemma => kernel_rfl) (by as_aux_lemma => kernel_rfl) (by as_aux_lemma => kernel_rfl) (by as_aux_lemma => kernel_rfl) (by as_aux_lemma => kernel_rfl) (fun _ _ _ h => h) rfl ?_ hS ?_
            rotate_left
            · intro W' hW'
              obtain ⟨s1, s2⟩ := hW'
              all_goals (go_simp; first | done | rfl)
            intro l' hl
            dsimp only [List.set_cons_succ, List.set_cons_zero] at hl
            subst hl
            refine anyX_one (i := 7) (by kernel_rfl) rfl rfl fun K' hK' => ?_
            unfold Oper.wp
            go_simp
            refine (itoaC w8 n y1 y2 hpb.2.2.2.2.1).mono ?_
            rintro e w9 ⟨rfl, b9⟩
            replace hpb := hpb.nb b9
            replace hBx := hBx.nb b9
            have hS9 : (fun W' : World => W'.cell? ⟨ob, 1, none⟩ = some (.int .i64 res) ∧ W'.cell? ⟨ob, 2, none⟩ = some (.int .i64 n)) w9 := ⟨hBx.cell 1, hBx.cell 2⟩
            refine hK' _ _ (fun _ => hS9) ?_
            clear hK' K' hS hS8 b9
            have hS := hS9
            refine anyX_takeNL 8 (v := ?_) rfl rfl (by as_aux_lemma => kernel_rfl) (by as_aux_lemma => kernel_rfl) (by as_aux_lemma => kernel_rfl) (by as_aux_lemma => kernel_rfl) (by as_aux_lemma => kernel_rfl) (fun _ _ _ h => h) rfl ?_ hS ?_
            rotate_left
            · intro W' hW'
              obtain ⟨s1, s2⟩ := hW'
              all_goals (go_simp; first | done | rfl)
            intro l' hl
            dsimp only [List.set_cons_succ, List.set_cons_zero] at hl
            subst hl
            refine anyX_one (i := 9) (by kernel_rfl) rfl rfl fun K' hK' => ?_
            unfold Oper.wp
            go_simp
            have hsl := str2_list (Lib.itoa res) (Lib.itoa n)
            have hsz := str2_size (Lib.itoa res) (Lib.itoa n)
            refine Calls.mono (PB.ws hpb ?hm _ ?hs h5) ?_
            case hm => omega
            case hs => omega
            rintro e w10 ⟨⟨vr, rfl⟩, hpb10, ok⟩
            rw [hsl, ← hnu] at hpb10
            replace hBx := hBx.ok ok hob (by decide)
            have hS10 : (fun W' : World => W'.cell? ⟨ob, 1, none⟩ = some (.int .i64 res) ∧ W'.cell? ⟨ob, 2, none⟩ = some (.int .i64 n)) w10 := ⟨hBx.cell 1, hBx.cell 2⟩
            refine hK' _ _ (fun _ => hS10) (anyX_done (by kernel_rfl) ?_ _)
            refine NoPanic.normal ?_
            clear hK' K' hS hS9
            go_wp2
            go_meet
            exact ⟨hpb10.up (by omega), hBx⟩
          · have hnu : numsT ⟨kind, res, n, v⟩ = 32 :: Lib.itoa res := by unfold numsT; simp [hh]
            rw [hh]
            as_aux_lemma =>
            go_wp2_with fail
            refine (itoaC w6 res x1 x2 HB6.out.2.2.2.2.1).mono ?_
            rintro e w7 ⟨rfl, b7⟩
            have hpb := HB6.out.nb b7
            replace hBx := hBx.nb b7
            clear b7
            have hil := Lib.itoa_length_le res x1 x2
            have q1 : ¬ 9223372036854775807 < 1 + (Lib.itoa res).length := by omega
            go_wp2_with fail
            have hsl := str1_list (Lib.itoa res)
            have hsz := str1_size (Lib.itoa res)
            refine Calls.mono (PB.ws hpb ?hm _ ?hs h5) ?_
            case hm => omega
            case hs => omega
            rintro e w8 ⟨⟨vr, rfl⟩, hpb8, ok⟩
            rw [hsl, ← hnu] at hpb8
            replace hBx := hBx.ok ok hob (by decide)
            go_wp2
            go_meet
            exact ⟨hpb8.up (by omega), hBx⟩
          · have hnu : numsT ⟨kind, res, n, v⟩ = 32 :: Lib.itoa v := by unfold numsT; simp [hh]
            rw [hh]
            as_aux_lemma =>
            go_wp2_with fail
            refine (itoaC w6 v z1 z2 HB6.out.2.2.2.2.1).mono ?_
            rintro e w7 ⟨rfl, b7⟩
            have hpb := HB6.out.nb b7
            replace hBx := hBx.nb b7
            clear b7
            have hil := Lib.itoa_length_le v z1 z2
            have q1 : ¬ 9223372036854775807 < 1 + (Lib.itoa v).length := by omega
            go_wp2_with fail
            have hsl := str1_list (Lib.itoa v)
            have hsz := str1_size (Lib.itoa v)
            refine Calls.mono (PB.ws hpb ?hm _ ?hs h5) ?_
            case hm => omega
            case hs => omega
            rintro e w8 ⟨⟨vr, rfl⟩, hpb8, ok⟩
            rw [hsl, ← hnu] at hpb8
            replace hBx := hBx.ok ok hob (by decide)
            go_wp2
            go_meet
            exact ⟨hpb8.up (by omega), hBx⟩
          · have hnu : numsT ⟨kind, res, n, v⟩ = 32 :: Lib.itoa n := by unfold numsT; simp [hh]
            rw [hh]
            as_aux_lemma =>
            go_wp2_with fail
            refine (itoaC w6 n y1 y2 HB6.out.2.2.2.2.1).mono ?_
            rintro e w7 ⟨rfl, b7⟩
            have hpb := HB6.out.nb b7
            replace hBx := hBx.nb b7
            clear b7
            have hil := Lib.itoa_length_le n y1 y2
            have q1 : ¬ 9223372036854775807 < 1 + (Lib.itoa n).length := by omega
            go_wp2_with fail
            have hsl := str1_list (Lib.itoa n)
            have hsz := str1_size (Lib.itoa n)
            refine Calls.mono (PB.ws hpb ?hm _ ?hs h5) ?_
            case hm => omega
            case hs => omega
            rintro e w8 ⟨⟨vr, rfl⟩, hpb8, ok⟩
            rw [hsl, ← hnu] at hpb8
            replace hBx := hBx.ok ok hob (by decide)
            go_wp2
            go_meet
            exact ⟨hpb8.up (by omega), hBx⟩
          · have hnu : numsT ⟨kind, res, n, v⟩ = [] := by unfold numsT; simp [hh]
            rw [hh]
            have hpb := HB6.out
            as_aux_lemma =>
            go_wp2
            go_meet
            exact ⟨by rw [hnu, List.append_nil]; exact hpb.up (by omega), hBx⟩
        case rest =>
          obtain ⟨hpb, hBx⟩ := hcut
          clear HB6
          have b0 : wc.cell? ⟨ob, 0, none⟩ = some (.int .i64 kind) := hBx.cell 0
          have HB7 := Lib.hid hpb
          have hwr : IntKind.i64.wrap ((k : Int) + 1) = (k : Int) + 1 := by rw [IntKind.wrap_i64]; omega
          clear hpb
          by_cases h10 : kind = 10
          · have hto : textO ⟨kind, res, n, v⟩ = (wordOf kind).data.toList ++ numsT ⟨kind, res, n, v⟩ ++ [32, 123] := by unfold textO; rw [if_pos h10]
            have hpb := HB7.out
            have e10 : (kind == 10) = true := by simp [h10]
            go_wp2_with fail
            refine (hpb.ws (by omega) ⟨#[32, 123]⟩ (by decide) h5).mono ?_
            rintro e w8 ⟨⟨vr, rfl⟩, hpb8, ok⟩
            have hfin : textB (xs.take (k + 1)) = L1 ++ (wordOf kind).data.toList ++ numsT ⟨kind, res, n, v⟩ ++ [32, 123] := by rw [Htx.out, HL0.out, ← List.append_assoc, hL1, hto]; simp only [List.append_assoc]
            have HB8 := Lib.hid (hpb8.up (m' := (k + 1) * 200) (by have : (⟨#[32, 123]⟩ : ByteArray).size = 2 := rfl
                                                                   omega))
            clear hpb hpb8 ok hBx
            go_wp2
            go_roundg (xs.length - (k + 1))
            case measure => have := Hgk.out; omega
            case rel => exact ⟨k + 1, rfl, by omega, by go_num, by rw [hfin]; exact HB8.out⟩
          · have hto : textO ⟨kind, res, n, v⟩ = (wordOf kind).data.toList ++ numsT ⟨kind, res, n, v⟩ := by unfold textO; rw [if_neg h10, List.append_nil]
            have e10 : (kind == 10) = false := by simp [h10]
            have hfin : textB (xs.take (k + 1)) = L1 ++ (wordOf kind).data.toList ++ numsT ⟨kind, res, n, v⟩ := by rw [Htx.out, HL0.out, ← List.append_assoc, hL1, hto]; simp only [List.append_assoc]
            have HB8 := Lib.hid (HB7.out.up (m' := (k + 1) * 200) (by omega))
            clear hBx
            go_wp2
            go_roundg (xs.length - (k + 1))
            case measure => have := Hgk.out; omega
            case rel => exact ⟨k + 1, rfl, by omega, by go_num, by rw [hfin]; exact HB8.out⟩
    · obtain rfl : k = xs.length := by omega
      rw [List.take_of_length_le (Nat.le_refl _)] at hpb
      obtain ⟨h1, h2, h3, h4, h5', h6⟩ := hpb
      have hle := Tryd.Builder_Len_f bb bb _ wr h1
      have hst := Tryd.Builder_String_any_k bb bb (textB xs) wr h1 (Nat.le_of_lt h2)
      rw [Lib.byteCells_length] at hle
      have Hst := Lib.hid hst
      clear hst
      by_cases hlong : 4096 < (textB xs).length
      · have hc := HPR.out
        rw [if_pos hlong] at hc
        subst hc
        have q0 : (4096 : Int) < ((textB xs).length : Int) := by omega
        as_aux_lemma =>
        go_wp2_with fail
        refine hle.mono ?_
        rintro e w3 ⟨rfl, rfl⟩
        go_wp2
        go_ret2
        exact ⟨rfl, h3⟩
      · have hc := HPR.out
        rw [if_neg hlong] at hc
        subst hc
        have q0 : ¬ (4096 : Int) < ((textB xs).length : Int) := by omega
        as_aux_lemma =>
        go_wp2_with fail
        refine hle.mono ?_
        rintro e w3 ⟨rfl, rfl⟩
        go_wp2_with fail
        refine Hst.out.mono ?_
        rintro e w4 ⟨rfl, -, b4, -⟩
        go_wp2
        go_ret2
        exact ⟨rfl, below_weak h3 h4 b4⟩
end CD
end Go.Proofs.YtnehiooioodkfaaDoor
