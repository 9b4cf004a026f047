/-
  CODE: the law CodeBlanks (printed by gen/codeBlanks.py).
-/
import Derived.Test.YtnehiooioodkfaaDoorJH
import Derived.Test.YtnehiooioodkfaaDoorJV
import Derived.Test.YtnehiooioodkfaaDoorRow
import Derived.Deep.CutBlock
import Derived.Deep.CutRange
import Derived.ChangeSlices
set_option linter.unusedVariables false
set_option linter.unusedSimpArgs false
namespace Go.Proofs.YtnehiooioodkfaaDoor
open Go Go.RowKit
namespace CD
/-- A slice of bytes that came in. -/
def InB (w : World) (v : Value) (n : Nat) : Prop := ∃ (A : Option Addr) (cap : Nat), v = .slice A n cap ∧ n ≤ maxLen ∧ ∀ i, i < n → ∃ (b off : Nat) (z : Int), A = some ⟨b, off, none⟩ ∧ w.cell? ⟨b, off + i, none⟩ = some (.int .u8 z) ∧ 0 ≤ z ∧ z ≤ 255
theorem wfu8 {n : Int} (h : (Lit.int .u8 n).wf = true) : 0 ≤ n ∧ n ≤ 255 := by
  simp [Lit.wf, IntKind.min, IntKind.max, IntKind.signed, IntKind.bits] at h
  omega
set_option maxRecDepth 100000 in
open Go.ChangeShapes Go.WideShapes in
theorem inB_of_trod {H : Type} {enc : TypeId × Value → H} {w : World} {v : Value} {d : DataW H} {ps : List MemPlace} {r : Reach} {b0 : Nat} (hval : Value.okWide Tryd.prog w r b0 62 v)
    (h : DataW.Trod enc Tryd.prog w 0 (fun _ => true) true 62 v d ps) : ∃ n, InB w v n := by
  obtain ⟨a0, len0, cap0, rfl⟩ := okWide_slice Tryd.underlying62 hval
  obtain ⟨fuel, hf⟩ := h
  have hcs : (Value.slice a0 len0 cap0).cells.toList = [.slice a0 len0 cap0] := rfl
  rw [hcs] at hf
  rcases open_ints Tryd.underlying62 Tryd.underlying5 (by kernel_rfl) hf with ⟨hc, -⟩ | ⟨a, len, cap, zs, hc, -, hl, hm, hmm, -, hx, hwf⟩
  · have : Value.slice a0 len0 cap0 = .slice none 0 0 := by simpa using hc
    rw [this]
    exact ⟨0, none, 0, rfl, Nat.zero_le _, fun i hi => by omega⟩
  · have : Value.slice a0 len0 cap0 = .slice (some a) len cap := by simpa using hc
    rw [this]
    refine ⟨len, some a, cap, rfl, by omega, fun i hi => ?_⟩
    have hlm : len ≤ zs.length := by rw [hmm]; split <;> omega
    have h1 := hx i (by omega)
    obtain ⟨b, off, spot⟩ := a
    have hsp : spot = none := by
      have := hx 0 (by omega)
      simpa [Addr.add] using World.cell?_spot this
    subst hsp
    rw [Addr.add_lit] at h1
    exact ⟨b, off, zs.getD i 0, rfl, h1, wfu8 (hwf _ (by rw [List.getD_eq_getElem?_getD, List.getElem?_eq_getElem (by omega)]; exact List.getElem_mem _))⟩
def rowsS : List ByteArray := [⟨#[32]⟩, ⟨#[10]⟩, ⟨#[59]⟩, ⟨#[9, 32, 59, 13, 10]⟩, ⟨#[32, 32]⟩]
theorem rows_tab : rowsS.all (fun r => decide (r.data.toList ≠ []) && r.data.toList.all blkB && decide (r.size ≤ 5)) = true := by kernel_rfl
theorem rows_ok {r : ByteArray} (h : r ∈ rowsS) : r.data.toList ≠ [] ∧ (∀ c ∈ r.data.toList, blkB c = true) ∧ r.size ≤ 5 := by
  have ht := List.all_eq_true.1 rows_tab r h
  rw [Bool.and_eq_true, Bool.and_eq_true] at ht
  exact ⟨of_decide_eq_true ht.1.1, List.all_eq_true.1 ht.1.2, of_decide_eq_true ht.2⟩
/-- Where the word that is under way began. -/
def Fr (src : ByteArray) (i : Nat) (f : Int) (cur : List UInt8) : Prop :=
  (f = -1 ∧ cur = []) ∨ (∃ fr : Nat, f = (fr : Int) ∧ fr < i ∧ i ≤ src.size ∧ cur = (src.extract fr i).data.toList ∧ ∀ j, fr ≤ j → j < i → isW src j = true)
def blR (src : ByteArray) (w1 : World) (gn : Nat) (sv fv nv iv : Value) (wr : World) : Prop :=
  ∃ (i n : Nat) (s : ByteArray) (f : Int) (cur : List UInt8), gn = src.size + 1 - i ∧ i ≤ src.size + 1 ∧ sv = .string s ∧ fv = .int .i64 f ∧ nv = .int .i64 (n : Int) ∧ iv = .int .i64 (i : Int) ∧ n ≤ i ∧ s.size ≤ 4096 ∧ Fr src i f cur ∧
    tokW s.data.toList ++ restW src i cur = tokW src.data.toList ∧ wr = w1
theorem blank_next {src : ByteArray} {i : Nat} (hi : i ≤ src.size) (hb : i < src.size → isB src i = true) : restW src i [] = restW src (i + 1) [] := by
  by_cases h : i < src.size
  · exact rest_blank h (hb h)
  · rw [rest_end (by omega), rest_end (by omega)]
theorem word_next {src s r : ByteArray} {i fr : Nat} (hb : i < src.size → isB src i = true) (hfi : fr < i) (hi : i ≤ src.size) (hw : ∀ j, fr ≤ j → j < i → isW src j = true) (hr : r ∈ rowsS)
    (h : tokW s.data.toList ++ restW src i (src.extract fr i).data.toList = tokW src.data.toList) : tokW (s ++ r ++ src.extract fr i).data.toList ++ restW src (i + 1) [] = tokW src.data.toList := by
  obtain ⟨r1, r2, -⟩ := rows_ok hr
  have hz : (src.extract fr i).data.toList.length = i - fr := by simp; omega
  have hne : (src.extract fr i).data.toList ≠ [] := fun e => by rw [e] at hz; simp at hz; omega
  have e : (s ++ r ++ src.extract fr i).data.toList = s.data.toList ++ r.data.toList ++ (src.extract fr i).data.toList := by simp
  rw [e, tokW_more r1 r2 hne (extract_W hi hw), ← blank_next hi hb, ← h, rest_done hb hne, List.append_assoc]
  rfl
set_option maxRecDepth 100000 in
set_option maxHeartbeats 4000000 in
theorem blanksL (w : World) (hV : VL w) (s0 : ByteArray) (hs0 : s0.size ≤ maxLen) (v1 : Value) (L : Nat) (hB : InB w v1 L) (t0 : ByteArray) (ht0 : t0.size ≤ maxLen) :
    Calls Tryd.prog 9 #[.string s0, v1, .string t0] w fun e w' => e = .returned (.bool true) ∧ Below w.heap.size w w' := by
  have hf1 := few w s0 1500 hs0 (by omega)
  have hf2 := few w t0 1000 ht0 (by omega)
  have HF1 := Lib.hid hf1
  have HF2 := Lib.hid hf2
  have HV := Lib.hid hV
  have HR := Lib.hid (fun (W : World) (b : Below w.heap.size w W) => runs W (HV.out.nb b))
  obtain ⟨A, cap, rfl, hLm, hcell⟩ := hB
  have HC := Lib.hid hcell
  clear hf1 hf2 hV hs0 ht0 hcell
  unfold maxLen at hLm
  go_enter Tryd.func9, Tryd.ntmps9
  go_wp2_with fail
  refine Calls.mono HF1.out ?_
  rintro e w1 ⟨rfl, hw⟩
  subst w1
  have hsz := fewB_size s0 1500
  generalize fewB s0 1500 = src at *
  clear HF1
  go_wp2_with fail
  refine Calls.mono HF2.out ?_
  rintro e w1 ⟨rfl, hw⟩
  subst w1
  have htz := fewB_size t0 1000
  generalize fewB t0 1000 = tail at *
  clear HF2
  go_wp2
  have bd0 : Below w.heap.size w (w.alloc (.cells #[.string ⟨#[32]⟩, .string ⟨#[10]⟩, .string ⟨#[59]⟩, .string ⟨#[9, 32, 59, 13, 10]⟩, .string ⟨#[32, 32]⟩] 9)) := (Below.refl _ _).alloc (Nat.le_refl _) _
  have hrow : ∀ j, j < 5 → ∃ r, r ∈ rowsS ∧ (w.alloc (.cells #[.string ⟨#[32]⟩, .string ⟨#[10]⟩, .string ⟨#[59]⟩, .string ⟨#[9, 32, 59, 13, 10]⟩, .string ⟨#[32, 32]⟩] 9)).cell? ⟨w.heap.size, j, none⟩ = some (.string r) := fun j hj => by
    have hl : Loc (w.alloc (.cells #[.string ⟨#[32]⟩, .string ⟨#[10]⟩, .string ⟨#[59]⟩, .string ⟨#[9, 32, 59, 13, 10]⟩, .string ⟨#[32, 32]⟩] 9)) w.heap.size (rowsS.map Value.string) := Loc.make rfl rfl
    have hj5 : j < rowsS.length := hj
    exact ⟨rowsS[j], List.getElem_mem _, hl.get j (by rw [List.getElem?_map, List.getElem?_eq_getElem hj5]; rfl)⟩
  generalize w.alloc (.cells #[.string ⟨#[32]⟩, .string ⟨#[10]⟩, .string ⟨#[59]⟩, .string ⟨#[9, 32, 59, 13, 10]⟩, .string ⟨#[32, 32]⟩] 9) = w1 at *
  have HB1 := Lib.hid bd0
  have HRW := Lib.hid hrow
  clear bd0 hrow
  go_loopg [8, 9, 10, 11] (src.size + 1) (fun gn sv fv nv iv wr => blR src w1 gn sv fv nv iv wr)
  case atStart => exact ⟨0, 0, ⟨#[]⟩, -1, [], rfl, by omega, rfl, rfl, rfl, rfl, Nat.le_refl _, Nat.zero_le _, .inl ⟨rfl, rfl⟩, rfl, rfl⟩
  case round =>
    obtain ⟨i, n, s, f, cur, hgk, hi, rfl, rfl, rfl, rfl, hn, hss, hfr, hW, hw⟩ := hrel
    subst wr
    have Hgk := Lib.hid hgk
    have HFR := Lib.hid hfr
    have HW := Lib.hid hW
    clear hgk hfr hW
    by_cases hle : i ≤ src.size
    · have j0 : (i : Int) ≤ (src.size : Int) := by omega
      have hwi : IntKind.i64.wrap ((i : Int) + 1) = (i : Int) + 1 := by rw [IntKind.wrap_i64]; omega
      obtain ⟨bl, hbl0⟩ : ∃ bl : Bool, (i = src.size ∧ bl = true ∨ i < src.size ∧ bl = isB src i) := by
        by_cases e : i = src.size
        · exact ⟨true, .inl ⟨e, rfl⟩⟩
        · exact ⟨isB src i, .inr ⟨by omega, rfl⟩⟩
      go_upto_region 10 with fail
      go_cut [12] from 35 to 68 (fun b wx => b = .bool bl ∧ wx = w1)
      case first =>
        rcases hbl0 with ⟨e, rfl⟩ | ⟨hlt, hbe⟩
        · subst e
          have e1 : ((src.size : Int) == (src.size : Int)) = true := beq_self_eq_true _
          go_wp2
          go_meet
          exact ⟨rfl, rfl⟩
        · have e1 : ((i : Int) == (src.size : Int)) = false := beq_eq_false_iff_ne.2 (by omega)
          have i0 : (i : Int) < (src.size : Int) := by omega
          have hbe' : bl = blankC (src[i].toNat : Int) := by rw [hbe, isB_at hlt]
          clear hbe
          by_cases c9' : src[i].toNat = 9
          · have c9 : ((src[i].toNat : Int) == 9) = true := beq_iff_eq.2 (by omega)
            have hbl : blankC (src[i].toNat : Int) = true := by unfold blankC; rw [c9]; rfl
            as_aux_lemma =>
            go_wp2
            go_meet
            exact ⟨by rw [hbe', hbl], rfl⟩
          have c9 : ((src[i].toNat : Int) == 9) = false := beq_eq_false_iff_ne.2 (by omega)
          by_cases c10' : src[i].toNat = 10
          · have c10 : ((src[i].toNat : Int) == 10) = true := beq_iff_eq.2 (by omega)
            have hbl : blankC (src[i].toNat : Int) = true := by unfold blankC; rw [c9, c10]; rfl
            as_aux_lemma =>
            go_wp2
            go_meet
            exact ⟨by rw [hbe', hbl], rfl⟩
          have c10 : ((src[i].toNat : Int) == 10) = false := beq_eq_false_iff_ne.2 (by omega)
          by_cases c13' : src[i].toNat = 13
          · have c13 : ((src[i].toNat : Int) == 13) = true := beq_iff_eq.2 (by omega)
            have hbl : blankC (src[i].toNat : Int) = true := by unfold blankC; rw [c9, c10, c13]; rfl
            as_aux_lemma =>
            go_wp2
            go_meet
            exact ⟨by rw [hbe', hbl], rfl⟩
          have c13 : ((src[i].toNat : Int) == 13) = false := beq_eq_false_iff_ne.2 (by omega)
          by_cases c32' : src[i].toNat = 32
          · have c32 : ((src[i].toNat : Int) == 32) = true := beq_iff_eq.2 (by omega)
            have hbl : blankC (src[i].toNat : Int) = true := by unfold blankC; rw [c9, c10, c13, c32]; rfl
            as_aux_lemma =>
            go_wp2
            go_meet
            exact ⟨by rw [hbe', hbl], rfl⟩
          have c32 : ((src[i].toNat : Int) == 32) = false := beq_eq_false_iff_ne.2 (by omega)
          by_cases c59' : src[i].toNat = 59
          · have c59 : ((src[i].toNat : Int) == 59) = true := beq_iff_eq.2 (by omega)
            have hbl : blankC (src[i].toNat : Int) = true := by unfold blankC; rw [c9, c10, c13, c32, c59]; rfl
            as_aux_lemma =>
            go_wp2
            go_meet
            exact ⟨by rw [hbe', hbl], rfl⟩
          have c59 : ((src[i].toNat : Int) == 59) = false := beq_eq_false_iff_ne.2 (by omega)
          have c9n : ((src[i].toNat : Int) != 9) = true := by rw [bne, c9]; rfl
          have c10n : ((src[i].toNat : Int) != 10) = true := by rw [bne, c10]; rfl
          have c13n : ((src[i].toNat : Int) != 13) = true := by rw [bne, c13]; rfl
          have c32n : ((src[i].toNat : Int) != 32) = true := by rw [bne, c32]; rfl
          have c59n : ((src[i].toNat : Int) != 59) = true := by rw [bne, c59]; rfl
          have hbl : blankC (src[i].toNat : Int) = false := by unfold blankC; rw [c9, c10, c13, c32, c59]; rfl
          as_aux_lemma =>
          go_wp2
          go_meet
          exact ⟨by rw [hbe', hbl], rfl⟩
      case rest =>
        obtain ⟨hb12, hwc⟩ := hcut
        subst hb12
        subst wc
        have hfr := HFR.out
        clear HFR
        cases bl with
        | true =>
          have hblk : i < src.size → isB src i = true := fun h => by
            rcases hbl0 with ⟨e, -⟩ | ⟨-, e⟩
            · omega
            · exact e.symm
          rcases hfr with ⟨rfl, rfl⟩ | ⟨fr, rfl, hfi, his, rfl, hall⟩
          · have hnx : tokW s.data.toList ++ restW src (i + 1) [] = tokW src.data.toList := by rw [← blank_next hle hblk]; exact HW.out
            have HNX := Lib.hid hnx
            clear hnx hblk hbl0
            go_wp2
            go_roundg (src.size + 1 - (i + 1))
            case measure => have := Hgk.out; omega
            case rel => exact ⟨i + 1, n, s, -1, [], rfl, by omega, rfl, rfl, rfl, by go_num, by omega, hss, .inl ⟨rfl, rfl⟩, HNX.out, rfl⟩
          · have f0 : (0 : Int) ≤ (fr : Int) := by omega
            have f1 : (fr : Int) ≤ (i : Int) := by omega
            have HALL := Lib.hid hall
            have HBLK := Lib.hid hblk
            clear hall hblk hbl0
            go_upto_if 76 with fail
            go_cut [13] from 74 to 90 (fun x wx => ∃ r, r ∈ rowsS ∧ x = .string r ∧ wx = w1)
            case first =>
              by_cases hL0 : 0 < L
              · have k1 : (0 : Int) < (L : Int) := by omega
                have k2 : ¬ (L : Int) = 0 := by omega
                have k3 : ((L : Int) == 0) = false := beq_eq_false_iff_ne.2 k2
                have hj1 : n % L < L := Nat.mod_lt _ hL0
                have hT1 : Int.tmod (n : Int) (L : Int) = ((n % L : Nat) : Int) := rfl
                obtain ⟨b, off, z, rfl, hc, z0, z1⟩ := HC.out (n % L) hj1
                have hc1 := (HB1.out.cell (World.block_lt_of_cell? w _ hc)).trans hc
                obtain ⟨zn, rfl⟩ : ∃ zn : Nat, z = (zn : Int) := ⟨z.toNat, by omega⟩
                generalize n % L = j1 at *
                have hwj1 : IntKind.i64.wrap (j1 : Int) = (j1 : Int) := by rw [IntKind.wrap_i64]; omega
                have hwz : IntKind.i64.wrap (zn : Int) = (zn : Int) := by rw [IntKind.wrap_i64]; omega
                have hj2 : zn % 5 < 5 := Nat.mod_lt _ (by omega)
                have hT2 : Int.tmod (zn : Int) 5 = ((zn % 5 : Nat) : Int) := rfl
                obtain ⟨r, hr, hcr⟩ := HRW.out (zn % 5) hj2
                generalize zn % 5 = j2 at *
                have hwj2 : IntKind.i64.wrap (j2 : Int) = (j2 : Int) := by rw [IntKind.wrap_i64]; omega
                have j3 : (j1 : Int) < (L : Int) := by omega
                have j4 : (j2 : Int) < 5 := by omega
                clear hc
                as_aux_lemma =>
                go_wp2
                go_meet
                exact ⟨r, hr, rfl, rfl⟩
              · have k1 : ¬ (0 : Int) < (L : Int) := by omega
                as_aux_lemma =>
                go_wp2
                go_meet
                exact ⟨⟨#[32]⟩, List.mem_cons_self .., rfl, rfl⟩
            case rest =>
              obtain ⟨r, hr, hx, hwc⟩ := hcut
              subst hx
              subst wc
              have hrs := (rows_ok hr).2.2
              have hez : (src.extract fr i).size = i - fr := by rw [ByteArray.size_extract]; omega
              have ww1 : IntKind.i64.wrap ((s.size : Int) + (r.size : Int)) = (s.size : Int) + (r.size : Int) := by rw [IntKind.wrap_i64]; omega
              have ww2 : IntKind.i64.wrap ((s.size : Int) + (r.size : Int) + (i : Int)) = (s.size : Int) + (r.size : Int) + (i : Int) := by rw [IntKind.wrap_i64]; omega
              have ww3 : IntKind.i64.wrap ((s.size : Int) + (r.size : Int) + (i : Int) - (fr : Int)) = (s.size : Int) + (r.size : Int) + (i : Int) - (fr : Int) := by rw [IntKind.wrap_i64]; omega
              by_cases hbig : (4096 : Int) < (s.size : Int) + (r.size : Int) + (i : Int) - (fr : Int)
              · as_aux_lemma =>
                go_wp2_with fail
                refine (HR.out _ HB1.out).mono ?_
                rintro e w9 ⟨rfl, b9⟩
                go_wp2
                go_ret
                exact ⟨rfl, HB1.out.trans (b9.mono HB1.out.size)⟩
              · have q1 : ¬ 9223372036854775807 < s.size + r.size := by omega
                have q2 : ¬ 9223372036854775807 < s.size + r.size + (src.extract fr i).size := by omega
                have q3 : ¬ 9223372036854775807 < (s ++ r).size + (src.extract fr i).size := by rw [ByteArray.size_append]; omega
                have q4 : ¬ 9223372036854775807 < s.size + r.size + (i - fr) := by omega
                have hnx := word_next HBLK.out hfi his HALL.out hr HW.out
                have hsn : (s ++ r ++ src.extract fr i).size ≤ 4096 := by rw [ByteArray.size_append, ByteArray.size_append, hez]; omega
                have hwn : IntKind.i64.wrap ((n : Int) + 1) = (n : Int) + 1 := by rw [IntKind.wrap_i64]; omega
                have HNX := Lib.hid hnx
                have HSN := Lib.hid hsn
                clear hnx hsn
                go_wp2
                go_roundg (src.size + 1 - (i + 1))
                case measure => have := Hgk.out; omega
                case rel => exact ⟨i + 1, n + 1, s ++ r ++ src.extract fr i, -1, [], rfl, by omega, rfl, rfl, by go_num, by go_num, by omega, HSN.out, .inl ⟨rfl, rfl⟩, HNX.out, rfl⟩
        | false =>
          obtain ⟨hlt, hnb⟩ : i < src.size ∧ isB src i = false := by
            rcases hbl0 with ⟨-, e⟩ | ⟨h, e⟩
            · cases e
            · exact ⟨h, e.symm⟩
          have hiw := isW_of_isB hlt hnb
          have hre := rest_word (cur := cur) hlt hiw
          rcases hfr with ⟨rfl, rfl⟩ | ⟨fr, rfl, hfi, his, rfl, hall⟩
          · have hcu : [] ++ [src[i]] = (src.extract i (i + 1)).data.toList := by
              rw [← extract_snoc (Nat.le_refl i) hlt, extract_nil src i i rfl]
            rw [hcu] at hre
            have hnx : tokW s.data.toList ++ restW src (i + 1) (src.extract i (i + 1)).data.toList = tokW src.data.toList := by rw [← hre]; exact HW.out
            have HNX := Lib.hid hnx
            have HIW := Lib.hid hiw
            clear hnx hre hcu hiw hnb hbl0
            go_wp2
            go_roundg (src.size + 1 - (i + 1))
            case measure => have := Hgk.out; omega
            case rel => exact ⟨i + 1, n, s, (i : Int), _, rfl, by omega, rfl, rfl, rfl, by go_num, by omega, hss, .inr ⟨i, rfl, by omega, hlt, rfl, fun j h1 h2 => (by omega : i = j) ▸ HIW.out⟩, HNX.out, rfl⟩
          · rw [extract_snoc (by omega) hlt] at hre
            have hnx : tokW s.data.toList ++ restW src (i + 1) (src.extract fr (i + 1)).data.toList = tokW src.data.toList := by rw [← hre]; exact HW.out
            have f0 : (0 : Int) ≤ (fr : Int) := by omega
            have f2 : ¬ (fr : Int) < 0 := by omega
            have HNX := Lib.hid hnx
            have HIW := Lib.hid hiw
            have HALL := Lib.hid hall
            clear hnx hre hiw hnb hbl0 hall
            go_wp2
            go_roundg (src.size + 1 - (i + 1))
            case measure => have := Hgk.out; omega
            case rel => exact ⟨i + 1, n, s, (fr : Int), _, rfl, by omega, rfl, rfl, rfl, by go_num, by omega, hss, .inr ⟨fr, rfl, by omega, hlt, rfl, fun j h1 h2 => by
              by_cases e : j = i
              · rw [e]; exact HIW.out
              · exact HALL.out j h1 (by omega)⟩, HNX.out, rfl⟩
    · obtain rfl : i = src.size + 1 := by omega
      have j0 : ¬ ((src.size + 1 : Nat) : Int) ≤ (src.size : Int) := by omega
      have j0' : ¬ ((src.size : Int) + 1) ≤ (src.size : Int) := by omega
      have hcur : cur = [] := by
        rcases HFR.out with ⟨-, h⟩ | ⟨fr, -, -, h, -, -⟩
        · exact h
        · omega
      subst hcur
      have hww := HW.out
      rw [rest_end (by omega), List.append_nil] at hww
      obtain ⟨hq1, hq2⟩ := words_same (A := src) (B := s) (by omega) hss hww.symm
      have hwr := fun p k e => wrong_again (s := src) (by omega) (p := p) (k := k) (e := e)
      have hpl := parseB_len src
      generalize hP : parseB src = P at *
      generalize hQ : parseB s = Q at *
      obtain ⟨p, ka, ea⟩ := P
      obtain ⟨q, kb, eb⟩ := Q
      simp only at hq1 hq2 hpl
      subst hq1 hq2
      have hpa := parseR w1 src (by omega) (HV.out.nb HB1.out) hP
      have HPA := Lib.hid hpa
      have HQ := Lib.hid hQ
      have HWR := Lib.hid (hwr _ _ _ rfl)
      have hbe : (eb != eb) = false := by simp
      clear hpa hP hQ hwr HW HFR hww Hgk
      go_wp2_with fail
      refine Calls.mono HPA.out ?_
      rintro e w2 ⟨x2, rfl, r2, b2⟩
      have HB2 := Lib.hid (HB1.out.trans (b2.mono HB1.out.size))
      have R2 := Lib.hid (rd4 r2)
      obtain ⟨X2, y2, rfl, -⟩ := r2.slice
      have hpb := parseR w2 s (by omega) (HV.out.nb HB2.out) HQ.out
      have HPB := Lib.hid hpb
      clear HPA b2 r2 hpb HQ
      go_wp2_with fail
      refine Calls.mono HPB.out ?_
      rintro e w3 ⟨x3, rfl, r3, b3⟩
      have HB3 := Lib.hid (HB2.out.trans (b3.mono HB2.out.size))
      have hsm := same_rd w3 _ x3 q (by omega) (R2.out.new_ b3) (rd4 r3)
      obtain ⟨X3, y3, rfl, -⟩ := r3.slice
      have HSM := Lib.hid hsm
      clear HPB b3 r3 hsm R2 HB2
      go_wp2_with fail
      refine HSM.out.mono ?_
      rintro e w4 ⟨rfl, k4, hw4⟩
      have HB4 := Lib.hid (HB3.out.trans ((hw4 ▸ drewN_below w3 k4).mono HB3.out.size))
      clear hw4 HSM HB3
      by_cases he0 : eb = 0
      · subst he0
        as_aux_lemma =>
        go_wp2_with fail
        refine (HR.out _ HB4.out).mono ?_
        rintro e w9 ⟨rfl, b9⟩
        go_wp2
        go_ret
        exact ⟨rfl, HB4.out.trans (b9.mono HB4.out.size)⟩
      by_cases he1 : eb = 31
      · subst he1
        as_aux_lemma =>
        go_wp2_with fail
        refine (HR.out _ HB4.out).mono ?_
        rintro e w9 ⟨rfl, b9⟩
        go_wp2
        go_ret
        exact ⟨rfl, HB4.out.trans (b9.mono HB4.out.size)⟩
      obtain ⟨a, rfl, ha1, ha2, ha3, hag⟩ := HWR.out he0 he1
      have z0 : (eb == 0) = false := beq_eq_false_iff_ne.2 he0
      have z1 : (eb == 31) = false := beq_eq_false_iff_ne.2 he1
      have HAG := Lib.hid hag
      clear hag HWR
      go_wp2
      go_loopg [20] (src.size - a) (fun gn v wr => ∃ m : Nat, gn = src.size - m ∧ v = .int .i64 (m : Int) ∧ a ≤ m ∧ m ≤ src.size ∧ (∀ j, a ≤ j → j < m → isW src j = true) ∧ wr = w4)
      case atStart => exact ⟨a, rfl, rfl, Nat.le_refl _, by omega, fun j h1 h2 => by omega, rfl⟩
      case round =>
        obtain ⟨m, hgm, rfl, hma, hms, hall, hw⟩ := hrel
        subst wr
        have Hgm := Lib.hid hgm
        have HALL := Lib.hid hall
        clear hgm hall
        have hwm : IntKind.i64.wrap ((m : Int) + 1) = (m : Int) + 1 := by rw [IntKind.wrap_i64]; omega
        go_upto_region 29 with fail
        go_cut [181] from 148 to 180 (fun b wx => b = .bool (isW src m) ∧ wx = w4)
        case first =>
          by_cases hlt : m < src.size
          · have i0 : (m : Int) < (src.size : Int) := by omega
            have hiw := isW_at hlt
            by_cases c9' : src[m].toNat = 9
            · have c9 : ((src[m].toNat : Int) == 9) = true := beq_iff_eq.2 (by omega)
              have hbl : blankC (src[m].toNat : Int) = true := by unfold blankC; rw [c9]; rfl
              as_aux_lemma =>
              go_wp2
              go_meet
              exact ⟨by rw [hiw, hbl]; rfl, rfl⟩
            have c9 : ((src[m].toNat : Int) == 9) = false := beq_eq_false_iff_ne.2 (by omega)
            by_cases c10' : src[m].toNat = 10
            · have c10 : ((src[m].toNat : Int) == 10) = true := beq_iff_eq.2 (by omega)
              have hbl : blankC (src[m].toNat : Int) = true := by unfold blankC; rw [c9, c10]; rfl
              as_aux_lemma =>
              go_wp2
              go_meet
              exact ⟨by rw [hiw, hbl]; rfl, rfl⟩
            have c10 : ((src[m].toNat : Int) == 10) = false := beq_eq_false_iff_ne.2 (by omega)
            by_cases c13' : src[m].toNat = 13
            · have c13 : ((src[m].toNat : Int) == 13) = true := beq_iff_eq.2 (by omega)
              have hbl : blankC (src[m].toNat : Int) = true := by unfold blankC; rw [c9, c10, c13]; rfl
              as_aux_lemma =>
              go_wp2
              go_meet
              exact ⟨by rw [hiw, hbl]; rfl, rfl⟩
            have c13 : ((src[m].toNat : Int) == 13) = false := beq_eq_false_iff_ne.2 (by omega)
            by_cases c32' : src[m].toNat = 32
            · have c32 : ((src[m].toNat : Int) == 32) = true := beq_iff_eq.2 (by omega)
              have hbl : blankC (src[m].toNat : Int) = true := by unfold blankC; rw [c9, c10, c13, c32]; rfl
              as_aux_lemma =>
              go_wp2
              go_meet
              exact ⟨by rw [hiw, hbl]; rfl, rfl⟩
            have c32 : ((src[m].toNat : Int) == 32) = false := beq_eq_false_iff_ne.2 (by omega)
            by_cases c59' : src[m].toNat = 59
            · have c59 : ((src[m].toNat : Int) == 59) = true := beq_iff_eq.2 (by omega)
              have hbl : blankC (src[m].toNat : Int) = true := by unfold blankC; rw [c9, c10, c13, c32, c59]; rfl
              as_aux_lemma =>
              go_wp2
              go_meet
              exact ⟨by rw [hiw, hbl]; rfl, rfl⟩
            have c59 : ((src[m].toNat : Int) == 59) = false := beq_eq_false_iff_ne.2 (by omega)
            have c9n : ((src[m].toNat : Int) != 9) = true := by rw [bne, c9]; rfl
            have c10n : ((src[m].toNat : Int) != 10) = true := by rw [bne, c10]; rfl
            have c13n : ((src[m].toNat : Int) != 13) = true := by rw [bne, c13]; rfl
            have c32n : ((src[m].toNat : Int) != 32) = true := by rw [bne, c32]; rfl
            have c59n : ((src[m].toNat : Int) != 59) = true := by rw [bne, c59]; rfl
            have hbl : blankC (src[m].toNat : Int) = false := by unfold blankC; rw [c9, c10, c13, c32, c59]; rfl
            as_aux_lemma =>
            go_wp2
            go_meet
            exact ⟨by rw [hiw, hbl]; rfl, rfl⟩
          · have i0 : ¬ (m : Int) < (src.size : Int) := by omega
            as_aux_lemma =>
            go_wp2
            go_meet
            exact ⟨by rw [isW_end hlt], rfl⟩
        case rest =>
          obtain ⟨hb, hwc⟩ := hcut
          subst hb
          subst wc
          cases hiw : isW src m with
          | true =>
            have hlt : m < src.size := by
              by_cases h : m < src.size
              · exact h
              · rw [isW_end h] at hiw; cases hiw
            have HIW := Lib.hid hiw
            clear hiw
            go_wp2
            go_roundg (src.size - (m + 1))
            case measure => have := Hgm.out; omega
            case rel => exact ⟨m + 1, rfl, by go_num, by omega, hlt, fun j h1 h2 => by
              by_cases e : j = m
              · rw [e]; exact HIW.out
              · exact HALL.out j h1 (by omega), rfl⟩
          | false =>
            have hpe : past src a = m := past_eq src a m hma hms HALL.out hiw
            rw [hpe] at ha2 ha3
            have hag := HAG.out
            rw [hpe] at hag
            have hez : (src.extract 0 m).size = m := by rw [ByteArray.size_extract]; omega
            have hpc := parseR w4 (src.extract 0 m ++ ⟨#[32]⟩ ++ tail) (by simp only [ByteArray.size_append]; rw [hez]; show m + 1 + tail.size ≤ 1000000; omega) (HV.out.nb HB4.out) (hag tail (by omega))
            have q1 : ¬ 9223372036854775807 < m + 1 := by omega
            have q2 : ¬ 9223372036854775807 < m + 1 + tail.size := by omega
            have q3 : ¬ 9223372036854775807 < (src.extract 0 m).size + 1 := by omega
            have q4 : ¬ 9223372036854775807 < (src.extract 0 m).size + 1 + tail.size := by omega
            have q5 : ¬ 9223372036854775807 < (src.extract 0 m ++ ⟨#[32]⟩).size + tail.size := by simp only [ByteArray.size_append]; rw [hez]; show ¬ 9223372036854775807 < m + 1 + tail.size; omega
            have m1 : (m : Int) ≤ (src.size : Int) := by omega
            have z2 : ((a : Int) == (a : Int)) = true := beq_self_eq_true _
            have z3 : (eb == eb) = true := beq_self_eq_true _
            have HPC := Lib.hid hpc
            clear hpc hag HAG HALL Hgm hpe
            go_wp2_with fail
            refine Calls.mono HPC.out ?_
            rintro e w5 ⟨x5, rfl, r5, b5⟩
            have HB5 := Lib.hid (HB4.out.trans (b5.mono HB4.out.size))
            clear r5 b5 HPC
            go_wp2_with fail
            refine (HR.out _ HB5.out).mono ?_
            rintro e w9 ⟨rfl, b9⟩
            go_wp2
            go_ret
            exact ⟨rfl, HB5.out.trans (b9.mono HB5.out.size)⟩
end CD
end Go.Proofs.YtnehiooioodkfaaDoor
