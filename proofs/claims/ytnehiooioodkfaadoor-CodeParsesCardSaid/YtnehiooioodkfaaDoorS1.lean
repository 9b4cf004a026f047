/-
  CODE: the document's Words (printed by gen/codeWords.py).
-/
import Derived.Test.YtnehiooioodkfaaDoorPB
import Derived.Deep.CutBlock
import Derived.Deep.CutRange
set_option linter.unusedVariables false
set_option linter.unusedSimpArgs false
namespace Go.Proofs.YtnehiooioodkfaaDoor
open Go Go.RowKit
namespace CR
open CD
abbrev Tk := Nat × List UInt8
def cw (t : Tk) : List Value := [.int .i64 (t.1 : Int), .string ⟨t.2.toArray⟩]
def cws (l : List Tk) : List Value := l.flatMap cw
theorem cws_len (l : List Tk) : (cws l).length = l.length * 2 := by
  induction l with
  | nil => rfl
  | cons t r ih => show (cw t ++ cws r).length = _; rw [List.length_append, ih, List.length_cons]; simp [cw]; omega
theorem cws_app (a b : List Tk) : cws (a ++ b) = cws a ++ cws b := by simp [cws]
theorem cws_at (l : List Tk) (k : Nat) (t : Tk) (h : l[k]? = some t) : (cws l)[k * 2]? = some (.int .i64 (t.1 : Int)) ∧ (cws l)[k * 2 + 1]? = some (.string ⟨t.2.toArray⟩) := by
  induction l generalizing k with
  | nil => simp at h
  | cons x r ih =>
    show (cw x ++ cws r)[k * 2]? = _ ∧ (cw x ++ cws r)[k * 2 + 1]? = _
    cases k with
    | zero =>
      simp only [List.getElem?_cons_zero, Option.some.injEq] at h
      subst h
      exact ⟨rfl, rfl⟩
    | succ k =>
      rw [List.getElem?_cons_succ] at h
      obtain ⟨h1, h2⟩ := ih k h
      have hl : (cw x).length = 2 := rfl
      rw [List.getElem?_append_right (by rw [hl]; omega), List.getElem?_append_right (by rw [hl]; omega), hl, show (k + 1) * 2 - 2 = k * 2 by omega, show (k + 1) * 2 + 1 - 2 = k * 2 + 1 by omega]
      exact ⟨h1, h2⟩
theorem cw_one (t : Tk) : ∀ u ∈ cw t, u.oneCell' = true := by
  intro u hu
  simp only [cw, List.mem_cons, List.not_mem_nil, or_false] at hu
  rcases hu with rfl | rfl <;> rfl
theorem infoW : (Tryd.prog.info? 96).map (fun i => (i.zero, i.size, i.bytes)) = some (some (.agg #[.int .i64 0, .string ⟨#[]⟩]), 2, 24) := by kernel_rfl
/-- The words from a place on. -/
def tkW (s : ByteArray) (i : Nat) (cur : List UInt8) : List Tk := tokG i cur (s.data.toList.drop i)
theorem tk_end {s : ByteArray} {i : Nat} (h : s.size ≤ i) : tkW s i [] = [] := by
  unfold tkW
  rw [List.drop_eq_nil_of_le (by simpa using h)]
  rfl
theorem tk_next {s : ByteArray} {i : Nat} (hi : i ≤ s.size) (hb : i < s.size → isB s i = true) : tkW s i [] = tkW s (i + 1) [] := by
  by_cases h : i < s.size
  · unfold tkW
    rw [drop_at s i h, tok_blank i (blk_of_isB h (hb h))]
  · rw [tk_end (by omega), tk_end (by omega)]
theorem tk_done {s : ByteArray} {i : Nat} {cur : List UInt8} (h : i < s.size → isB s i = true) (h0 : cur ≠ []) : tkW s i cur = (i - cur.length, cur) :: tkW s i [] := by
  unfold tkW
  refine tok_done i h0 fun c t e => ?_
  have hi : i < s.size := by
    by_cases hi : i < s.size
    · exact hi
    · rw [List.drop_eq_nil_of_le (by simp; omega)] at e; cases e
  rw [drop_at s i hi] at e
  injection e with e1 e2
  subst e1
  exact blk_of_isB hi (h hi)
theorem tk_word {s : ByteArray} {i : Nat} {cur : List UInt8} (h : i < s.size) (hb : isW s i = true) : tkW s i cur = tkW s (i + 1) (cur ++ [s[i]]) := by
  unfold tkW
  rw [drop_at s i h, tokG, if_neg (by rw [blk_of_isW h hb]; decide)]
theorem baeta (s : ByteArray) : (⟨s.data.toList.toArray⟩ : ByteArray) = s := by cases s; simp
theorem ext_list (s : ByteArray) (a b : Nat) : (s.extract a b).data.toList = (s.data.toList.drop a).take (b - a) := by
  simp [List.extract_eq_take_drop]
theorem ext_snoc {s : ByteArray} {a i : Nat} (ha : a ≤ i) (h : i < s.size) : (s.extract a i).data.toList ++ [s[i]] = (s.extract a (i + 1)).data.toList := by
  rw [ext_list, ext_list, show i + 1 - a = (i - a) + 1 by omega, List.take_add_one]
  congr 1
  rw [List.getElem?_drop, show a + (i - a) = i by omega]
  have : s.data.toList[i]? = some s[i] := by
    rw [List.getElem?_eq_getElem (by simpa using h)]
    rfl
  rw [this]
  rfl
def FrR (src : ByteArray) (i : Nat) (f : Int) (cur : List UInt8) : Prop :=
  (f = -1 ∧ cur = []) ∨ (∃ fr : Nat, f = (fr : Int) ∧ fr < i ∧ i ≤ src.size ∧ cur = (src.extract fr i).data.toList)
def woR (src : ByteArray) (w : World) (gn : Nat) (ov fv iv : Value) (wr : World) : Prop :=
  ∃ (i : Nat) (f : Int) (cur : List UInt8) (L : List Tk) (OW : Ow), gn = src.size + 1 - i ∧ i ≤ src.size + 1 ∧ fv = .int .i64 f ∧ iv = .int .i64 (i : Int) ∧ FrR src i f cur ∧ L.length ≤ i ∧
    L ++ tkW src i cur = tkW src 0 [] ∧ Row wr OW [1, 1] 96 2 ov L.length (cws L) ∧ Turn [1] w ow0 wr OW
set_option maxRecDepth 100000 in
set_option maxHeartbeats 4000000 in
theorem rwords (w : World) (src : ByteArray) (hs : src.size ≤ 100000) : Calls Tryd.prog 50 #[.string src] w fun e w' => ∃ v, e = .returned v ∧ Reads w' v (tkW src 0 []).length (cws (tkW src 0 [])) ∧ Below w.heap.size w w' := by
  go_enter Tryd.func50, Tryd.ntmps50
  go_wp2
  go_loopg [3, 4, 5] (src.size + 1) (fun gn ov fv iv wr => woR src w gn ov fv iv wr)
  case atStart => exact ⟨0, -1, [], [], ow0, rfl, by omega, rfl, rfl, .inl ⟨rfl, rfl⟩, Nat.le_refl _, rfl, Row.nil _ _ _ _ _, Turn.refl _ _ _⟩
  case round =>
    obtain ⟨i, f, cur, L, OW, hgk, hi, rfl, rfl, hfr, hLi, hL, hrow, t⟩ := hrel
    have Hgk := Lib.hid hgk
    have HFR := Lib.hid hfr
    have HL := Lib.hid hL
    have HROW := Lib.hid hrow
    have HT := Lib.hid t
    obtain ⟨A, c, rfl, -⟩ := hrow.slice
    clear hgk hfr hL hrow t
    by_cases hle : i ≤ src.size
    · have j0 : (i : Int) ≤ (src.size : Int) := by omega
      have hwi : IntKind.i64.wrap ((i : Int) + 1) = (i : Int) + 1 := by rw [IntKind.wrap_i64]; omega
      obtain ⟨bl, hbl0⟩ : ∃ bl : Bool, (i = src.size ∧ bl = true ∨ i < src.size ∧ bl = isB src i) := by
        by_cases e : i = src.size
        · exact ⟨true, .inl ⟨e, rfl⟩⟩
        · exact ⟨isB src i, .inr ⟨by omega, rfl⟩⟩
      go_upto_region 6 with fail
      go_cut [6] from 13 to 46 (fun b wx => b = .bool bl ∧ wx = wr)
      case first =>
        rcases hbl0 with ⟨e, rfl⟩ | ⟨hlt, hbe⟩
        · subst e
          have e1 : ((src.size : Int) == (src.size : Int)) = true := beq_self_eq_true _
          go_wp2
          go_meet
          exact ⟨rfl, rfl⟩
        · have e1 : ((i : Int) == (src.size : Int)) = false := beq_eq_false_iff_ne.2 (by omega)
          have i0 : (i : Int) < (src.size : Int) := by omega
          have hbe' : bl = blankC (src[i].toNat : Int) := by rw [hbe, isB_at hlt]
          clear hbe
          by_cases c9' : src[i].toNat = 9
          · have c9 : ((src[i].toNat : Int) == 9) = true := beq_iff_eq.2 (by omega)
            have hbl : blankC (src[i].toNat : Int) = true := by unfold blankC; rw [c9]; rfl
            as_aux_lemma =>
            go_wp2
            go_meet
            exact ⟨by rw [hbe', hbl], rfl⟩
          have c9 : ((src[i].toNat : Int) == 9) = false := beq_eq_false_iff_ne.2 (by omega)
          by_cases c10' : src[i].toNat = 10
          · have c10 : ((src[i].toNat : Int) == 10) = true := beq_iff_eq.2 (by omega)
            have hbl : blankC (src[i].toNat : Int) = true := by unfold blankC; rw [c9, c10]; rfl
            as_aux_lemma =>
            go_wp2
            go_meet
            exact ⟨by rw [hbe', hbl], rfl⟩
          have c10 : ((src[i].toNat : Int) == 10) = false := beq_eq_false_iff_ne.2 (by omega)
          by_cases c13' : src[i].toNat = 13
          · have c13 : ((src[i].toNat : Int) == 13) = true := beq_iff_eq.2 (by omega)
            have hbl : blankC (src[i].toNat : Int) = true := by unfold blankC; rw [c9, c10, c13]; rfl
            as_aux_lemma =>
            go_wp2
            go_meet
            exact ⟨by rw [hbe', hbl], rfl⟩
          have c13 : ((src[i].toNat : Int) == 13) = false := beq_eq_false_iff_ne.2 (by omega)
          by_cases c32' : src[i].toNat = 32
          · have c32 : ((src[i].toNat : Int) == 32) = true := beq_iff_eq.2 (by omega)
            have hbl : blankC (src[i].toNat : Int) = true := by unfold blankC; rw [c9, c10, c13, c32]; rfl
            as_aux_lemma =>
            go_wp2
            go_meet
            exact ⟨by rw [hbe', hbl], rfl⟩
          have c32 : ((src[i].toNat : Int) == 32) = false := beq_eq_false_iff_ne.2 (by omega)
          by_cases c59' : src[i].toNat = 59
          · have c59 : ((src[i].toNat : Int) == 59) = true := beq_iff_eq.2 (by omega)
            have hbl : blankC (src[i].toNat : Int) = true := by unfold blankC; rw [c9, c10, c13, c32, c59]; rfl
            as_aux_lemma =>
            go_wp2
            go_meet
            exact ⟨by rw [hbe', hbl], rfl⟩
          have c59 : ((src[i].toNat : Int) == 59) = false := beq_eq_false_iff_ne.2 (by omega)
          have hbl : blankC (src[i].toNat : Int) = false := by unfold blankC; rw [c9, c10, c13, c32, c59]; rfl
          as_aux_lemma =>
          go_wp2
          go_meet
          exact ⟨by rw [hbe', hbl], rfl⟩
      case rest =>
        obtain ⟨hb6, hwc⟩ := hcut
        subst hb6
        subst wc
        have hfr := HFR.out
        clear HFR
        cases bl with
        | true =>
          have hblk : i < src.size → isB src i = true := fun h => by
            rcases hbl0 with ⟨e, -⟩ | ⟨-, e⟩
            · omega
            · exact e.symm
          rcases hfr with ⟨rfl, rfl⟩ | ⟨fr, rfl, hfi, his, rfl⟩
          · have hnx : L ++ tkW src (i + 1) [] = tkW src 0 [] := by rw [← tk_next hle hblk]; exact HL.out
            have HNX := Lib.hid hnx
            clear hnx hblk hbl0
            go_wp2
            go_roundg (src.size + 1 - (i + 1))
            case measure => have := Hgk.out; omega
            case rel => exact ⟨i + 1, -1, [], L, OW, rfl, by omega, rfl, by go_num, .inl ⟨rfl, rfl⟩, by omega, HNX.out, HROW.out, HT.out⟩
          · have f0 : (0 : Int) ≤ (fr : Int) := by omega
            have f1 : (fr : Int) ≤ (i : Int) := by omega
            have hz : (src.extract fr i).data.toList.length = i - fr := by simp; omega
            have hne : (src.extract fr i).data.toList ≠ [] := fun e => by rw [e] at hz; simp at hz; omega
            have hnx : (L ++ [(fr, (src.extract fr i).data.toList)]) ++ tkW src (i + 1) [] = tkW src 0 [] := by
              rw [← tk_next hle hblk, ← HL.out, tk_done hblk hne, hz, show i - (i - fr) = fr by omega, List.append_assoc]
              rfl
            have HNX := Lib.hid hnx
            have ebr := baeta (src.extract fr i)
            have hcw : cw (fr, (src.extract fr i).data.toList) = [.int .i64 (fr : Int), .string (src.extract fr i)] := by unfold cw; rw [ebr]
            have hr2 := Row.alloc_ HROW.out (.cells #[.int .i64 (fr : Int), .string (src.extract fr i)] 96)
            have T2 := HT.out.alloc_ (.cells #[.int .i64 (fr : Int), .string (src.extract fr i)] 96)
            have hsrc := (Reads.new wr [.int .i64 (fr : Int), .string (src.extract fr i)] 96 1 1 (Nat.le_refl _)).src Tryd.underlying92 (sz := 2) rfl (by rw [← hcw]; exact cw_one _)
            clear hnx hblk hbl0 hz hne
            go_wp2_with (at_builtin; refine wpList_append_row rfl (.tmp 52) (.tmp 59) 92 92 rfl 96 _ 2 24 Tryd.underlying92 infoW rfl rfl hr2 rfl hsrc (by unfold maxLen; omega) (by omega) ?_)
            intro v' w' ow' hrow' ht'
            have hrw : Row w' ow' [1, 1] 96 2 v' (L ++ [(fr, (src.extract fr i).data.toList)]).length (cws (L ++ [(fr, (src.extract fr i).data.toList)])) := by
              rw [List.length_append, cws_app, show cws [(fr, (src.extract fr i).data.toList)] = cw (fr, (src.extract fr i).data.toList) by simp [cws], hcw]
              exact hrow'
            have HRW := Lib.hid hrw
            have HT2 := Lib.hid (T2.trans (ht'.up (by simp)))
            clear hr2 T2 hsrc hrow' ht' hrw HROW HT ebr hcw
            go_wp2
            go_roundg (src.size + 1 - (i + 1))
            case measure => have := Hgk.out; omega
            case rel => exact ⟨i + 1, -1, [], _, ow', rfl, by omega, rfl, by go_num, .inl ⟨rfl, rfl⟩, by rw [List.length_append, List.length_singleton]; omega, HNX.out, HRW.out, HT2.out⟩
        | false =>
          obtain ⟨hlt, hnb⟩ : i < src.size ∧ isB src i = false := by
            rcases hbl0 with ⟨-, e⟩ | ⟨h, e⟩
            · cases e
            · exact ⟨h, e.symm⟩
          have hiw := isW_of_isB hlt hnb
          have hre := tk_word (cur := cur) hlt hiw
          rcases hfr with ⟨rfl, rfl⟩ | ⟨fr, rfl, hfi, his, rfl⟩
          · have hcu : [] ++ [src[i]] = (src.extract i (i + 1)).data.toList := by
              rw [← ext_snoc (Nat.le_refl i) hlt, extract_nil src i i rfl]
            rw [hcu] at hre
            have hnx : L ++ tkW src (i + 1) (src.extract i (i + 1)).data.toList = tkW src 0 [] := by rw [← hre]; exact HL.out
            have HNX := Lib.hid hnx
            clear hnx hre hcu hiw hnb hbl0
            go_wp2
            go_roundg (src.size + 1 - (i + 1))
            case measure => have := Hgk.out; omega
            case rel => exact ⟨i + 1, (i : Int), _, L, OW, rfl, by omega, rfl, by go_num, .inr ⟨i, rfl, by omega, hlt, rfl⟩, by omega, HNX.out, HROW.out, HT.out⟩
          · rw [ext_snoc (by omega) hlt] at hre
            have hnx : L ++ tkW src (i + 1) (src.extract fr (i + 1)).data.toList = tkW src 0 [] := by rw [← hre]; exact HL.out
            have f0 : (0 : Int) ≤ (fr : Int) := by omega
            have f2 : ¬ (fr : Int) < 0 := by omega
            have HNX := Lib.hid hnx
            clear hnx hre hiw hnb hbl0
            go_wp2
            go_roundg (src.size + 1 - (i + 1))
            case measure => have := Hgk.out; omega
            case rel => exact ⟨i + 1, (fr : Int), _, L, OW, rfl, by omega, rfl, by go_num, .inr ⟨fr, rfl, by omega, hlt, rfl⟩, by omega, HNX.out, HROW.out, HT.out⟩
    · obtain rfl : i = src.size + 1 := by omega
      have j0 : ¬ ((src.size + 1 : Nat) : Int) ≤ (src.size : Int) := by omega
      have j0' : ¬ ((src.size : Int) + 1) ≤ (src.size : Int) := by omega
      have hcur : cur = [] := by
        rcases HFR.out with ⟨-, h⟩ | ⟨fr, -, -, h, -⟩
        · exact h
        · omega
      subst hcur
      have hL := HL.out
      rw [tk_end (by omega), List.append_nil] at hL
      have fin := (HT.out.new_ ow0 [1]).below
      have hrd := Row.reads HROW.out
      rw [hL] at hrd
      have HRD := Lib.hid hrd
      have hLn : L.length = (tkW src 0 []).length := by rw [hL]
      clear HROW HT HL hrd HFR Hgk
      as_aux_lemma =>
      go_wp2
      go_ret
      exact ⟨_, rfl, by first | exact HRD.out | (have h := HRD.out; rw [hLn]; exact h), fin⟩
end CR
end Go.Proofs.YtnehiooioodkfaaDoor
