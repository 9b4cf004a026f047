/-
  CODE: Parse.
-/
import Derived.Test.YtnehiooioodkfaaDoorKA1
import Derived.Test.YtnehiooioodkfaaDoorKA2
import Derived.Test.YtnehiooioodkfaaDoorKA3
import Derived.Test.YtnehiooioodkfaaDoorKA4
import Derived.Test.YtnehiooioodkfaaDoorK8
set_option linter.unusedVariables false
set_option linter.unusedSimpArgs false
namespace Go.Proofs.YtnehiooioodkfaaDoor
open Go Go.RowKit
namespace CD
theorem one (w : World) (ow : Ow) (g : Nat) (s : ByteArray) (k0 : Nat) (vs : Value) (opn : Nat) (ops : List Op4) (hs : s.size ≤ 1000000) (h0 : k0 ≤ s.size) (hR : RB w ow [1, 0] g s k0 vs opn) (hQ : Row w ow [1, 1] 32 4 vs ops.length (EOq.css ops)) (hV : VO w ow) (hn : ops.length ≤ 1000000) (ho : opn ≤ 1000000)
    (kind : Int) (hk : 1 ≤ kind ∧ kind ≤ 11) (h11 : kind = 11 → 1 ≤ opn) :
    Calls Tryd.prog 40 #[.pointer (some ⟨g, 0, none⟩), .int .i64 kind] w (OneP w ow g s k0 opn ops kind) := by
  have c : kind = 1 ∨ kind = 2 ∨ kind = 3 ∨ kind = 4 ∨ kind = 5 ∨ kind = 6 ∨ kind = 7 ∨ kind = 8 ∨ kind = 9 ∨ kind = 10 ∨ kind = 11 := by omega
  rcases c with rfl | rfl | rfl | rfl | rfl | rfl | rfl | rfl | rfl | rfl | rfl
  · exact one_lock w ow g s k0 vs opn ops hs h0 hR hQ hV hn ho
  · exact one_res w ow g s k0 vs opn ops hs h0 hR hQ hV hn ho 2 (by decide) (by decide) (by decide) (by decide)
  · exact one_val w ow g s k0 vs opn ops hs h0 hR hQ hV hn ho 3 (by decide) (by decide) (by decide) (by decide) (by decide)
  · exact one_none w ow g s k0 vs opn ops hs h0 hR hQ hV hn ho 4 (by decide) (by decide) (by decide) (by decide)
  · exact one_work w ow g s k0 vs opn ops hs h0 hR hQ hV hn ho 5 (by decide) (by decide) (by decide) (by decide)
  · exact one_res w ow g s k0 vs opn ops hs h0 hR hQ hV hn ho 6 (by decide) (by decide) (by decide) (by decide)
  · exact one_res w ow g s k0 vs opn ops hs h0 hR hQ hV hn ho 7 (by decide) (by decide) (by decide) (by decide)
  · exact one_none w ow g s k0 vs opn ops hs h0 hR hQ hV hn ho 8 (by decide) (by decide) (by decide) (by decide)
  · exact one_none w ow g s k0 vs opn ops hs h0 hR hQ hV hn ho 9 (by decide) (by decide) (by decide) (by decide)
  · exact one_rep w ow g s k0 vs opn ops hs h0 hR hQ hV hn ho
  · exact one_end w ow g s k0 vs opn ops hs h0 hR hQ hV hn ho (h11 rfl)
theorem next_le (s : ByteArray) (p : Nat) (h : p ≤ s.size) : p ≤ past s (skip s p) ∧ past s (skip s p) ≤ s.size := by
  have h1 := skip_le s p h
  have h2 := past_le s (skip s p) h1.2
  omega
theorem fieldsG_le (s : ByteArray) : ∀ (ks : List Nat) (o : Op4) (p : Nat) (x : Op4 × Nat), p ≤ s.size → fieldsG s ks o p = .ok x → p ≤ x.2 ∧ x.2 ≤ s.size
  | [], o, p, x, hp, h => by simp only [fieldsG, Except.ok.injEq] at h; subst h; exact ⟨Nat.le_refl _, hp⟩
  | k :: r, o, p, x, hp, h => by
    simp only [fieldsG] at h
    split at h
    · cases h
    · have h1 := next_le s p hp
      have := fieldsG_le s r _ _ x h1.2 h
      omega
theorem oneG_le (s : ByteArray) (kind : Int) (opn p : Nat) (x : Op4 × Nat × Nat) (hp : p ≤ s.size) (h : oneG s kind opn p = .ok x) : p ≤ x.2.2 ∧ x.2.2 ≤ s.size ∧ x.2.1 ≤ opn + 1 := by
  unfold oneG at h
  split at h
  · cases h
  · rename_i o p' hf
    have h1 := fieldsG_le s _ _ _ _ hp hf
    simp only at h1
    have h2 := next_le s p' h1.2
    split at h
    · split at h
      · cases h
      · split at h
        · simp only [Except.ok.injEq] at h; subst h; exact ⟨by simp only; omega, h2.2, Nat.le_refl _⟩
        · cases h
    · split at h
      · simp only [Except.ok.injEq] at h; subst h; exact ⟨h1.1, h1.2, by simp only; omega⟩
      · simp only [Except.ok.injEq] at h; subst h; exact ⟨h1.1, h1.2, by simp only; omega⟩
theorem kindF_range (s : ByteArray) : ∀ (f k : Nat), kindF s f k = 0 ∨ ((k : Int) ≤ kindF s f k ∧ kindF s f k < (k + f : Int))
  | 0, k => .inl rfl
  | f + 1, k => by
    unfold kindF
    split
    · right; omega
    · rcases kindF_range s f (k + 1) with h | h
      · exact .inl h
      · right; omega
theorem kindW_range (s : ByteArray) : kindW s = 0 ∨ (1 ≤ kindW s ∧ kindW s ≤ 11) := by
  rcases kindF_range s 11 1 with h | h
  · exact .inl h
  · right; unfold kindW; omega
theorem begins_ok {kind : Int} {nops opn : Nat} (h : beginsG kind nops opn = 0) : nops ≠ 256 ∧ kind ≠ 0 ∧ (kind = 11 → opn ≠ 0) ∧ (kind = 10 → opn ≠ 4) := by
  unfold beginsG at h
  split at h
  · cases h
  · split at h
    · cases h
    · rename_i h1 h2
      split at h
      · cases h
      · rename_i h3
        exact ⟨h1, fun e => h2 (.inl e), fun e e2 => h2 (.inr ⟨e, e2⟩), fun e e2 => h3 ⟨e, e2⟩⟩
/-- What Parse leaves. -/
def ParsedP (w : World) (s : ByteArray) (e : Ending) (w' : World) : Prop :=
  ∃ (OW : Ow) (v : Value), e = .returned (.tuple #[v, .int .i64 (parseB s).2.1, .int .i64 (parseB s).2.2]) ∧ Row w' OW [1, 1] 32 4 v (parseB s).1.length (EOq.css (parseB s).1) ∧ Turn [1] w ow0 w' OW
/-- What the loop keeps. -/
def prR (w : World) (g : Nat) (s : ByteArray) (R : List Op4 × Int × Int) (gn : Nat) (wr : World) : Prop :=
  ∃ (f p opn : Nat) (ops : List Op4) (OW : Ow) (vs : Value), gn = f + 1 ∧ parseF s (f + 1) p ops opn = R ∧ s.size < f + 1 + p ∧ p ≤ s.size ∧ ops.length ≤ 256 ∧ opn ≤ ops.length ∧
    RB wr OW [1, 0] g s p vs opn ∧ Row wr OW [1, 1] 32 4 vs ops.length (EOq.css ops) ∧ VO wr OW ∧ Turn [1] w ow0 wr OW
theorem row_nil {w : World} {OW : Ow} (x : List Op4) (h : x = []) : Row w OW [1, 1] 32 4 (.slice none 0 0) x.length (EOq.css x) := by subst h; exact Row.nil _ _ _ _ _
set_option maxRecDepth 100000 in
set_option maxHeartbeats 4000000 in
theorem parse (w : World) (s : ByteArray) (hs : s.size ≤ 1000000) (hV : VL w) : Calls Tryd.prog 15 #[.string s] w (ParsedP w s) := by
  unfold ParsedP
  obtain ⟨R, hR⟩ : ∃ R, parseB s = R := ⟨_, rfl⟩
  rw [hR]
  by_cases hlong : 4096 < s.size
  · have hc : R = ([], 0, 5) := by rw [← hR]; unfold parseB; rw [if_pos hlong]
    subst hc
    have i0 : (4096 : Int) < (s.size : Int) := by omega
    clear hR
    as_aux_lemma =>
    go_enter Tryd.func15, Tryd.ntmps15
    go_wp2
    refine bodyPost_ret (v := .tuple #[.slice none 0 0, .int .i64 0, .int .i64 5]) (by simp [results, Tryd.results15, go_sem]) rfl ?_
    exact ⟨ow0, _, rfl, row_nil [] rfl, Turn.refl _ _ _⟩
  have i0 : ¬ (4096 : Int) < (s.size : Int) := by omega
  have hP : parseF s (s.size + 1) 0 [] 0 = R := by rw [← hR]; unfold parseB; rw [if_neg hlong]
  have HP := Lib.hid hP
  clear hR hP
  have hV0 := VO.start hV
  go_enter Tryd.func15, Tryd.ntmps15
  go_wp2
  obtain ⟨ow1, hB, nn, hsz⟩ := SH.add_cells w ow0 [1, 0, 0] [.string s, .int .i64 0, .slice none 0 0, .int .i64 0] 69
  generalize w.alloc (.cells #[.string s, .int .i64 0, .slice none 0 0, .int .i64 0] 69) = w1 at *
  generalize w.heap.size = g at *
  have hR1 : RB w1 ow1 [1, 0] g s 0 (.slice none 0 0) 0 := hB
  have tt := nn.turn [1]
  have hV1 := hV0.turn tt (by simp)
  clear hB nn hV0 hsz hV
  go_loopg [] (s.size + 1) (fun gn wr => prR w g s R gn wr)
  case atStart => exact ⟨s.size, 0, 0, [], ow1, _, rfl, HP.out, by omega, Nat.zero_le _, by simp, Nat.le_refl _, hR1, Row.nil _ _ _ _ _, hV1, tt⟩
  case round =>
    clear hR1 tt hV1 HP
    obtain ⟨f, p, opn, ops, OW, vs, hgn, hpf, hfu, hp, hn, ho, hR, hQ, hV, tt⟩ := hrel
    have hwd := word wr OW [1, 0] g s p vs opn hs hp hR
    have Hgn := Lib.hid hgn
    clear hgn
    have hnx := next_le s p hp
    have hPF := hpf
    rw [parseF] at hPF
    have HPF := Lib.hid hPF
    clear hpf hPF
    have HQ := Lib.hid hQ
    have HT := Lib.hid tt
    have HV := Lib.hid hV
    clear hQ tt hV hR
    go_wp2_with fail
    refine hwd.mono ?_
    rintro e w2 ⟨OW2, rfl, hR, t2⟩
    clear hwd
    have hQ := HQ.out.keep t2 (by simp)
    have tt := HT.out.trans (t2.up (by simp))
    have hV := HV.out.turn (t2.up (p := [1]) (by simp)) (by simp)
    clear HQ HT HV t2
    change RB w2 OW2 [1, 0] g s (past s (skip s p)) vs opn at hR
    rw [show s.extract (skip s p) (past s (skip s p)) = wordB s p from rfl]
    by_cases hpe : past s (skip s p) = skip s p
    · have hnil := wordB_nil hpe
      rw [hnil]
      have hp2 := HPF.out
      rw [if_pos hpe] at hp2
      have c2 := Cells.get hR 2 rfl
      have c3 := Cells.get hR 3 rfl
      simp only [Nat.zero_add] at c2 c3
      have HQ := Lib.hid hQ
      have HT := Lib.hid tt
      clear hQ tt hV hR HPF
      by_cases ho0 : 0 < opn
      · rw [if_pos ho0] at hp2
        subst hp2
        have o0 : (0 : Int) < (opn : Int) := by omega
        as_aux_lemma =>
        go_wp2
        refine bodyPost_ret (v := .tuple #[.slice none 0 0, .int .i64 (s.size : Int), .int .i64 31]) (by simp [results, Tryd.results15, go_sem]) rfl ?_
        exact ⟨OW2, _, rfl, row_nil [] rfl, HT.out⟩
      · rw [if_neg ho0] at hp2
        subst hp2
        obtain rfl : opn = 0 := by omega
        obtain ⟨A, cap, rfl, -⟩ := HQ.out.slice
        as_aux_lemma =>
        go_wp2
        refine bodyPost_ret (v := .tuple #[.slice A ops.length cap, .int .i64 0, .int .i64 0]) (by simp [results, Tryd.results15, go_sem]) rfl ?_
        exact ⟨OW2, _, rfl, HQ.out, HT.out⟩
    · have hne := wordB_ne hp hpe
      have hp2 := HPF.out
      rw [if_neg hpe] at hp2
      have Hp2 := Lib.hid hp2
      clear hp2 HPF
      have hb1 : ((wordB s p).toList == []) = false := by have := str_ne hne; rwa [nil_toList] at this
      have hb1' : ¬ (wordB s p).toList = [] := by simpa using hb1
      clear hne
      have hki := kindOf w2 (wordB s p)
      have hkr := kindW_range (wordB s p)
      have hkk : kindW (s.extract (skip s p) (past s (skip s p))) = kindW (wordB s p) := rfl
      rw [hkk] at Hp2
      clear hkk
      generalize wordB s p = wd at *
      have HR := Lib.hid hR
      have HQ := Lib.hid hQ
      have HT := Lib.hid tt
      have HV := Lib.hid hV
      clear hQ tt hV hR
      go_wp2_with fail
      refine hki.mono ?_
      rintro e w3 ⟨rfl, b3⟩
      have n3 := b3.nw OW2
      have hR := Cells.new_ HR.out n3
      have hQ := HQ.out.new_ n3
      have tt := HT.out.trans (n3.turn [1])
      have hV := HV.out.turn (n3.turn [1]) (by simp)
      clear HR HQ HT HV n3 b3 hki
      obtain ⟨A, cap, rfl, hcap⟩ := hQ.slice
      have hbg := begins w3 OW2 [1, 0] g s _ A ops.length cap opn hR (kindW wd)
      have HR := Lib.hid hR
      have HQ := Lib.hid hQ
      have HT := Lib.hid tt
      have HV := Lib.hid hV
      clear hQ tt hV hR
      go_wp2_with fail
      refine hbg.mono ?_
      rintro e w4 ⟨rfl, rfl⟩
      clear hbg
      by_cases hbz : beginsG (kindW wd) ops.length opn = 0
      · have hp2 := Hp2.out
        rw [if_pos hbz] at hp2
        obtain ⟨q1, q2, q3, -⟩ := begins_ok hbz
        rw [hbz]
        have hon := one w4 OW2 g s (past s (skip s p)) _ opn ops hs hnx.2 HR.out HQ.out HV.out (by omega) (by omega) (kindW wd) (by omega) (fun e => by have := q3 e; omega)
        clear Hp2 hbz HR HQ
        go_wp2_with fail
        refine hon.mono ?_
        rintro e w5 ⟨OW5, a, c, rfl, t5, hV5, he, hx⟩
        clear hon
        have HT5 := Lib.hid (HT.out.trans t5)
        have HV5 := Lib.hid hV5
        clear HT HV hV5 t5
        cases ho1 : oneG s (kindW wd) opn (past s (skip s p)) with
        | error er =>
          obtain ⟨rfl, rfl, hcn⟩ := he er ho1
          rw [ho1] at hp2
          simp only at hp2
          subst hp2
          have hcb : (er.2 != 0) = true := by simp [hcn]
          clear he hx ho1
          as_aux_lemma =>
          go_wp2
          refine bodyPost_ret (v := .tuple #[.slice none 0 0, .int .i64 er.1, .int .i64 er.2]) (by simp [results, Tryd.results15, go_sem]) rfl ?_
          exact ⟨OW5, _, rfl, row_nil [] rfl, HT5.out⟩
        | ok x =>
          obtain ⟨rfl, rfl, vs', hR5, hQ5⟩ := hx x ho1
          have hle := oneG_le s _ _ _ x hnx.2 ho1
          rw [ho1] at hp2
          simp only at hp2
          have h1 := skip_le s p hp
          have h2 := past_le s (skip s p) h1.2
          have HR5 := Lib.hid hR5
          have HQ5 := Lib.hid hQ5
          have Hp3 := Lib.hid hp2
          clear he hx ho1 hR5 hQ5 hp2
          go_wp2
          go_roundg f
          case measure => have := Hgn.out; omega
          case rel => exact ⟨f - 1, x.2.2, x.2.1, ops ++ [x.1], OW5, vs', by omega, by rw [show f - 1 + 1 = f by omega]; exact Hp3.out, by omega, hle.2.1, by simp; omega, by simp; omega, HR5.out, HQ5.out, HV5.out, HT5.out⟩
      · have hp2 := Hp2.out
        rw [if_neg hbz] at hp2
        have hbb : (beginsG (kindW wd) ops.length opn != 0) = true := by simp [hbz]
        subst hp2
        clear Hp2 HR HQ HV
        as_aux_lemma =>
        go_wp2
        refine bodyPost_ret (v := .tuple #[.slice none 0 0, .int .i64 (skip s p : Int), .int .i64 (beginsG (kindW wd) ops.length opn)]) (by simp [results, Tryd.results15, go_sem]) rfl ?_
        exact ⟨OW2, _, rfl, row_nil [] rfl, HT.out⟩
end CD
end Go.Proofs.YtnehiooioodkfaaDoor
