/-
  CODE: a number of an operation.
-/
import Derived.Test.YtnehiooioodkfaaDoorK5
import Derived.Test.YtnehiooioodkfaaDoorK7
import Derived.LaidEqlPtr
set_option linter.unusedVariables false
set_option linter.unusedSimpArgs false
namespace Go.Proofs.YtnehiooioodkfaaDoor
open Go Go.RowKit
namespace CD
theorem extract_nil (s : ByteArray) (a b : Nat) (h : b = a) : s.extract a b = ⟨#[]⟩ := by
  subst h
  apply ByteArray.ext
  apply Array.eq_empty_of_size_eq_zero
  show (s.extract b b).size = 0
  rw [ByteArray.size_extract]; omega
theorem extract_ne (s : ByteArray) (a b : Nat) (h : a < b) (hb : b ≤ s.size) : s.extract a b ≠ ⟨#[]⟩ := fun e => by
  have := congrArg ByteArray.size e
  rw [ByteArray.size_extract] at this
  have h0 : (⟨#[]⟩ : ByteArray).size = 0 := rfl
  omega
theorem runF_ge (p : Nat → Bool) : ∀ (f k : Nat), k ≤ runF p f k ∧ runF p f k ≤ k + f
  | 0, k => ⟨Nat.le_refl _, Nat.le_refl _⟩
  | f + 1, k => by
    unfold runF
    split
    · have := runF_ge p f (k + 1); omega
    · omega
theorem skip_le (s : ByteArray) (p : Nat) (h : p ≤ s.size) : p ≤ skip s p ∧ skip s p ≤ s.size := by
  have := runF_ge (isB s) (s.size - p) p
  unfold skip; omega
theorem past_le (s : ByteArray) (p : Nat) (h : p ≤ s.size) : p ≤ past s p ∧ past s p ≤ s.size := by
  have := runF_ge (isW s) (s.size - p) p
  unfold past; omega
theorem nil_toList : (⟨#[]⟩ : ByteArray).toList = [] := by rw [ByteArray.toList_eq]
/-- The word that stands ahead. -/
def wordB (s : ByteArray) (p : Nat) : ByteArray := s.extract (skip s p) (past s (skip s p))
theorem wordB_nil {s : ByteArray} {p : Nat} (h : past s (skip s p) = skip s p) : wordB s p = ⟨#[]⟩ := extract_nil _ _ _ h
theorem wordB_ne {s : ByteArray} {p : Nat} (hp : p ≤ s.size) (h : past s (skip s p) ≠ skip s p) : wordB s p ≠ ⟨#[]⟩ := by
  have h1 := skip_le s p hp
  have h2 := past_le s (skip s p) h1.2
  exact extract_ne s _ _ (by omega) h2.2
theorem wordB_size (s : ByteArray) (p : Nat) : (wordB s p).size ≤ s.size := by
  unfold wordB; rw [ByteArray.size_extract]; omega
theorem infoInt : ∃ j, Tryd.prog.info? 3 = some j ∧ j.size ≠ 0 := by
  have h : (Tryd.prog.info? 3).map (·.size) = some 1 := by kernel_rfl
  cases hq : Tryd.prog.info? 3 with
  | none => rw [hq] at h; cases h
  | some j => rw [hq] at h; exact ⟨j, rfl, by have : j.size = 1 := by simpa using h
                                              omega⟩
theorem ptr_eq (a : Addr) (W : World) : (binOp .eql 107 (.pointer (some a)) (.pointer (some a))).run Tryd.prog W = .ok (.bool true) W := by
  obtain ⟨j, hj, -⟩ := infoInt
  exact run_eql_ptr_same W a Tryd.underlying107 hj
theorem ptr_ne {b i j : Nat} {W : World} {ow : Ow} {p : List Nat} {vs : List Value} (hij : i ≠ j) (h : Cells W ow p b 0 vs) : (binOp .eql 107 (.pointer (some ⟨b, i, none⟩)) (.pointer (some ⟨b, j, none⟩))).run Tryd.prog W = .ok (.bool false) W := by
  obtain ⟨t, ht, hs⟩ := infoInt
  obtain ⟨c, e, hb, -⟩ := h
  exact run_eql_ptr_other W Tryd.underlying107 ht hs (by simp [hij]) hb hb
/-- What field leaves. -/
def FieldP (w : World) (ow : Ow) (g : Nat) (s : ByteArray) (k0 : Nat) (vs : Value) (opn : Nat) (bo : Nat) (o : Op4) (k : Nat) (e : Ending) (w' : World) : Prop :=
  ∃ (OW : Ow) (o' : Op4) (a c : Int), e = .returned (.tuple #[.int .i64 a, .int .i64 c]) ∧ RB w' OW [1, 0] g s (past s (skip s k0)) vs opn ∧ Cells w' OW [1, 0, 2] bo 0 (EOq.cs o') ∧ Turn [1, 0] w ow w' OW ∧ VO w' OW ∧
    (∀ er, fieldG s o k k0 = .error er → a = er.1 ∧ c = er.2 ∧ c ≠ 0) ∧ (∀ x, fieldG s o k k0 = .ok x → a = 0 ∧ c = 0 ∧ o' = x)

set_option maxRecDepth 100000 in
set_option maxHeartbeats 4000000 in
theorem field1 (w : World) (ow : Ow) (g : Nat) (s : ByteArray) (k0 : Nat) (vs : Value) (opn : Nat) (bo : Nat) (o : Op4) (hs : s.size ≤ 1000000) (h0 : k0 ≤ s.size) (hR : RB w ow [1, 0] g s k0 vs opn) (hO : Cells w ow [1, 0, 2] bo 0 (EOq.cs o)) (hV : VO w ow) :
    Calls Tryd.prog 61 #[.pointer (some ⟨g, 0, none⟩), .pointer (some ⟨bo, 0, none⟩), .pointer (some ⟨bo, 1, none⟩)] w (FieldP w ow g s k0 vs opn bo o 1) := by
  have hwd := word w ow [1, 0] g s k0 vs opn hs h0 hR
  have hfi := fields
  have Hfi := Lib.hid hfi
  have hnum := fun W (hW : VL W) => number W (wordB s k0) (Nat.le_trans (wordB_size s k0) hs) hW
  have Hnum := Lib.hid hnum
  clear hfi hnum
  obtain ⟨kind, res, nn, v⟩ := o
  go_enter Tryd.func61, Tryd.ntmps61
  go_wp2_with fail
  refine hwd.mono ?_
  rintro e w1 ⟨OW1, rfl, hR1, t1⟩
  clear hwd hR
  have tt : Turn [1, 0] w ow w1 OW1 := t1.up (by simp)
  replace hO := hO.keep t1 (by simp)
  replace hV := hV.turn tt (by simp)
  clear t1
  change RB w1 OW1 [1, 0] g s (past s (skip s k0)) vs opn at hR1
  by_cases hp : past s (skip s k0) = skip s k0
  · have hnil := wordB_nil hp
    have hg : fieldG s ⟨kind, res, nn, v⟩ 1 k0 = .error ((s.size : Int), 31) := by unfold fieldG; rw [if_pos hp]
    have HG := Lib.hid hg
    have c0 := Cells.get hR1 0 rfl
    simp only [Nat.zero_add] at c0
    have HR := Lib.hid hR1
    have HO := Lib.hid hO
    have HT := Lib.hid tt
    have HV3 := Lib.hid hV
    clear hg hR1 hO tt hV Hnum
    change wordB s k0 = _ at hnil
    as_aux_lemma =>
    rw [show s.extract (skip s k0) (past s (skip s k0)) = ⟨#[]⟩ from hnil]
    go_wp2
    go_ret2
    exact ⟨OW1, _, _, _, rfl, HR.out, HO.out, HT.out, HV3.out, fun er he => by rw [HG.out] at he; injection he with he; subst he; exact ⟨rfl, rfl, by decide⟩, fun x hx => by rw [HG.out] at hx; cases hx⟩
  · have HP := Lib.hid hp
    have hne := wordB_ne h0 hp
    have hb1 := str_ne hne
    have hb2 : ((wordB s k0).toList == []) = false := by rwa [nil_toList] at hb1
    have hb3 : ¬ (wordB s k0).toList = [] := by simpa using hb2
    clear hp hne
    rw [show s.extract (skip s k0) (past s (skip s k0)) = wordB s k0 from rfl]
    generalize hwb : wordB s k0 = wd at *
    go_wp2_with fail
    refine (Hnum.out w1 hV.1).mono ?_
    rintro e w2 ⟨⟨n, rfl, hnn⟩, b2⟩
    have n2 := b2.nw OW1
    replace hR1 := Cells.new_ hR1 n2
    replace hO := hO.new_ n2
    replace tt := tt.trans (n2.turn [1, 0])
    replace hV := hV.turn (n2.turn [1, 0]) (by simp)
    clear n2 b2
    have tk := hO.turn 1 (.int .i64 n) (by simp [EOq.cs])
    have hR := Cells.keep hR1 tk (by simp)
    replace tt := tt.trans (tk.up (by simp))
    replace hV := hV.turn tk (by simp)
    have o0 := hO.get 0 rfl
    have o1 := hO.get 1 rfl
    have o2 := hO.get 2 rfl
    have o3 := hO.get 3 rfl
    have fo := hO.free 1
    have lo := hO.lt
    replace hO := hO.set 1 (.int .i64 n) (by simp [EOq.cs])
    simp only [EOq.cs, Nat.zero_add, List.set_cons_zero, List.set_cons_succ] at o0 o1 o2 o3 hO tk hR tt hV
    have q0 := hO.get 0 rfl
    have q1 := hO.get 1 rfl
    have q2 := hO.get 2 rfl
    have q3 := hO.get 3 rfl
    simp only [Nat.zero_add] at q0 q1 q2 q3
    clear hR1 tk
    obtain ⟨OW2, hOW2⟩ : ∃ OW2, OW2 = OW1 := ⟨_, rfl⟩
    rw [← hOW2] at hR hO tt hV
    clear hOW2
    have HR0 := Lib.hid hR
    have HO0 := Lib.hid hO
    have HT0 := Lib.hid tt
    have HV0 := Lib.hid hV
    clear hR hO tt hV
    cases hnb : numB wd with
    | none =>
      have hg : fieldG s ⟨kind, res, nn, v⟩ 1 k0 = .error ((skip s k0 : Int), 30) := by
        unfold fieldG
        rw [if_neg HP.out, show numB (s.extract (skip s k0) (past s (skip s k0))) = none from by rw [show s.extract (skip s k0) (past s (skip s k0)) = wd from hwb]; exact hnb]
      have HG := Lib.hid hg
      clear hg hnn hwb
      as_aux_lemma =>
      go_wp2
      go_ret2
      exact ⟨OW2, ⟨kind, n, nn, v⟩, _, _, rfl, HR0.out, HO0.out, HT0.out, HV0.out, fun er he => by rw [HG.out] at he; injection he with he; subst he; exact ⟨rfl, rfl, by decide⟩, fun x hx => by rw [HG.out] at hx; cases hx⟩
    | some n0 =>
      obtain rfl := hnn n0 hnb
      have hN : numB (s.extract (skip s k0) (past s (skip s k0))) = some n := by rw [show s.extract (skip s k0) (past s (skip s k0)) = wd from hwb]; exact hnb
      have HN := Lib.hid hN
      clear hN hnn hwb
      by_cases hk1 : kind = 1
      · subst hk1
        as_aux_lemma =>
        have hpe := ptr_eq ⟨bo, 1, none⟩
        go_wp2_with fail
        generalize w2.setCell ⟨bo, 1, none⟩ (.int .i64 n) = W2 at *
        obtain ⟨hR, hO, tt, hV⟩ := And.intro HR0.out (And.intro HO0.out (And.intro HT0.out HV0.out))
        clear HR0 HO0 HT0 HV0
        obtain ⟨ow3, hX, nx, hszx⟩ := SH.add_cells W2 OW2 [1, 0, 3] [.int .i64 1, .int .i64 n, .int .i64 1, .int .i64 v] 32
        have Bx := nx.below
        refine (Hfi.out (W2.alloc (.cells #[.int .i64 1, .int .i64 n, .int .i64 1, .int .i64 v] 32)) ⟨1, n, 1, v⟩).mono ?_
        rintro e w3 ⟨rfl, b3⟩
        have n3 : New W2 OW2 w3 ow3 := nx.trans (b3.nw ow3)
        replace hR := Cells.new_ hR n3
        replace hO := hO.new_ n3
        replace tt := tt.trans (n3.turn [1, 0])
        replace hV := hV.turn (n3.turn [1, 0]) (by simp)
        clear nx Bx b3 n3 hX hszx
        have HR := Lib.hid hR
        have HO := Lib.hid hO
        have HT := Lib.hid tt
        have HV3 := Lib.hid hV
        clear hR hO tt hV
        cases hf : fieldsB ⟨1, n, 1, v⟩ with
        | true =>
          have hg : fieldG s ⟨1, res, nn, v⟩ 1 k0 = .ok (setF ⟨1, res, nn, v⟩ 1 n) := by
            unfold fieldG
            rw [if_neg HP.out, HN.out]
            show (if fieldsB (fixF (setF ⟨1, res, nn, v⟩ 1 n) 1) = true then _ else _) = _
            rw [show fixF (setF ⟨1, res, nn, v⟩ 1 n) 1 = ⟨1, n, 1, v⟩ from by simp [fixF, setF], if_pos hf]
          have HG := Lib.hid hg
          clear hg
          as_aux_lemma =>
          go_wp2
          go_ret2
          exact ⟨ow3, ⟨1, n, nn, v⟩, 0, 0, rfl, HR.out, HO.out, HT.out, HV3.out, (fun er he => by rw [HG.out] at he; cases he), fun x hx => ⟨rfl, rfl, by rw [HG.out] at hx; injection hx⟩⟩
        | false =>
          have hg : fieldG s ⟨1, res, nn, v⟩ 1 k0 = .error ((skip s k0 : Int), 30) := by
            unfold fieldG
            rw [if_neg HP.out, HN.out]
            show (if fieldsB (fixF (setF ⟨1, res, nn, v⟩ 1 n) 1) = true then _ else _) = _
            rw [show fixF (setF ⟨1, res, nn, v⟩ 1 n) 1 = ⟨1, n, 1, v⟩ from by simp [fixF, setF], if_neg (by rw [hf]; simp)]
          have HG := Lib.hid hg
          clear hg
          as_aux_lemma =>
          go_wp2
          go_ret2
          exact ⟨ow3, ⟨1, n, nn, v⟩, _, _, rfl, HR.out, HO.out, HT.out, HV3.out, fun er he => by rw [HG.out] at he; injection he with he; subst he; exact ⟨rfl, rfl, by decide⟩, fun x hx => by rw [HG.out] at hx; cases hx⟩
      · have e1 : (kind == 1) = false := beq_eq_false_iff_ne.2 hk1
        as_aux_lemma =>
        go_wp2_with fail
        generalize w2.setCell ⟨bo, 1, none⟩ (.int .i64 n) = W2 at *
        obtain ⟨hR, hO, tt, hV⟩ := And.intro HR0.out (And.intro HO0.out (And.intro HT0.out HV0.out))
        clear HR0 HO0 HT0 HV0
        obtain ⟨ow3, hX, nx, hszx⟩ := SH.add_cells W2 OW2 [1, 0, 3] [.int .i64 kind, .int .i64 n, .int .i64 nn, .int .i64 v] 32
        have Bx := nx.below
        refine (Hfi.out (W2.alloc (.cells #[.int .i64 kind, .int .i64 n, .int .i64 nn, .int .i64 v] 32)) ⟨kind, n, nn, v⟩).mono ?_
        rintro e w3 ⟨rfl, b3⟩
        have n3 : New W2 OW2 w3 ow3 := nx.trans (b3.nw ow3)
        replace hR := Cells.new_ hR n3
        replace hO := hO.new_ n3
        replace tt := tt.trans (n3.turn [1, 0])
        replace hV := hV.turn (n3.turn [1, 0]) (by simp)
        clear nx Bx b3 n3 hX hszx
        have HR := Lib.hid hR
        have HO := Lib.hid hO
        have HT := Lib.hid tt
        have HV3 := Lib.hid hV
        clear hR hO tt hV
        cases hf : fieldsB ⟨kind, n, nn, v⟩ with
        | true =>
          have hg : fieldG s ⟨kind, res, nn, v⟩ 1 k0 = .ok (setF ⟨kind, res, nn, v⟩ 1 n) := by
            unfold fieldG
            rw [if_neg HP.out, HN.out]
            show (if fieldsB (fixF (setF ⟨kind, res, nn, v⟩ 1 n) 1) = true then _ else _) = _
            rw [show fixF (setF ⟨kind, res, nn, v⟩ 1 n) 1 = ⟨kind, n, nn, v⟩ from by simp [fixF, setF, hk1], if_pos hf]
          have HG := Lib.hid hg
          clear hg
          as_aux_lemma =>
          go_wp2
          go_ret2
          exact ⟨ow3, ⟨kind, n, nn, v⟩, 0, 0, rfl, HR.out, HO.out, HT.out, HV3.out, (fun er he => by rw [HG.out] at he; cases he), fun x hx => ⟨rfl, rfl, by rw [HG.out] at hx; injection hx⟩⟩
        | false =>
          have hg : fieldG s ⟨kind, res, nn, v⟩ 1 k0 = .error ((skip s k0 : Int), 30) := by
            unfold fieldG
            rw [if_neg HP.out, HN.out]
            show (if fieldsB (fixF (setF ⟨kind, res, nn, v⟩ 1 n) 1) = true then _ else _) = _
            rw [show fixF (setF ⟨kind, res, nn, v⟩ 1 n) 1 = ⟨kind, n, nn, v⟩ from by simp [fixF, setF, hk1], if_neg (by rw [hf]; simp)]
          have HG := Lib.hid hg
          clear hg
          as_aux_lemma =>
          go_wp2
          go_ret2
          exact ⟨ow3, ⟨kind, n, nn, v⟩, _, _, rfl, HR.out, HO.out, HT.out, HV3.out, fun er he => by rw [HG.out] at he; injection he with he; subst he; exact ⟨rfl, rfl, by decide⟩, fun x hx => by rw [HG.out] at hx; cases hx⟩

set_option maxRecDepth 100000 in
set_option maxHeartbeats 4000000 in
theorem field2 (w : World) (ow : Ow) (g : Nat) (s : ByteArray) (k0 : Nat) (vs : Value) (opn : Nat) (bo : Nat) (o : Op4) (hs : s.size ≤ 1000000) (h0 : k0 ≤ s.size) (hR : RB w ow [1, 0] g s k0 vs opn) (hO : Cells w ow [1, 0, 2] bo 0 (EOq.cs o)) (hV : VO w ow) :
    Calls Tryd.prog 61 #[.pointer (some ⟨g, 0, none⟩), .pointer (some ⟨bo, 0, none⟩), .pointer (some ⟨bo, 2, none⟩)] w (FieldP w ow g s k0 vs opn bo o 2) := by
  have hwd := word w ow [1, 0] g s k0 vs opn hs h0 hR
  have hfi := fields
  have Hfi := Lib.hid hfi
  have hnum := fun W (hW : VL W) => number W (wordB s k0) (Nat.le_trans (wordB_size s k0) hs) hW
  have Hnum := Lib.hid hnum
  clear hfi hnum
  obtain ⟨kind, res, nn, v⟩ := o
  go_enter Tryd.func61, Tryd.ntmps61
  go_wp2_with fail
  refine hwd.mono ?_
  rintro e w1 ⟨OW1, rfl, hR1, t1⟩
  clear hwd hR
  have tt : Turn [1, 0] w ow w1 OW1 := t1.up (by simp)
  replace hO := hO.keep t1 (by simp)
  replace hV := hV.turn tt (by simp)
  clear t1
  change RB w1 OW1 [1, 0] g s (past s (skip s k0)) vs opn at hR1
  by_cases hp : past s (skip s k0) = skip s k0
  · have hnil := wordB_nil hp
    have hg : fieldG s ⟨kind, res, nn, v⟩ 2 k0 = .error ((s.size : Int), 31) := by unfold fieldG; rw [if_pos hp]
    have HG := Lib.hid hg
    have c0 := Cells.get hR1 0 rfl
    simp only [Nat.zero_add] at c0
    have HR := Lib.hid hR1
    have HO := Lib.hid hO
    have HT := Lib.hid tt
    have HV3 := Lib.hid hV
    clear hg hR1 hO tt hV Hnum
    change wordB s k0 = _ at hnil
    as_aux_lemma =>
    rw [show s.extract (skip s k0) (past s (skip s k0)) = ⟨#[]⟩ from hnil]
    go_wp2
    go_ret2
    exact ⟨OW1, _, _, _, rfl, HR.out, HO.out, HT.out, HV3.out, fun er he => by rw [HG.out] at he; injection he with he; subst he; exact ⟨rfl, rfl, by decide⟩, fun x hx => by rw [HG.out] at hx; cases hx⟩
  · have HP := Lib.hid hp
    have hne := wordB_ne h0 hp
    have hb1 := str_ne hne
    have hb2 : ((wordB s k0).toList == []) = false := by rwa [nil_toList] at hb1
    have hb3 : ¬ (wordB s k0).toList = [] := by simpa using hb2
    clear hp hne
    rw [show s.extract (skip s k0) (past s (skip s k0)) = wordB s k0 from rfl]
    generalize hwb : wordB s k0 = wd at *
    go_wp2_with fail
    refine (Hnum.out w1 hV.1).mono ?_
    rintro e w2 ⟨⟨n, rfl, hnn⟩, b2⟩
    have n2 := b2.nw OW1
    replace hR1 := Cells.new_ hR1 n2
    replace hO := hO.new_ n2
    replace tt := tt.trans (n2.turn [1, 0])
    replace hV := hV.turn (n2.turn [1, 0]) (by simp)
    clear n2 b2
    have tk := hO.turn 2 (.int .i64 n) (by simp [EOq.cs])
    have hR := Cells.keep hR1 tk (by simp)
    replace tt := tt.trans (tk.up (by simp))
    replace hV := hV.turn tk (by simp)
    have o0 := hO.get 0 rfl
    have o1 := hO.get 1 rfl
    have o2 := hO.get 2 rfl
    have o3 := hO.get 3 rfl
    have fo := hO.free 2
    have lo := hO.lt
    replace hO := hO.set 2 (.int .i64 n) (by simp [EOq.cs])
    simp only [EOq.cs, Nat.zero_add, List.set_cons_zero, List.set_cons_succ] at o0 o1 o2 o3 hO tk hR tt hV
    have q0 := hO.get 0 rfl
    have q1 := hO.get 1 rfl
    have q2 := hO.get 2 rfl
    have q3 := hO.get 3 rfl
    simp only [Nat.zero_add] at q0 q1 q2 q3
    clear hR1 tk
    obtain ⟨OW2, hOW2⟩ : ∃ OW2, OW2 = OW1 := ⟨_, rfl⟩
    rw [← hOW2] at hR hO tt hV
    clear hOW2
    have HR0 := Lib.hid hR
    have HO0 := Lib.hid hO
    have HT0 := Lib.hid tt
    have HV0 := Lib.hid hV
    clear hR hO tt hV
    cases hnb : numB wd with
    | none =>
      have hg : fieldG s ⟨kind, res, nn, v⟩ 2 k0 = .error ((skip s k0 : Int), 30) := by
        unfold fieldG
        rw [if_neg HP.out, show numB (s.extract (skip s k0) (past s (skip s k0))) = none from by rw [show s.extract (skip s k0) (past s (skip s k0)) = wd from hwb]; exact hnb]
      have HG := Lib.hid hg
      clear hg hnn hwb
      as_aux_lemma =>
      go_wp2
      go_ret2
      exact ⟨OW2, ⟨kind, res, n, v⟩, _, _, rfl, HR0.out, HO0.out, HT0.out, HV0.out, fun er he => by rw [HG.out] at he; injection he with he; subst he; exact ⟨rfl, rfl, by decide⟩, fun x hx => by rw [HG.out] at hx; cases hx⟩
    | some n0 =>
      obtain rfl := hnn n0 hnb
      have hN : numB (s.extract (skip s k0) (past s (skip s k0))) = some n := by rw [show s.extract (skip s k0) (past s (skip s k0)) = wd from hwb]; exact hnb
      have HN := Lib.hid hN
      clear hN hnn hwb
      by_cases hk1 : kind = 1
      · subst hk1
        as_aux_lemma =>
        have hpn := ptr_ne (i := 2) (j := 1) (by decide) (HO0.out.alloc_ (.cells #[.int .i64 1, .int .i64 res, .int .i64 n, .int .i64 v] 32))
        go_wp2_with fail
        generalize w2.setCell ⟨bo, 2, none⟩ (.int .i64 n) = W2 at *
        obtain ⟨hR, hO, tt, hV⟩ := And.intro HR0.out (And.intro HO0.out (And.intro HT0.out HV0.out))
        clear HR0 HO0 HT0 HV0
        obtain ⟨ow3, hX, nx, hszx⟩ := SH.add_cells W2 OW2 [1, 0, 3] [.int .i64 1, .int .i64 res, .int .i64 n, .int .i64 v] 32
        have Bx := nx.below
        refine (Hfi.out (W2.alloc (.cells #[.int .i64 1, .int .i64 res, .int .i64 n, .int .i64 v] 32)) ⟨1, res, n, v⟩).mono ?_
        rintro e w3 ⟨rfl, b3⟩
        have n3 : New W2 OW2 w3 ow3 := nx.trans (b3.nw ow3)
        replace hR := Cells.new_ hR n3
        replace hO := hO.new_ n3
        replace tt := tt.trans (n3.turn [1, 0])
        replace hV := hV.turn (n3.turn [1, 0]) (by simp)
        clear nx Bx b3 n3 hX hszx
        have HR := Lib.hid hR
        have HO := Lib.hid hO
        have HT := Lib.hid tt
        have HV3 := Lib.hid hV
        clear hR hO tt hV
        cases hf : fieldsB ⟨1, res, n, v⟩ with
        | true =>
          have hg : fieldG s ⟨1, res, nn, v⟩ 2 k0 = .ok (setF ⟨1, res, nn, v⟩ 2 n) := by
            unfold fieldG
            rw [if_neg HP.out, HN.out]
            show (if fieldsB (fixF (setF ⟨1, res, nn, v⟩ 2 n) 2) = true then _ else _) = _
            rw [show fixF (setF ⟨1, res, nn, v⟩ 2 n) 2 = ⟨1, res, n, v⟩ from by simp [fixF, setF], if_pos hf]
          have HG := Lib.hid hg
          clear hg
          as_aux_lemma =>
          go_wp2
          go_ret2
          exact ⟨ow3, ⟨1, res, n, v⟩, 0, 0, rfl, HR.out, HO.out, HT.out, HV3.out, (fun er he => by rw [HG.out] at he; cases he), fun x hx => ⟨rfl, rfl, by rw [HG.out] at hx; injection hx⟩⟩
        | false =>
          have hg : fieldG s ⟨1, res, nn, v⟩ 2 k0 = .error ((skip s k0 : Int), 30) := by
            unfold fieldG
            rw [if_neg HP.out, HN.out]
            show (if fieldsB (fixF (setF ⟨1, res, nn, v⟩ 2 n) 2) = true then _ else _) = _
            rw [show fixF (setF ⟨1, res, nn, v⟩ 2 n) 2 = ⟨1, res, n, v⟩ from by simp [fixF, setF], if_neg (by rw [hf]; simp)]
          have HG := Lib.hid hg
          clear hg
          as_aux_lemma =>
          go_wp2
          go_ret2
          exact ⟨ow3, ⟨1, res, n, v⟩, _, _, rfl, HR.out, HO.out, HT.out, HV3.out, fun er he => by rw [HG.out] at he; injection he with he; subst he; exact ⟨rfl, rfl, by decide⟩, fun x hx => by rw [HG.out] at hx; cases hx⟩
      · have e1 : (kind == 1) = false := beq_eq_false_iff_ne.2 hk1
        as_aux_lemma =>
        go_wp2_with fail
        generalize w2.setCell ⟨bo, 2, none⟩ (.int .i64 n) = W2 at *
        obtain ⟨hR, hO, tt, hV⟩ := And.intro HR0.out (And.intro HO0.out (And.intro HT0.out HV0.out))
        clear HR0 HO0 HT0 HV0
        obtain ⟨ow3, hX, nx, hszx⟩ := SH.add_cells W2 OW2 [1, 0, 3] [.int .i64 kind, .int .i64 res, .int .i64 n, .int .i64 v] 32
        have Bx := nx.below
        refine (Hfi.out (W2.alloc (.cells #[.int .i64 kind, .int .i64 res, .int .i64 n, .int .i64 v] 32)) ⟨kind, res, n, v⟩).mono ?_
        rintro e w3 ⟨rfl, b3⟩
        have n3 : New W2 OW2 w3 ow3 := nx.trans (b3.nw ow3)
        replace hR := Cells.new_ hR n3
        replace hO := hO.new_ n3
        replace tt := tt.trans (n3.turn [1, 0])
        replace hV := hV.turn (n3.turn [1, 0]) (by simp)
        clear nx Bx b3 n3 hX hszx
        have HR := Lib.hid hR
        have HO := Lib.hid hO
        have HT := Lib.hid tt
        have HV3 := Lib.hid hV
        clear hR hO tt hV
        cases hf : fieldsB ⟨kind, res, n, v⟩ with
        | true =>
          have hg : fieldG s ⟨kind, res, nn, v⟩ 2 k0 = .ok (setF ⟨kind, res, nn, v⟩ 2 n) := by
            unfold fieldG
            rw [if_neg HP.out, HN.out]
            show (if fieldsB (fixF (setF ⟨kind, res, nn, v⟩ 2 n) 2) = true then _ else _) = _
            rw [show fixF (setF ⟨kind, res, nn, v⟩ 2 n) 2 = ⟨kind, res, n, v⟩ from by simp [fixF, setF, hk1], if_pos hf]
          have HG := Lib.hid hg
          clear hg
          as_aux_lemma =>
          go_wp2
          go_ret2
          exact ⟨ow3, ⟨kind, res, n, v⟩, 0, 0, rfl, HR.out, HO.out, HT.out, HV3.out, (fun er he => by rw [HG.out] at he; cases he), fun x hx => ⟨rfl, rfl, by rw [HG.out] at hx; injection hx⟩⟩
        | false =>
          have hg : fieldG s ⟨kind, res, nn, v⟩ 2 k0 = .error ((skip s k0 : Int), 30) := by
            unfold fieldG
            rw [if_neg HP.out, HN.out]
            show (if fieldsB (fixF (setF ⟨kind, res, nn, v⟩ 2 n) 2) = true then _ else _) = _
            rw [show fixF (setF ⟨kind, res, nn, v⟩ 2 n) 2 = ⟨kind, res, n, v⟩ from by simp [fixF, setF, hk1], if_neg (by rw [hf]; simp)]
          have HG := Lib.hid hg
          clear hg
          as_aux_lemma =>
          go_wp2
          go_ret2
          exact ⟨ow3, ⟨kind, res, n, v⟩, _, _, rfl, HR.out, HO.out, HT.out, HV3.out, fun er he => by rw [HG.out] at he; injection he with he; subst he; exact ⟨rfl, rfl, by decide⟩, fun x hx => by rw [HG.out] at hx; cases hx⟩

set_option maxRecDepth 100000 in
set_option maxHeartbeats 4000000 in
theorem field3 (w : World) (ow : Ow) (g : Nat) (s : ByteArray) (k0 : Nat) (vs : Value) (opn : Nat) (bo : Nat) (o : Op4) (hs : s.size ≤ 1000000) (h0 : k0 ≤ s.size) (hR : RB w ow [1, 0] g s k0 vs opn) (hO : Cells w ow [1, 0, 2] bo 0 (EOq.cs o)) (hV : VO w ow) (hk3 : o.kind ≠ 1) :
    Calls Tryd.prog 61 #[.pointer (some ⟨g, 0, none⟩), .pointer (some ⟨bo, 0, none⟩), .pointer (some ⟨bo, 3, none⟩)] w (FieldP w ow g s k0 vs opn bo o 3) := by
  have hwd := word w ow [1, 0] g s k0 vs opn hs h0 hR
  have hfi := fields
  have Hfi := Lib.hid hfi
  have hnum := fun W (hW : VL W) => number W (wordB s k0) (Nat.le_trans (wordB_size s k0) hs) hW
  have Hnum := Lib.hid hnum
  clear hfi hnum
  obtain ⟨kind, res, nn, v⟩ := o
  go_enter Tryd.func61, Tryd.ntmps61
  go_wp2_with fail
  refine hwd.mono ?_
  rintro e w1 ⟨OW1, rfl, hR1, t1⟩
  clear hwd hR
  have tt : Turn [1, 0] w ow w1 OW1 := t1.up (by simp)
  replace hO := hO.keep t1 (by simp)
  replace hV := hV.turn tt (by simp)
  clear t1
  change RB w1 OW1 [1, 0] g s (past s (skip s k0)) vs opn at hR1
  by_cases hp : past s (skip s k0) = skip s k0
  · have hnil := wordB_nil hp
    have hg : fieldG s ⟨kind, res, nn, v⟩ 3 k0 = .error ((s.size : Int), 31) := by unfold fieldG; rw [if_pos hp]
    have HG := Lib.hid hg
    have c0 := Cells.get hR1 0 rfl
    simp only [Nat.zero_add] at c0
    have HR := Lib.hid hR1
    have HO := Lib.hid hO
    have HT := Lib.hid tt
    have HV3 := Lib.hid hV
    clear hg hR1 hO tt hV Hnum
    change wordB s k0 = _ at hnil
    as_aux_lemma =>
    rw [show s.extract (skip s k0) (past s (skip s k0)) = ⟨#[]⟩ from hnil]
    go_wp2
    go_ret2
    exact ⟨OW1, _, _, _, rfl, HR.out, HO.out, HT.out, HV3.out, fun er he => by rw [HG.out] at he; injection he with he; subst he; exact ⟨rfl, rfl, by decide⟩, fun x hx => by rw [HG.out] at hx; cases hx⟩
  · have HP := Lib.hid hp
    have hne := wordB_ne h0 hp
    have hb1 := str_ne hne
    have hb2 : ((wordB s k0).toList == []) = false := by rwa [nil_toList] at hb1
    have hb3 : ¬ (wordB s k0).toList = [] := by simpa using hb2
    clear hp hne
    rw [show s.extract (skip s k0) (past s (skip s k0)) = wordB s k0 from rfl]
    generalize hwb : wordB s k0 = wd at *
    go_wp2_with fail
    refine (Hnum.out w1 hV.1).mono ?_
    rintro e w2 ⟨⟨n, rfl, hnn⟩, b2⟩
    have n2 := b2.nw OW1
    replace hR1 := Cells.new_ hR1 n2
    replace hO := hO.new_ n2
    replace tt := tt.trans (n2.turn [1, 0])
    replace hV := hV.turn (n2.turn [1, 0]) (by simp)
    clear n2 b2
    have tk := hO.turn 3 (.int .i64 n) (by simp [EOq.cs])
    have hR := Cells.keep hR1 tk (by simp)
    replace tt := tt.trans (tk.up (by simp))
    replace hV := hV.turn tk (by simp)
    have o0 := hO.get 0 rfl
    have o1 := hO.get 1 rfl
    have o2 := hO.get 2 rfl
    have o3 := hO.get 3 rfl
    have fo := hO.free 3
    have lo := hO.lt
    replace hO := hO.set 3 (.int .i64 n) (by simp [EOq.cs])
    simp only [EOq.cs, Nat.zero_add, List.set_cons_zero, List.set_cons_succ] at o0 o1 o2 o3 hO tk hR tt hV
    have q0 := hO.get 0 rfl
    have q1 := hO.get 1 rfl
    have q2 := hO.get 2 rfl
    have q3 := hO.get 3 rfl
    simp only [Nat.zero_add] at q0 q1 q2 q3
    clear hR1 tk
    obtain ⟨OW2, hOW2⟩ : ∃ OW2, OW2 = OW1 := ⟨_, rfl⟩
    rw [← hOW2] at hR hO tt hV
    clear hOW2
    have HR0 := Lib.hid hR
    have HO0 := Lib.hid hO
    have HT0 := Lib.hid tt
    have HV0 := Lib.hid hV
    clear hR hO tt hV
    cases hnb : numB wd with
    | none =>
      have hg : fieldG s ⟨kind, res, nn, v⟩ 3 k0 = .error ((skip s k0 : Int), 30) := by
        unfold fieldG
        rw [if_neg HP.out, show numB (s.extract (skip s k0) (past s (skip s k0))) = none from by rw [show s.extract (skip s k0) (past s (skip s k0)) = wd from hwb]; exact hnb]
      have HG := Lib.hid hg
      clear hg hnn hwb
      as_aux_lemma =>
      go_wp2
      go_ret2
      exact ⟨OW2, ⟨kind, res, nn, n⟩, _, _, rfl, HR0.out, HO0.out, HT0.out, HV0.out, fun er he => by rw [HG.out] at he; injection he with he; subst he; exact ⟨rfl, rfl, by decide⟩, fun x hx => by rw [HG.out] at hx; cases hx⟩
    | some n0 =>
      obtain rfl := hnn n0 hnb
      have hN : numB (s.extract (skip s k0) (past s (skip s k0))) = some n := by rw [show s.extract (skip s k0) (past s (skip s k0)) = wd from hwb]; exact hnb
      have HN := Lib.hid hN
      clear hN hnn hwb
      by_cases hk1 : kind = 1
      · subst hk1
        exact absurd rfl hk3
      · have e1 : (kind == 1) = false := beq_eq_false_iff_ne.2 hk1
        as_aux_lemma =>
        go_wp2_with fail
        generalize w2.setCell ⟨bo, 3, none⟩ (.int .i64 n) = W2 at *
        obtain ⟨hR, hO, tt, hV⟩ := And.intro HR0.out (And.intro HO0.out (And.intro HT0.out HV0.out))
        clear HR0 HO0 HT0 HV0
        obtain ⟨ow3, hX, nx, hszx⟩ := SH.add_cells W2 OW2 [1, 0, 3] [.int .i64 kind, .int .i64 res, .int .i64 nn, .int .i64 n] 32
        have Bx := nx.below
        refine (Hfi.out (W2.alloc (.cells #[.int .i64 kind, .int .i64 res, .int .i64 nn, .int .i64 n] 32)) ⟨kind, res, nn, n⟩).mono ?_
        rintro e w3 ⟨rfl, b3⟩
        have n3 : New W2 OW2 w3 ow3 := nx.trans (b3.nw ow3)
        replace hR := Cells.new_ hR n3
        replace hO := hO.new_ n3
        replace tt := tt.trans (n3.turn [1, 0])
        replace hV := hV.turn (n3.turn [1, 0]) (by simp)
        clear nx Bx b3 n3 hX hszx
        have HR := Lib.hid hR
        have HO := Lib.hid hO
        have HT := Lib.hid tt
        have HV3 := Lib.hid hV
        clear hR hO tt hV
        cases hf : fieldsB ⟨kind, res, nn, n⟩ with
        | true =>
          have hg : fieldG s ⟨kind, res, nn, v⟩ 3 k0 = .ok (setF ⟨kind, res, nn, v⟩ 3 n) := by
            unfold fieldG
            rw [if_neg HP.out, HN.out]
            show (if fieldsB (fixF (setF ⟨kind, res, nn, v⟩ 3 n) 3) = true then _ else _) = _
            rw [show fixF (setF ⟨kind, res, nn, v⟩ 3 n) 3 = ⟨kind, res, nn, n⟩ from by simp [fixF, setF, hk1], if_pos hf]
          have HG := Lib.hid hg
          clear hg
          as_aux_lemma =>
          go_wp2
          go_ret2
          exact ⟨ow3, ⟨kind, res, nn, n⟩, 0, 0, rfl, HR.out, HO.out, HT.out, HV3.out, (fun er he => by rw [HG.out] at he; cases he), fun x hx => ⟨rfl, rfl, by rw [HG.out] at hx; injection hx⟩⟩
        | false =>
          have hg : fieldG s ⟨kind, res, nn, v⟩ 3 k0 = .error ((skip s k0 : Int), 30) := by
            unfold fieldG
            rw [if_neg HP.out, HN.out]
            show (if fieldsB (fixF (setF ⟨kind, res, nn, v⟩ 3 n) 3) = true then _ else _) = _
            rw [show fixF (setF ⟨kind, res, nn, v⟩ 3 n) 3 = ⟨kind, res, nn, n⟩ from by simp [fixF, setF, hk1], if_neg (by rw [hf]; simp)]
          have HG := Lib.hid hg
          clear hg
          as_aux_lemma =>
          go_wp2
          go_ret2
          exact ⟨ow3, ⟨kind, res, nn, n⟩, _, _, rfl, HR.out, HO.out, HT.out, HV3.out, fun er he => by rw [HG.out] at he; injection he with he; subst he; exact ⟨rfl, rfl, by decide⟩, fun x hx => by rw [HG.out] at hx; cases hx⟩

end CD
end Go.Proofs.YtnehiooioodkfaaDoor
