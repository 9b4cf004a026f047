/-
  CODE: walk.
-/
import Derived.Test.YtnehiooioodkfaaDoorKG
set_option linter.unusedVariables false
set_option linter.unusedSimpArgs false
namespace Go.Proofs.YtnehiooioodkfaaDoor
open Go Go.RowKit
namespace CD
theorem zeros (n : Nat) : (madeCells (Value.int .i64 0).cells (n * 1)).toList = EInt.css (List.replicate n 0) := by
  apply List.ext_getElem?
  intro i
  rw [Nat.mul_one, Array.getElem?_toList]
  by_cases h : i < n
  · rw [madeCells_at _ n i h]
    have := EInt.css_at (List.replicate n 0) i 0 (by simp [h]) 0 _ rfl (by omega)
    simp only [Nat.mul_one, Nat.add_zero] at this
    rw [this]
    show some ((#[Value.int .i64 0] : Array Value)[i % 1]!) = _
    rw [Nat.mod_one]; rfl
  · rw [Array.getElem?_eq_none (by rw [size_madeCells]; omega), List.getElem?_eq_none (by rw [EInt.css_length, List.length_replicate]; omega)]
/-- How many steps walk answers, and which are told. -/
def walkN (xs : List Op4) : Int × Int :=
  if (allE xs).2.2 = true then (if (allE xs).1.length = 4096 then (0, 5) else (((allE xs).1.length : Int) + 1, 0))
  else if (allE xs).2.1 = true then (0, 5) else (((allE xs).1.length : Int), 0)
def walkT (xs : List Op4) : List Op4 := if (allE xs).2.2 = true ∧ (allE xs).1.length ≠ 4096 then (allE xs).1 ++ [⟨9, 0, 0, 0⟩] else (allE xs).1
def ints (st : List Nat) : List Int := (st.reverse).map fun (t : Nat) => (t : Int)
theorem ints_cons (t : Nat) (st : List Nat) : ints (t :: st) = ints st ++ [(t : Int)] := by simp [ints]
theorem ints_length (st : List Nat) : (ints st).length = st.length := by simp [ints]
/-- What the scanning loop keeps. -/
def scR (w0 w : World) (ow : Ow) (g : Nat) (pv ev : Value) (xs : List Op4) (tv : Value) (told : Option (List Op4)) (gn : Nat) (a b : Value) (wr : World) : Prop :=
  ∃ (k : Nat) (st : List Nat) (E : List Int) (OW : Ow), gn = xs.length - k ∧ k ≤ xs.length ∧ b = .int .i64 (k : Int) ∧ E.length = xs.length ∧ (∀ t ∈ st, t < k) ∧ st.length ≤ k ∧
    checkG (xs.drop k) k st.length = (0, 0) ∧ endsG (xs.drop k) k st E = endsB xs ∧ Row wr OW [1, 5] 3 1 a st.length (EInt.css (ints st)) ∧
    PS w0 wr OW g pv ev xs E 0 false tv told ∧ Turn [1] w ow wr OW
/-- What walk leaves. -/
def WalkP (w0 w : World) (ow : Ow) (xs : List Op4) (tv : Value) (told : Option (List Op4)) (e : Ending) (w' : World) : Prop :=
  ∃ OW, e = .returned (.tuple #[.int .i64 (walkN xs).1, .int .i64 (walkN xs).2]) ∧ TL w' OW tv (addT told (walkT xs)) ∧ Turn [1] w ow w' OW
theorem checkG_zero : ∀ (xs : List Op4) (i op : Nat), (checkG xs i op).2 = 0 → checkG xs i op = (0, 0)
  | [], i, op, h => by
    unfold checkG at h ⊢
    split at h
    · cases h
    · rename_i ho; rw [if_neg ho]
  | o :: r, i, op, h => by
    unfold checkG at h ⊢
    split at h
    · cases h
    · rename_i hf
      rw [if_neg hf]
      split at h
      · rename_i h10
        rw [if_pos h10]
        split at h
        · cases h
        · rename_i h4; rw [if_neg h4]; exact checkG_zero _ _ _ h
      · rename_i h10
        rw [if_neg h10]
        split at h
        · rename_i h11
          rw [if_pos h11]
          split at h
          · cases h
          · rename_i h0; rw [if_neg h0]; exact checkG_zero _ _ _ h
        · rename_i h11; rw [if_neg h11]; exact checkG_zero _ _ _ h
theorem endsG_rep (res nn vv : Int) (r : List Op4) (i : Nat) (st : List Nat) (E : List Int) : endsG (⟨10, res, nn, vv⟩ :: r) i st E = endsG r (i + 1) (i :: st) E := by simp [endsG]
theorem endsG_end (res nn vv : Int) (r : List Op4) (i t : Nat) (st : List Nat) (E : List Int) : endsG (⟨11, res, nn, vv⟩ :: r) i (t :: st) E = endsG r (i + 1) st (E.set t i) := by simp [endsG]
theorem endsG_other {kind res nn vv : Int} {r : List Op4} {i : Nat} {st : List Nat} {E : List Int} (h10 : ¬ kind = 10) (h11 : ¬ kind = 11) : endsG (⟨kind, res, nn, vv⟩ :: r) i st E = endsG r (i + 1) st E := by simp [endsG, h10, h11]
theorem css_set1 (E : List Int) (t : Nat) (k : Int) : (EInt.css E).set t (.int .i64 k) = EInt.css (E.set t k) := by
  have e : ∀ l : List Int, EInt.css l = l.map (fun x => Value.int .i64 x) := fun l => by
    induction l with
    | nil => rfl
    | cons x r ih =>
      show EInt.cs x ++ EInt.css r = _
      rw [ih]; rfl
  rw [e, e, List.map_set]
theorem checkG_fok {o : Op4} {r : List Op4} {i op : Nat} (h : checkG (o :: r) i op = (0, 0)) : ¬ fieldsB o = false := by
  intro hf
  rw [checkG, if_pos hf] at h
  simp at h
theorem checkG_other {kind res nn vv : Int} {r : List Op4} {i op : Nat} (h10 : ¬ kind = 10) (h11 : ¬ kind = 11) (h : checkG (⟨kind, res, nn, vv⟩ :: r) i op = (0, 0)) : checkG (⟨kind, res, nn, vv⟩ :: r) i op = checkG r (i + 1) op := by
  rw [checkG, if_neg (checkG_fok h), if_neg h10, if_neg h11]
theorem checkG_rep {res nn vv : Int} {r : List Op4} {i op : Nat} (h : checkG (⟨10, res, nn, vv⟩ :: r) i op = (0, 0)) : checkG r (i + 1) (op + 1) = (0, 0) := by
  have hf := checkG_fok h
  rw [checkG, if_neg hf, if_pos rfl] at h
  split at h
  · simp at h
  · exact h
theorem checkG_end {res nn vv : Int} {r : List Op4} {i op : Nat} (h : checkG (⟨11, res, nn, vv⟩ :: r) i op = (0, 0)) : op ≠ 0 ∧ checkG r (i + 1) (op - 1) = (0, 0) := by
  have hf := checkG_fok h
  rw [checkG, if_neg hf, if_neg (by simp), if_pos rfl] at h
  split at h
  · simp at h
  · rename_i h0; exact ⟨h0, h⟩
set_option maxRecDepth 100000 in
set_option maxHeartbeats 8000000 in
theorem walk_nil (w0 w : World) (ow : Ow) (v : Value) (xs : List Op4) (told : Option (List Op4)) (hrd : Rd4 w0 v xs) (hn : xs.length ≤ 1000000) (hN : ∀ o ∈ xs, o.n ≤ 1000000) (hck : (checkB xs).2 = 0)
    (hns : NS xs (endsB xs) (xs.length + 1) 0 xs.length = true) (hE : (endsB xs).length = xs.length) (htb : tb told 0) (hT : Turn [1] w0 ow0 w ow) (hTL : TL w ow Value.nilFunc told) :
    Calls Tryd.prog 41 #[v, Value.nilFunc] w (WalkP w0 w ow xs Value.nilFunc told) := by
  have hcheck := check w v xs (hrd.new_ (hT.new_ ow0 [1]).below) hn
  rw [hck] at hcheck
  have hcg : checkG xs 0 0 = (0, 0) := by
    have h := hck
    unfold checkB at h
    split at h
    · cases h
    · exact checkG_zero _ _ _ h
  have HCK := Lib.hid hcheck
  have Hrd := Lib.hid hrd
  have HN := Lib.hid hN
  have HNS := Lib.hid hns
  have HCG := Lib.hid hcg
  have HT := Lib.hid hT
  have HTL := Lib.hid hTL
  have Htb := Lib.hid htb
  have hv0 := hrd.slice
  obtain ⟨A, c, rfl, hac⟩ := hv0
  clear hcheck hrd hN hns hcg hT hTL htb hck
  go_enter Tryd.func41, Tryd.ntmps41
  go_wp2_with fail
  refine HCK.out.mono ?_
  rintro e w1 ⟨rfl, bd⟩
  have n1 := bd.nw ow
  have hTL1 := HTL.out.new_ n1
  have t1 : Turn [1] w ow w1 ow := n1.turn [1]
  clear n1 bd HCK HTL
  have HTL := Lib.hid hTL1
  have HW1 := Lib.hid t1
  clear hTL1 t1
  go_wp2_with (at_make; refine wpList_make_row [1, 3] ow rfl (.tmp 22) (.tmp 22) 36 rfl 3 _ 1 8 Tryd.underlying36 EInt.info rfl .i64 .i64 _ _ xs.length xs.length rfl rfl rfl rfl (Nat.le_refl _) (by omega) (by unfold maxLen; omega) ?_)
  intro ev w2 ow2 hev n2
  have hz := zeros xs.length
  rw [Nat.mul_one] at hz
  rw [show (madeCells #[Value.int .i64 0] xs.length) = madeCells (Value.int .i64 0).cells xs.length from rfl, hz] at hev
  clear hz
  have hTL2 := HTL.out.new_ n2
  have t2 := HW1.out.trans (n2.turn [1])
  clear HTL HW1 n2
  obtain ⟨Ae, ce, rfl, hec⟩ := hev.slice
  obtain ⟨ow3, hX, n3, -⟩ := SH.add_cells w2 ow2 [1, 2, 0] [.slice A xs.length c, .int .i64 0, .bool false, .slice Ae xs.length ce, Value.nilFunc] 112
  have hps : PS w0 (w2.alloc (.cells #[.slice A xs.length c, .int .i64 0, .bool false, .slice Ae xs.length ce, Value.nilFunc] 112)) ow3 w2.heap.size (.slice A xs.length c) (.slice Ae xs.length ce) xs (List.replicate xs.length 0) 0 false Value.nilFunc told :=
    ⟨⟨hX, hTL2.new_ n3⟩, hev.new_ n3, HT.out.trans (t2.trans (n3.turn [1]))⟩
  have t3 := t2.trans (n3.turn [1])
  have Hps := Lib.hid hps
  have HT3 := Lib.hid t3
  clear hX n3 hTL2 t2 hev hps t3 HT
  go_wp2
  generalize w2.alloc (.cells #[.slice A xs.length c, .int .i64 0, .bool false, .slice Ae xs.length ce, Value.nilFunc] 112) = w3 at *
  generalize w2.heap.size = g at *
  go_loopg [9, 29] xs.length (fun gn a b wr => scR w0 w ow g (.slice A xs.length c) (.slice Ae xs.length ce) xs Value.nilFunc told gn a b wr)
  case atStart => exact ⟨0, [], _, ow3, rfl, Nat.zero_le _, rfl, by simp, by simp, Nat.le_refl _, HCG.out, rfl, Row.nil _ _ _ _ _, Hps.out, HT3.out⟩
  case round =>
    clear Hps HT3 HCG
    obtain ⟨k, st, E, OW, hgn, hk, rfl, hEl, hst, hsk, hcg, hen, hop, hps, tt⟩ := hrel
    have Hgn := Lib.hid hgn
    clear hgn
    by_cases hlt : k < xs.length
    · have i1 : (k : Int) < (xs.length : Int) := by omega
      obtain ⟨x, hx⟩ : ∃ x, xs[k]? = some x := ⟨_, List.getElem?_eq_getElem hlt⟩
      rw [drop_cons hx] at hcg hen
      obtain ⟨bp, op, cp, hpv, r0, r1, r2, r3⟩ := at4r (Hrd.out.new_ (hps.2.2.new_ ow0 [1]).below) hx
      simp only [Value.slice.injEq, true_and] at hpv
      obtain ⟨rfl, rfl⟩ := hpv
      obtain ⟨kind, res, nn, vv⟩ := x
      simp only at r0 r1 r2 r3
      obtain ⟨Ao, co, rfl, hoc⟩ := hop.slice
      have HOP := Lib.hid hop
      have HPS := Lib.hid hps
      have HTT := Lib.hid tt
      have HCG := Lib.hid hcg
      have HEN := Lib.hid hen
      have Hst := Lib.hid hst
      clear hop hps tt hcg hen hx hst
      go_upto_region 9 with fail
      obtain ⟨OW1, hX, nn1, -⟩ := SH.add_cells wr OW [1, 4] [.int .i64 kind, .int .i64 res, .int .i64 nn, .int .i64 vv] 32
      have hop := HOP.out.new_ nn1
      have hps := HPS.out.new_ nn1
      have tt := HTT.out.trans (nn1.turn [1])
      generalize wr.alloc (.cells #[.int .i64 kind, .int .i64 res, .int .i64 nn, .int .i64 vv] 32) = w4 at *
      generalize wr.heap.size = ob at *
      have x0 := hX.get 0 rfl
      simp only [Nat.zero_add] at x0
      have hwk : IntKind.i64.wrap ((k : Int) + 1) = (k : Int) + 1 := by rw [IntKind.wrap_i64]; omega
      clear HOP HPS HTT nn1 hX r0 r1 r2 r3
      by_cases h10 : kind = 10
      · subst h10
        have hcg := checkG_rep HCG.out
        have hen := HEN.out
        rw [endsG_rep] at hen
        have HC2 := Lib.hid hcg
        have HE2 := Lib.hid hen
        obtain ⟨OW2, hY, nn2, -⟩ := SH.add_cells w4 OW1 [1, 4] [.int .i64 (k : Int)] 3
        have hsrc : Src Tryd.prog 1 36 (.slice (some ⟨w4.heap.size, 0, none⟩) 1 1) 1 (EInt.css [(k : Int)]) (w4.alloc (.cells (EInt.css [(k : Int)]).toArray 3)) := (Reads.new w4 (EInt.css [(k : Int)]) 3 1 1 (Nat.le_refl _)).src Tryd.underlying36 rfl (EInt.css_one _)
        have HS := Lib.hid hsrc
        have HO2 := Lib.hid (hop.new_ nn2)
        have HP2 := Lib.hid (hps.new_ nn2)
        have HT2 := Lib.hid (tt.trans (nn2.turn [1]))
        clear hop hps tt hcg hen HCG HEN hsrc hY nn2
        go_wp2_with (at_builtin; refine wpList_append_row rfl (.tmp 38) (.tmp 40) 36 36 rfl 3 _ 1 8 Tryd.underlying36 EInt.info rfl rfl HO2.out rfl HS.out (by unfold maxLen; omega) (by omega) ?_)
        intro v' w' ow' hrow' ht'
        have hps3 : PS w0 w' ow' g (.slice (some ⟨bp, op, none⟩) xs.length c) (.slice Ae xs.length ce) xs E 0 false Value.nilFunc told := ⟨⟨HP2.out.1.1.keep ht' (by simp), HP2.out.1.2.keep ht' (by simp) (by simp)⟩, HP2.out.2.1.keep ht' (by simp), HP2.out.2.2.trans (ht'.up (by simp))⟩
        have tt3 := HT2.out.trans (ht'.up (by simp))
        have hop3 : Row w' ow' [1, 5] 3 1 v' (k :: st).length (EInt.css (ints (k :: st))) := by
          rw [ints_cons, EInt.css_append, List.length_cons]
          exact hrow'
        have HH := Lib.hid (And.intro hop3 (And.intro hps3 tt3))
        clear hrow' ht' hps3 tt3 hop3 HO2 HP2 HT2 HS
        go_wp2
        go_roundg (xs.length - (k + 1))
        case measure => have := Hgn.out; omega
        case rel => exact ⟨k + 1, k :: st, E, ow', rfl, by omega, by go_num, hEl, fun t ht => by rcases List.mem_cons.1 ht with rfl | ht; exact Nat.lt_succ_self _; have := Hst.out t ht; omega, by simp; omega, HC2.out, HE2.out, HH.out.1, HH.out.2.1, HH.out.2.2⟩
      · have e10 : (kind == 10) = false := beq_eq_false_iff_ne.2 h10
        by_cases h11 : kind = 11
        · subst h11
          obtain ⟨hne, hcg⟩ := checkG_end HCG.out
          obtain ⟨t, st', rfl⟩ : ∃ t st', st = t :: st' := by
            cases st with
            | nil => exact absurd rfl hne
            | cons t s => exact ⟨t, s, rfl⟩
          have hen := HEN.out
          rw [endsG_end] at hen
          have htk := Hst.out t (List.mem_cons_self ..)
          rw [List.length_cons, Nat.add_sub_cancel] at hcg
          rw [ints_cons, List.length_cons] at hop
          obtain ⟨bo, oo, co', hov, hcap, hmx, hbo, hown, hfz, hcell⟩ := hop.at (by omega)
          simp only [Value.slice.injEq, true_and] at hov
          obtain ⟨rfl, rfl⟩ := hov
          have et : w4.cell? ⟨bo, oo + st'.length, none⟩ = some (.int .i64 (t : Int)) := by
            have := hcell st'.length (.int .i64 (t : Int)) (by
              have := EInt.css_at (ints st' ++ [(t : Int)]) st'.length (t : Int) (by rw [List.getElem?_append_right (by rw [ints_length]; omega), ints_length]; simp) 0 _ rfl (by omega)
              simpa only [Nat.mul_one, Nat.add_zero] using this)
            exact this
          have c3 := hps.1.1.get 3 rfl
          simp only [Nat.zero_add] at c3
          obtain ⟨be, oe, ce', hve, hcap2, hmx2, hbe, hown2, hfz2, hcell2⟩ := hps.2.1.at (by omega)
          simp only [Value.slice.injEq, true_and] at hve
          obtain ⟨rfl, rfl⟩ := hve
          have hsk2 : st'.length + 1 ≤ k := by simpa using hsk
          have hw1 : IntKind.i64.wrap ((st'.length : Int) + 1 - 1) = (st'.length : Int) := by rw [IntKind.wrap_i64]; omega
          have hw2 : IntKind.i64.wrap (st'.length : Int) = (st'.length : Int) := by rw [IntKind.wrap_i64]; omega
          have i2 : (t : Int) < (xs.length : Int) := by omega
          have i3 : (st'.length : Int) < (st'.length : Int) + 1 := by omega
          have i4 : (st'.length : Int) ≤ (st'.length : Int) + 1 := by omega
          have HC2 := Lib.hid hcg
          have HE2 := Lib.hid hen
          have HO := Lib.hid hop
          have HP := Lib.hid hps
          have HT := Lib.hid tt
          clear hcg hen hop hps tt HCG HEN hcell hcell2 hown hown2 hne
          go_wp2_with fail
          refine plain_regionN (fun W' : World => W'.cell? ⟨g, 3, none⟩ = some (.slice (some ⟨be, oe, none⟩) xs.length ce) ∧ W'.cell? ⟨bo, oo + st'.length, none⟩ = some (.int .i64 (t : Int))) [12] (by kernel_rfl) ?_
          have hS : (fun W' : World => W'.cell? ⟨g, 3, none⟩ = some (.slice (some ⟨be, oe, none⟩) xs.length ce) ∧ W'.cell? ⟨bo, oo + st'.length, none⟩ = some (.int .i64 (t : Int))) w4.drew := ⟨c3, et⟩
          have hop := HO.out.drew
          have hps := HP.out.new_ ((New.refl w4 OW1).drew)
          have tt := HT.out.drew
          have fz : w4.drew.frozen? ⟨be, oe + t, none⟩ = false := hfz2 _
          have lz : be < w4.drew.heap.size := hbe
          have htc : (w4.drew.cell? ⟨be, oe + t, none⟩).isSome = true := by
            obtain ⟨be', oe', ce', hve, -, -, -, -, -, hcell2⟩ := hps.2.1.at (by omega)
            simp only [Value.slice.injEq, Option.some.injEq, Addr.mk.injEq, true_and, and_true] at hve
            obtain ⟨⟨rfl, rfl⟩, rfl⟩ := hve
            obtain ⟨u, hu⟩ : ∃ u, E[t]? = some u := ⟨_, List.getElem?_eq_getElem (by omega)⟩
            have h1 := EInt.css_at E t u hu 0 _ rfl (by omega)
            simp only [Nat.mul_one, Nat.add_zero] at h1
            rw [hcell2 t _ h1]; rfl
          clear HO HP HT c3 et hfz2 hbe hfz hbo
          generalize w4.drew = w5 at *
          refine anyX_takeNL 0 (v := ?_) rfl rfl (by as_aux_lemma => kernel_rfl) (by as_aux_lemma => kernel_rfl) (by as_aux_lemma => kernel_rfl) (by as_aux_lemma => kernel_rfl) (by as_aux_lemma => kernel_rfl) (fun _ _ _ h => h) rfl ?_ hS ?_
          rotate_left
          · intro W' hW'
            obtain ⟨s0, s1⟩ := hW'
            all_goals (go_simp; first | done | rfl)
          intro l' hl
          dsimp only [List.set_cons_succ, List.set_cons_zero] at hl
          subst hl
          refine anyX_takeNL 1 (v := ?_) rfl rfl (by as_aux_lemma => kernel_rfl) (by as_aux_lemma => kernel_rfl) (by as_aux_lemma => kernel_rfl) (by as_aux_lemma => kernel_rfl) (by as_aux_lemma => kernel_rfl) (fun _ _ _ h => h) rfl ?_ hS ?_
          rotate_left
          · intro W' hW'
            obtain ⟨s0, s1⟩ := hW'
            all_goals (go_simp; first | done | rfl)
          intro l' hl
          dsimp only [List.set_cons_succ, List.set_cons_zero] at hl
          subst hl
          refine anyX_takeNL 2 (v := ?_) rfl rfl (by as_aux_lemma => kernel_rfl) (by as_aux_lemma => kernel_rfl) (by as_aux_lemma => kernel_rfl) (by as_aux_lemma => kernel_rfl) (by as_aux_lemma => kernel_rfl) (fun _ _ _ h => h) rfl ?_ hS ?_
          rotate_left
          · intro W' hW'
            obtain ⟨s0, s1⟩ := hW'
            all_goals (go_simp; first | done | rfl)
          intro l' hl
          dsimp only [List.set_cons_succ, List.set_cons_zero] at hl
          subst hl
          refine anyX_takeNL 3 (v := ?_) rfl rfl (by as_aux_lemma => kernel_rfl) (by as_aux_lemma => kernel_rfl) (by as_aux_lemma => kernel_rfl) (by as_aux_lemma => kernel_rfl) (by as_aux_lemma => kernel_rfl) (fun _ _ _ h => h) rfl ?_ hS ?_
          rotate_left
          · intro W' hW'
            obtain ⟨s0, s1⟩ := hW'
            all_goals (go_simp; first | done | rfl)
          intro l' hl
          dsimp only [List.set_cons_succ, List.set_cons_zero] at hl
          subst hl
          refine anyX_takeNL 4 (v := ?_) rfl rfl (by as_aux_lemma => kernel_rfl) (by as_aux_lemma => kernel_rfl) (by as_aux_lemma => kernel_rfl) (by as_aux_lemma => kernel_rfl) (by as_aux_lemma => kernel_rfl) (fun _ _ _ h => h) rfl ?_ hS ?_
          rotate_left
          · intro W' hW'
            obtain ⟨s0, s1⟩ := hW'
            all_goals (go_simp; first | done | rfl)
          intro l' hl
          dsimp only [List.set_cons_succ, List.set_cons_zero] at hl
          subst hl
          refine anyX_takeNL 5 (v := ?_) rfl rfl (by as_aux_lemma => kernel_rfl) (by as_aux_lemma => kernel_rfl) (by as_aux_lemma => kernel_rfl) (by as_aux_lemma => kernel_rfl) (by as_aux_lemma => kernel_rfl) (fun _ _ _ h => h) rfl ?_ hS ?_
          rotate_left
          · intro W' hW'
            obtain ⟨s0, s1⟩ := hW'
            all_goals (go_simp; first | done | rfl)
          intro l' hl
          dsimp only [List.set_cons_succ, List.set_cons_zero] at hl
          subst hl
          refine anyX_takeNL 6 (v := ?_) rfl rfl (by as_aux_lemma => kernel_rfl) (by as_aux_lemma => kernel_rfl) (by as_aux_lemma => kernel_rfl) (by as_aux_lemma => kernel_rfl) (by as_aux_lemma => kernel_rfl) (fun _ _ _ h => h) rfl ?_ hS ?_
          rotate_left
          · intro W' hW'
            obtain ⟨s0, s1⟩ := hW'
            all_goals (go_simp; first | done | rfl)
          intro l' hl
          dsimp only [List.set_cons_succ, List.set_cons_zero] at hl
          subst hl
          refine anyX_takeNL 7 (v := ?_) rfl rfl (by as_aux_lemma => kernel_rfl) (by as_aux_lemma => kernel_rfl) (by as_aux_lemma => kernel_rfl) (by as_aux_lemma => kernel_rfl) (by as_aux_lemma => kernel_rfl) (fun _ _ _ h => h) rfl ?_ hS ?_
          rotate_left
          · intro W' hW'
            obtain ⟨s0, s1⟩ := hW'
            all_goals (go_simp; first | done | rfl)
          intro l' hl
          dsimp only [List.set_cons_succ, List.set_cons_zero] at hl
          subst hl
          refine anyX_takeNL 8 (v := ?_) rfl rfl (by as_aux_lemma => kernel_rfl) (by as_aux_lemma => kernel_rfl) (by as_aux_lemma => kernel_rfl) (by as_aux_lemma => kernel_rfl) (by as_aux_lemma => kernel_rfl) (fun _ _ _ h => h) rfl ?_ hS ?_
          rotate_left
          · intro W' hW'
            obtain ⟨s0, s1⟩ := hW'
            all_goals (go_simp; first | done | rfl)
          intro l' hl
          dsimp only [List.set_cons_succ, List.set_cons_zero] at hl
          subst hl
          refine anyX_takeNL 9 (v := ?_) rfl rfl (by as_aux_lemma => kernel_rfl) (by as_aux_lemma => kernel_rfl) (by as_aux_lemma => kernel_rfl) (by as_aux_lemma => kernel_rfl) (by as_aux_lemma => kernel_rfl) (fun _ _ _ h => h) rfl ?_ hS ?_
          rotate_left
          · intro W' hW'
            obtain ⟨s0, s1⟩ := hW'
            all_goals (go_simp; first | done | rfl)
          intro l' hl
          dsimp only [List.set_cons_succ, List.set_cons_zero] at hl
          subst hl
          refine anyX_takeNL 10 (v := ?_) rfl rfl (by as_aux_lemma => kernel_rfl) (by as_aux_lemma => kernel_rfl) (by as_aux_lemma => kernel_rfl) (by as_aux_lemma => kernel_rfl) (by as_aux_lemma => kernel_rfl) (fun _ _ _ h => h) rfl ?_ hS ?_
          rotate_left
          · intro W' hW'
            obtain ⟨s0, s1⟩ := hW'
            all_goals (go_simp; first | done | rfl)
          intro l' hl
          dsimp only [List.set_cons_succ, List.set_cons_zero] at hl
          subst hl
          refine anyX_takeNL 11 (v := ?_) rfl rfl (by as_aux_lemma => kernel_rfl) (by as_aux_lemma => kernel_rfl) (by as_aux_lemma => kernel_rfl) (by as_aux_lemma => kernel_rfl) (by as_aux_lemma => kernel_rfl) (fun _ _ _ h => h) rfl ?_ hS ?_
          rotate_left
          · intro W' hW'
            obtain ⟨s0, s1⟩ := hW'
            all_goals (go_simp; first | done | rfl)
          intro l' hl
          dsimp only [List.set_cons_succ, List.set_cons_zero] at hl
          subst hl
          obtain ⟨uz, cz⟩ := Option.isSome_iff_exists.1 htc
          refine anyX_one (i := 12) (by kernel_rfl) rfl rfl fun K' hK' => ?_
          unfold Oper.wp
          go_simp
          refine hK' _ _ (fun hf => by cases hf) (anyX_done (by kernel_rfl) ?_ _)
          refine NoPanic.normal ?_
          clear hK' K'
          have tk := hps.2.1.turn (oe + t) (.int .i64 (k : Int))
          have he' := hps.2.1.set t (.int .i64 (k : Int))
          rw [css_set1] at he'
          have hps3 : PS w0 (w5.setCell ⟨be, oe + t, none⟩ (.int .i64 (k : Int))) OW1 g (.slice (some ⟨bp, op, none⟩) xs.length c) (.slice (some ⟨be, oe, none⟩) xs.length ce) xs (E.set t (k : Int)) 0 false Value.nilFunc told := ⟨⟨hps.1.1.keep tk (by simp), hps.1.2.keep tk (by simp) (by simp)⟩, he', hps.2.2.trans (tk.up (by simp))⟩
          have tt3 := tt.trans (tk.up (p := [1]) (by simp))
          have hop3 := hop.keep tk (by simp)
          have htk2 : st'.length ≤ st'.length + 1 := by omega
          have hop4 := hop3.take st'.length htk2
          have hop5 : Row (w5.setCell ⟨be, oe + t, none⟩ (.int .i64 (k : Int))) OW1 [1, 5] 3 1 (.slice (some ⟨bo, oo, none⟩) st'.length co) st'.length (EInt.css (ints st')) := by
            have e : (EInt.css (ints st' ++ [(t : Int)])).take (st'.length * 1) = EInt.css (ints st') := by
              rw [← EInt.css_take, List.take_append_of_le_length (by rw [ints_length]; exact Nat.le_refl _), List.take_of_length_le (by rw [ints_length]; exact Nat.le_refl _)]
            rw [← e]; exact hop4
          have HH := Lib.hid (And.intro hop5 (And.intro hps3 tt3))
          have hEl2 : (E.set t (k : Int)).length = xs.length := by rw [List.length_set]; exact hEl
          clear tk he' hps3 tt3 hop3 hop4 hop5 hps hop tt hS fz lz htc cz
          go_wp2
          go_roundg (xs.length - (k + 1))
          case measure => have := Hgn.out; omega
          case rel => exact ⟨k + 1, st', E.set t (k : Int), OW1, rfl, by omega, by go_num, hEl2, fun u hu => by have := Hst.out u (List.mem_cons_of_mem _ hu); omega, by simp at hsk; omega, HC2.out, HE2.out, HH.out.1, HH.out.2.1, HH.out.2.2⟩
        · have e11 : (kind == 11) = false := beq_eq_false_iff_ne.2 h11
          have hcg := HCG.out
          have hen := HEN.out
          rw [checkG_other h10 h11 hcg] at hcg
          rw [endsG_other h10 h11] at hen
          have HC2 := Lib.hid hcg
          have HE2 := Lib.hid hen
          have HH := Lib.hid (And.intro hop (And.intro hps tt))
          clear hop hps tt hcg hen HCG HEN
          go_wp2
          go_roundg (xs.length - (k + 1))
          case measure => have := Hgn.out; omega
          case rel => exact ⟨k + 1, st, E, OW1, rfl, by omega, by go_num, hEl, fun t ht => by have := Hst.out t ht; omega, by omega, HC2.out, HE2.out, HH.out.1, HH.out.2.1, HH.out.2.2⟩
    · obtain rfl : k = xs.length := by omega
      rw [List.drop_eq_nil_of_le (Nat.le_refl _)] at hcg hen
      change E = endsB xs at hen
      subst hen
      have hpart := part w0 g (.slice A xs.length c) (.slice Ae xs.length ce) xs (endsB xs) Value.nilFunc Hrd.out hn hE HN.out (xs.length + 1) wr OW 0 xs.length 0 told (Nat.zero_le _) (Nat.le_refl _) HNS.out (by omega) Htb.out hps
      have hps0 := hps
      have HP := Lib.hid hpart
      have HT := Lib.hid tt
      clear hpart hps tt hps0 hop hcg
      have hall : runG (segE xs (endsB xs) (xs.length + 1) 0 xs.length) 0 = allE xs := rfl
      rw [hall] at HP
      obtain ⟨N, hN2⟩ : ∃ N, walkN xs = N := ⟨_, rfl⟩
      obtain ⟨T, hT2⟩ : ∃ T, walkT xs = T := ⟨_, rfl⟩
      have hlen := runG_len (segE xs (endsB xs) (xs.length + 1) 0 xs.length) 0 (by omega)
      rw [hall] at hlen
      unfold walkN at hN2
      unfold walkT at hT2
      have hgoal : ∀ e w', WalkP w0 w ow xs Value.nilFunc told e w' = ∃ OW, e = .returned (.tuple #[.int .i64 (walkN xs).1, .int .i64 (walkN xs).2]) ∧ TL w' OW Value.nilFunc (addT told (walkT xs)) ∧ Turn [1] w ow w' OW := fun _ _ => rfl
      go_wp2_with fail
      refine HP.out.mono ?_
      rintro e w5 ⟨OW5, rfl, hp5, t5⟩
      rw [Nat.zero_add] at hp5
      have tt5 := HT.out.trans (t5.up (by simp))
      clear HP HT t5
      cases hm : (allE xs).2.2 with
      | false =>
        rw [if_neg (by rw [hm]; simp)] at hN2
        rw [if_neg (by rw [hm]; simp)] at hT2
        have d1 := hp5.1.1.get 1 rfl
        have d2 := hp5.1.1.get 2 rfl
        simp only [Nat.zero_add] at d1 d2
        cases hov : (allE xs).2.1 with
        | true =>
          rw [hov] at hN2 d2
          rw [if_pos rfl] at hN2
          have hwn : walkN xs = (0, 5) := by unfold walkN; rw [if_neg (by rw [hm]; simp), if_pos hov]
          have hwt : walkT xs = (allE xs).1 := by unfold walkT; rw [if_neg (by rw [hm]; simp)]
          have HH := Lib.hid (And.intro hp5.1.2 tt5)
          clear hp5 tt5 hN2 hT2 hgoal
          as_aux_lemma =>
          go_wp2
          go_ret2
          exact ⟨OW5, by rw [hwn]; rfl, by rw [hwt]; exact HH.out.1, HH.out.2⟩
        | false =>
          rw [hov] at d2
          have hwn : walkN xs = (((allE xs).1.length : Int), 0) := by unfold walkN; rw [if_neg (by rw [hm]; simp), if_neg (by rw [hov]; simp)]
          have hwt : walkT xs = (allE xs).1 := by unfold walkT; rw [if_neg (by rw [hm]; simp)]
          have HH := Lib.hid (And.intro hp5.1.2 tt5)
          clear hp5 tt5 hN2 hT2 hgoal
          as_aux_lemma =>
          go_wp2
          go_ret2
          exact ⟨OW5, by rw [hwn]; rfl, by rw [hwt]; exact HH.out.1, HH.out.2⟩
      | true =>
        have hmo := runG_more (segE xs (endsB xs) (xs.length + 1) 0 xs.length) 0 (by rw [hall]; exact hm)
        rw [hall] at hmo
        rw [hmo.2] at hp5
        have htb5 := Htb.out.add (allE xs).1
        rw [Nat.zero_add] at htb5
        by_cases hk : (allE xs).1.length = 4096
        · rw [hk] at hp5
          have HS := Lib.hid (stepO ⟨9, 0, 0, 0⟩ hp5)
          have hwn : walkN xs = (0, 5) := by unfold walkN; rw [if_pos hm, if_pos hk]
          have hwt : walkT xs = (allE xs).1 := by unfold walkT; rw [if_neg (by intro h; exact h.2 hk)]
          clear hp5 hN2 hT2 hgoal
          as_aux_lemma =>
          go_wp2_with fail
          refine HS.out.mono ?_
          rintro e w6 ⟨OW6, rfl, hp6, t6⟩
          have tt6 := tt5.trans (t6.up (by simp))
          have d1 := hp6.1.1.get 1 rfl
          have d2 := hp6.1.1.get 2 rfl
          simp only [Nat.zero_add] at d1 d2
          have HH := Lib.hid (And.intro hp6.1.2 tt6)
          clear hp6 tt5 tt6 t6 HS
          go_wp2
          go_ret2
          exact ⟨OW6, by rw [hwn]; rfl, by rw [hwt]; exact HH.out.1, HH.out.2⟩
        · have HS := Lib.hid (stepP ⟨9, 0, 0, 0⟩ hp5 hk (by omega) htb5)
          have hwn : walkN xs = (((allE xs).1.length : Int) + 1, 0) := by unfold walkN; rw [if_pos hm, if_neg hk]
          have hwt : walkT xs = (allE xs).1 ++ [⟨9, 0, 0, 0⟩] := by unfold walkT; rw [if_pos ⟨hm, hk⟩]
          clear hp5 hN2 hT2 hgoal
          as_aux_lemma =>
          go_wp2_with fail
          refine HS.out.mono ?_
          rintro e w6 ⟨OW6, rfl, hp6, t6⟩
          have tt6 := tt5.trans (t6.up (by simp))
          have d1 := hp6.1.1.get 1 rfl
          have d2 := hp6.1.1.get 2 rfl
          simp only [Nat.zero_add] at d1 d2
          have ez : (((allE xs).1.length + 1 : Nat) : Int) = ((allE xs).1.length : Int) + 1 := by omega
          obtain ⟨Ln, hLn⟩ : ∃ Ln, ((allE xs).1.length : Int) + 1 = Ln := ⟨_, rfl⟩
          rw [ez, hLn] at d1
          rw [hLn] at hwn
          clear ez hLn
          rw [addT_add] at hp6
          have HH := Lib.hid (And.intro hp6.1.2 tt6)
          clear hp6 tt5 tt6 t6 HS
          go_wp2
          go_ret2
          exact ⟨OW6, by rw [hwn]; rfl, by rw [hwt]; exact HH.out.1, HH.out.2⟩
set_option maxRecDepth 100000 in
set_option maxHeartbeats 8000000 in
theorem walk_fn (w0 w : World) (ow : Ow) (v : Value) (xs : List Op4) (G : Nat) (told : Option (List Op4)) (hrd : Rd4 w0 v xs) (hn : xs.length ≤ 1000000) (hN : ∀ o ∈ xs, o.n ≤ 1000000) (hck : (checkB xs).2 = 0)
    (hns : NS xs (endsB xs) (xs.length + 1) 0 xs.length = true) (hE : (endsB xs).length = xs.length) (htb : tb told 0) (hT : Turn [1] w0 ow0 w ow) (hTL : TL w ow (Value.func (.func 48) #[] #[.pointer (some ⟨G, 0, none⟩)]) told) :
    Calls Tryd.prog 41 #[v, (Value.func (.func 48) #[] #[.pointer (some ⟨G, 0, none⟩)])] w (WalkP w0 w ow xs (Value.func (.func 48) #[] #[.pointer (some ⟨G, 0, none⟩)]) told) := by
  have hcheck := check w v xs (hrd.new_ (hT.new_ ow0 [1]).below) hn
  rw [hck] at hcheck
  have hcg : checkG xs 0 0 = (0, 0) := by
    have h := hck
    unfold checkB at h
    split at h
    · cases h
    · exact checkG_zero _ _ _ h
  have HCK := Lib.hid hcheck
  have Hrd := Lib.hid hrd
  have HN := Lib.hid hN
  have HNS := Lib.hid hns
  have HCG := Lib.hid hcg
  have HT := Lib.hid hT
  have HTL := Lib.hid hTL
  have Htb := Lib.hid htb
  have hv0 := hrd.slice
  obtain ⟨A, c, rfl, hac⟩ := hv0
  clear hcheck hrd hN hns hcg hT hTL htb hck
  go_enter Tryd.func41, Tryd.ntmps41
  go_wp2_with fail
  refine HCK.out.mono ?_
  rintro e w1 ⟨rfl, bd⟩
  have n1 := bd.nw ow
  have hTL1 := HTL.out.new_ n1
  have t1 : Turn [1] w ow w1 ow := n1.turn [1]
  clear n1 bd HCK HTL
  have HTL := Lib.hid hTL1
  have HW1 := Lib.hid t1
  clear hTL1 t1
  go_wp2_with (at_make; refine wpList_make_row [1, 3] ow rfl (.tmp 22) (.tmp 22) 36 rfl 3 _ 1 8 Tryd.underlying36 EInt.info rfl .i64 .i64 _ _ xs.length xs.length rfl rfl rfl rfl (Nat.le_refl _) (by omega) (by unfold maxLen; omega) ?_)
  intro ev w2 ow2 hev n2
  have hz := zeros xs.length
  rw [Nat.mul_one] at hz
  rw [show (madeCells #[Value.int .i64 0] xs.length) = madeCells (Value.int .i64 0).cells xs.length from rfl, hz] at hev
  clear hz
  have hTL2 := HTL.out.new_ n2
  have t2 := HW1.out.trans (n2.turn [1])
  clear HTL HW1 n2
  obtain ⟨Ae, ce, rfl, hec⟩ := hev.slice
  obtain ⟨ow3, hX, n3, -⟩ := SH.add_cells w2 ow2 [1, 2, 0] [.slice A xs.length c, .int .i64 0, .bool false, .slice Ae xs.length ce, (Value.func (.func 48) #[] #[.pointer (some ⟨G, 0, none⟩)])] 112
  have hps : PS w0 (w2.alloc (.cells #[.slice A xs.length c, .int .i64 0, .bool false, .slice Ae xs.length ce, (Value.func (.func 48) #[] #[.pointer (some ⟨G, 0, none⟩)])] 112)) ow3 w2.heap.size (.slice A xs.length c) (.slice Ae xs.length ce) xs (List.replicate xs.length 0) 0 false (Value.func (.func 48) #[] #[.pointer (some ⟨G, 0, none⟩)]) told :=
    ⟨⟨hX, hTL2.new_ n3⟩, hev.new_ n3, HT.out.trans (t2.trans (n3.turn [1]))⟩
  have t3 := t2.trans (n3.turn [1])
  have Hps := Lib.hid hps
  have HT3 := Lib.hid t3
  clear hX n3 hTL2 t2 hev hps t3 HT
  go_wp2
  generalize w2.alloc (.cells #[.slice A xs.length c, .int .i64 0, .bool false, .slice Ae xs.length ce, (Value.func (.func 48) #[] #[.pointer (some ⟨G, 0, none⟩)])] 112) = w3 at *
  generalize w2.heap.size = g at *
  go_loopg [9, 29] xs.length (fun gn a b wr => scR w0 w ow g (.slice A xs.length c) (.slice Ae xs.length ce) xs (Value.func (.func 48) #[] #[.pointer (some ⟨G, 0, none⟩)]) told gn a b wr)
  case atStart => exact ⟨0, [], _, ow3, rfl, Nat.zero_le _, rfl, by simp, by simp, Nat.le_refl _, HCG.out, rfl, Row.nil _ _ _ _ _, Hps.out, HT3.out⟩
  case round =>
    clear Hps HT3 HCG
    obtain ⟨k, st, E, OW, hgn, hk, rfl, hEl, hst, hsk, hcg, hen, hop, hps, tt⟩ := hrel
    have Hgn := Lib.hid hgn
    clear hgn
    by_cases hlt : k < xs.length
    · have i1 : (k : Int) < (xs.length : Int) := by omega
      obtain ⟨x, hx⟩ : ∃ x, xs[k]? = some x := ⟨_, List.getElem?_eq_getElem hlt⟩
      rw [drop_cons hx] at hcg hen
      obtain ⟨bp, op, cp, hpv, r0, r1, r2, r3⟩ := at4r (Hrd.out.new_ (hps.2.2.new_ ow0 [1]).below) hx
      simp only [Value.slice.injEq, true_and] at hpv
      obtain ⟨rfl, rfl⟩ := hpv
      obtain ⟨kind, res, nn, vv⟩ := x
      simp only at r0 r1 r2 r3
      obtain ⟨Ao, co, rfl, hoc⟩ := hop.slice
      have HOP := Lib.hid hop
      have HPS := Lib.hid hps
      have HTT := Lib.hid tt
      have HCG := Lib.hid hcg
      have HEN := Lib.hid hen
      have Hst := Lib.hid hst
      clear hop hps tt hcg hen hx hst
      go_upto_region 9 with fail
      obtain ⟨OW1, hX, nn1, -⟩ := SH.add_cells wr OW [1, 4] [.int .i64 kind, .int .i64 res, .int .i64 nn, .int .i64 vv] 32
      have hop := HOP.out.new_ nn1
      have hps := HPS.out.new_ nn1
      have tt := HTT.out.trans (nn1.turn [1])
      generalize wr.alloc (.cells #[.int .i64 kind, .int .i64 res, .int .i64 nn, .int .i64 vv] 32) = w4 at *
      generalize wr.heap.size = ob at *
      have x0 := hX.get 0 rfl
      simp only [Nat.zero_add] at x0
      have hwk : IntKind.i64.wrap ((k : Int) + 1) = (k : Int) + 1 := by rw [IntKind.wrap_i64]; omega
      clear HOP HPS HTT nn1 hX r0 r1 r2 r3
      by_cases h10 : kind = 10
      · subst h10
        have hcg := checkG_rep HCG.out
        have hen := HEN.out
        rw [endsG_rep] at hen
        have HC2 := Lib.hid hcg
        have HE2 := Lib.hid hen
        obtain ⟨OW2, hY, nn2, -⟩ := SH.add_cells w4 OW1 [1, 4] [.int .i64 (k : Int)] 3
        have hsrc : Src Tryd.prog 1 36 (.slice (some ⟨w4.heap.size, 0, none⟩) 1 1) 1 (EInt.css [(k : Int)]) (w4.alloc (.cells (EInt.css [(k : Int)]).toArray 3)) := (Reads.new w4 (EInt.css [(k : Int)]) 3 1 1 (Nat.le_refl _)).src Tryd.underlying36 rfl (EInt.css_one _)
        have HS := Lib.hid hsrc
        have HO2 := Lib.hid (hop.new_ nn2)
        have HP2 := Lib.hid (hps.new_ nn2)
        have HT2 := Lib.hid (tt.trans (nn2.turn [1]))
        clear hop hps tt hcg hen HCG HEN hsrc hY nn2
        go_wp2_with (at_builtin; refine wpList_append_row rfl (.tmp 38) (.tmp 40) 36 36 rfl 3 _ 1 8 Tryd.underlying36 EInt.info rfl rfl HO2.out rfl HS.out (by unfold maxLen; omega) (by omega) ?_)
        intro v' w' ow' hrow' ht'
        have hps3 : PS w0 w' ow' g (.slice (some ⟨bp, op, none⟩) xs.length c) (.slice Ae xs.length ce) xs E 0 false (Value.func (.func 48) #[] #[.pointer (some ⟨G, 0, none⟩)]) told := ⟨⟨HP2.out.1.1.keep ht' (by simp), HP2.out.1.2.keep ht' (by simp) (by simp)⟩, HP2.out.2.1.keep ht' (by simp), HP2.out.2.2.trans (ht'.up (by simp))⟩
        have tt3 := HT2.out.trans (ht'.up (by simp))
        have hop3 : Row w' ow' [1, 5] 3 1 v' (k :: st).length (EInt.css (ints (k :: st))) := by
          rw [ints_cons, EInt.css_append, List.length_cons]
          exact hrow'
        have HH := Lib.hid (And.intro hop3 (And.intro hps3 tt3))
        clear hrow' ht' hps3 tt3 hop3 HO2 HP2 HT2 HS
        go_wp2
        go_roundg (xs.length - (k + 1))
        case measure => have := Hgn.out; omega
        case rel => exact ⟨k + 1, k :: st, E, ow', rfl, by omega, by go_num, hEl, fun t ht => by rcases List.mem_cons.1 ht with rfl | ht; exact Nat.lt_succ_self _; have := Hst.out t ht; omega, by simp; omega, HC2.out, HE2.out, HH.out.1, HH.out.2.1, HH.out.2.2⟩
      · have e10 : (kind == 10) = false := beq_eq_false_iff_ne.2 h10
        by_cases h11 : kind = 11
        · subst h11
          obtain ⟨hne, hcg⟩ := checkG_end HCG.out
          obtain ⟨t, st', rfl⟩ : ∃ t st', st = t :: st' := by
            cases st with
            | nil => exact absurd rfl hne
            | cons t s => exact ⟨t, s, rfl⟩
          have hen := HEN.out
          rw [endsG_end] at hen
          have htk := Hst.out t (List.mem_cons_self ..)
          rw [List.length_cons, Nat.add_sub_cancel] at hcg
          rw [ints_cons, List.length_cons] at hop
          obtain ⟨bo, oo, co', hov, hcap, hmx, hbo, hown, hfz, hcell⟩ := hop.at (by omega)
          simp only [Value.slice.injEq, true_and] at hov
          obtain ⟨rfl, rfl⟩ := hov
          have et : w4.cell? ⟨bo, oo + st'.length, none⟩ = some (.int .i64 (t : Int)) := by
            have := hcell st'.length (.int .i64 (t : Int)) (by
              have := EInt.css_at (ints st' ++ [(t : Int)]) st'.length (t : Int) (by rw [List.getElem?_append_right (by rw [ints_length]; omega), ints_length]; simp) 0 _ rfl (by omega)
              simpa only [Nat.mul_one, Nat.add_zero] using this)
            exact this
          have c3 := hps.1.1.get 3 rfl
          simp only [Nat.zero_add] at c3
          obtain ⟨be, oe, ce', hve, hcap2, hmx2, hbe, hown2, hfz2, hcell2⟩ := hps.2.1.at (by omega)
          simp only [Value.slice.injEq, true_and] at hve
          obtain ⟨rfl, rfl⟩ := hve
          have hsk2 : st'.length + 1 ≤ k := by simpa using hsk
          have hw1 : IntKind.i64.wrap ((st'.length : Int) + 1 - 1) = (st'.length : Int) := by rw [IntKind.wrap_i64]; omega
          have hw2 : IntKind.i64.wrap (st'.length : Int) = (st'.length : Int) := by rw [IntKind.wrap_i64]; omega
          have i2 : (t : Int) < (xs.length : Int) := by omega
          have i3 : (st'.length : Int) < (st'.length : Int) + 1 := by omega
          have i4 : (st'.length : Int) ≤ (st'.length : Int) + 1 := by omega
          have HC2 := Lib.hid hcg
          have HE2 := Lib.hid hen
          have HO := Lib.hid hop
          have HP := Lib.hid hps
          have HT := Lib.hid tt
          clear hcg hen hop hps tt HCG HEN hcell hcell2 hown hown2 hne
          go_wp2_with fail
          refine plain_regionN (fun W' : World => W'.cell? ⟨g, 3, none⟩ = some (.slice (some ⟨be, oe, none⟩) xs.length ce) ∧ W'.cell? ⟨bo, oo + st'.length, none⟩ = some (.int .i64 (t : Int))) [12] (by kernel_rfl) ?_
          have hS : (fun W' : World => W'.cell? ⟨g, 3, none⟩ = some (.slice (some ⟨be, oe, none⟩) xs.length ce) ∧ W'.cell? ⟨bo, oo + st'.length, none⟩ = some (.int .i64 (t : Int))) w4.drew := ⟨c3, et⟩
          have hop := HO.out.drew
          have hps := HP.out.new_ ((New.refl w4 OW1).drew)
          have tt := HT.out.drew
          have fz : w4.drew.frozen? ⟨be, oe + t, none⟩ = false := hfz2 _
          have lz : be < w4.drew.heap.size := hbe
          have htc : (w4.drew.cell? ⟨be, oe + t, none⟩).isSome = true := by
            obtain ⟨be', oe', ce', hve, -, -, -, -, -, hcell2⟩ := hps.2.1.at (by omega)
            simp only [Value.slice.injEq, Option.some.injEq, Addr.mk.injEq, true_and, and_true] at hve
            obtain ⟨⟨rfl, rfl⟩, rfl⟩ := hve
            obtain ⟨u, hu⟩ : ∃ u, E[t]? = some u := ⟨_, List.getElem?_eq_getElem (by omega)⟩
            have h1 := EInt.css_at E t u hu 0 _ rfl (by omega)
            simp only [Nat.mul_one, Nat.add_zero] at h1
            rw [hcell2 t _ h1]; rfl
          clear HO HP HT c3 et hfz2 hbe hfz hbo
          generalize w4.drew = w5 at *
          refine anyX_takeNL 0 (v := ?_) rfl rfl (by as_aux_lemma => kernel_rfl) (by as_aux_lemma => kernel_rfl) (by as_aux_lemma => kernel_rfl) (by as_aux_lemma => kernel_rfl) (by as_aux_lemma => kernel_rfl) (fun _ _ _ h => h) rfl ?_ hS ?_
          rotate_left
          · intro W' hW'
            obtain ⟨s0, s1⟩ := hW'
            all_goals (go_simp; first | done | rfl)
          intro l' hl
          dsimp only [List.set_cons_succ, List.set_cons_zero] at hl
          subst hl
          refine anyX_takeNL 1 (v := ?_) rfl rfl (by as_aux_lemma => kernel_rfl) (by as_aux_lemma => kernel_rfl) (by as_aux_lemma => kernel_rfl) (by as_aux_lemma => kernel_rfl) (by as_aux_lemma => kernel_rfl) (fun _ _ _ h => h) rfl ?_ hS ?_
          rotate_left
          · intro W' hW'
            obtain ⟨s0, s1⟩ := hW'
            all_goals (go_simp; first | done | rfl)
          intro l' hl
          dsimp only [List.set_cons_succ, List.set_cons_zero] at hl
          subst hl
          refine anyX_takeNL 2 (v := ?_) rfl rfl (by as_aux_lemma => kernel_rfl) (by as_aux_lemma => kernel_rfl) (by as_aux_lemma => kernel_rfl) (by as_aux_lemma => kernel_rfl) (by as_aux_lemma => kernel_rfl) (fun _ _ _ h => h) rfl ?_ hS ?_
          rotate_left
          · intro W' hW'
            obtain ⟨s0, s1⟩ := hW'
            all_goals (go_simp; first | done | rfl)
          intro l' hl
          dsimp only [List.set_cons_succ, List.set_cons_zero] at hl
          subst hl
          refine anyX_takeNL 3 (v := ?_) rfl rfl (by as_aux_lemma => kernel_rfl) (by as_aux_lemma => kernel_rfl) (by as_aux_lemma => kernel_rfl) (by as_aux_lemma => kernel_rfl) (by as_aux_lemma => kernel_rfl) (fun _ _ _ h => h) rfl ?_ hS ?_
          rotate_left
          · intro W' hW'
            obtain ⟨s0, s1⟩ := hW'
            all_goals (go_simp; first | done | rfl)
          intro l' hl
          dsimp only [List.set_cons_succ, List.set_cons_zero] at hl
          subst hl
          refine anyX_takeNL 4 (v := ?_) rfl rfl (by as_aux_lemma => kernel_rfl) (by as_aux_lemma => kernel_rfl) (by as_aux_lemma => kernel_rfl) (by as_aux_lemma => kernel_rfl) (by as_aux_lemma => kernel_rfl) (fun _ _ _ h => h) rfl ?_ hS ?_
          rotate_left
          · intro W' hW'
            obtain ⟨s0, s1⟩ := hW'
            all_goals (go_simp; first | done | rfl)
          intro l' hl
          dsimp only [List.set_cons_succ, List.set_cons_zero] at hl
          subst hl
          refine anyX_takeNL 5 (v := ?_) rfl rfl (by as_aux_lemma => kernel_rfl) (by as_aux_lemma => kernel_rfl) (by as_aux_lemma => kernel_rfl) (by as_aux_lemma => kernel_rfl) (by as_aux_lemma => kernel_rfl) (fun _ _ _ h => h) rfl ?_ hS ?_
          rotate_left
          · intro W' hW'
            obtain ⟨s0, s1⟩ := hW'
            all_goals (go_simp; first | done | rfl)
          intro l' hl
          dsimp only [List.set_cons_succ, List.set_cons_zero] at hl
          subst hl
          refine anyX_takeNL 6 (v := ?_) rfl rfl (by as_aux_lemma => kernel_rfl) (by as_aux_lemma => kernel_rfl) (by as_aux_lemma => kernel_rfl) (by as_aux_lemma => kernel_rfl) (by as_aux_lemma => kernel_rfl) (fun _ _ _ h => h) rfl ?_ hS ?_
          rotate_left
          · intro W' hW'
            obtain ⟨s0, s1⟩ := hW'
            all_goals (go_simp; first | done | rfl)
          intro l' hl
          dsimp only [List.set_cons_succ, List.set_cons_zero] at hl
          subst hl
          refine anyX_takeNL 7 (v := ?_) rfl rfl (by as_aux_lemma => kernel_rfl) (by as_aux_lemma => kernel_rfl) (by as_aux_lemma => kernel_rfl) (by as_aux_lemma => kernel_rfl) (by as_aux_lemma => kernel_rfl) (fun _ _ _ h => h) rfl ?_ hS ?_
          rotate_left
          · intro W' hW'
            obtain ⟨s0, s1⟩ := hW'
            all_goals (go_simp; first | done | rfl)
          intro l' hl
          dsimp only [List.set_cons_succ, List.set_cons_zero] at hl
          subst hl
          refine anyX_takeNL 8 (v := ?_) rfl rfl (by as_aux_lemma => kernel_rfl) (by as_aux_lemma => kernel_rfl) (by as_aux_lemma => kernel_rfl) (by as_aux_lemma => kernel_rfl) (by as_aux_lemma => kernel_rfl) (fun _ _ _ h => h) rfl ?_ hS ?_
          rotate_left
          · intro W' hW'
            obtain ⟨s0, s1⟩ := hW'
            all_goals (go_simp; first | done | rfl)
          intro l' hl
          dsimp only [List.set_cons_succ, List.set_cons_zero] at hl
          subst hl
          refine anyX_takeNL 9 (v := ?_) rfl rfl (by as_aux_lemma => kernel_rfl) (by as_aux_lemma => kernel_rfl) (by as_aux_lemma => kernel_rfl) (by as_aux_lemma => kernel_rfl) (by as_aux_lemma => kernel_rfl) (fun _ _ _ h => h) rfl ?_ hS ?_
          rotate_left
          · intro W' hW'
            obtain ⟨s0, s1⟩ := hW'
            all_goals (go_simp; first | done | rfl)
          intro l' hl
          dsimp only [List.set_cons_succ, List.set_cons_zero] at hl
          subst hl
          refine anyX_takeNL 10 (v := ?_) rfl rfl (by as_aux_lemma => kernel_rfl) (by as_aux_lemma => kernel_rfl) (by as_aux_lemma => kernel_rfl) (by as_aux_lemma => kernel_rfl) (by as_aux_lemma => kernel_rfl) (fun _ _ _ h => h) rfl ?_ hS ?_
          rotate_left
          · intro W' hW'
            obtain ⟨s0, s1⟩ := hW'
            all_goals (go_simp; first | done | rfl)
          intro l' hl
          dsimp only [List.set_cons_succ, List.set_cons_zero] at hl
          subst hl
          refine anyX_takeNL 11 (v := ?_) rfl rfl (by as_aux_lemma => kernel_rfl) (by as_aux_lemma => kernel_rfl) (by as_aux_lemma => kernel_rfl) (by as_aux_lemma => kernel_rfl) (by as_aux_lemma => kernel_rfl) (fun _ _ _ h => h) rfl ?_ hS ?_
          rotate_left
          · intro W' hW'
            obtain ⟨s0, s1⟩ := hW'
            all_goals (go_simp; first | done | rfl)
          intro l' hl
          dsimp only [List.set_cons_succ, List.set_cons_zero] at hl
          subst hl
          obtain ⟨uz, cz⟩ := Option.isSome_iff_exists.1 htc
          refine anyX_one (i := 12) (by kernel_rfl) rfl rfl fun K' hK' => ?_
          unfold Oper.wp
          go_simp
          refine hK' _ _ (fun hf => by cases hf) (anyX_done (by kernel_rfl) ?_ _)
          refine NoPanic.normal ?_
          clear hK' K'
          have tk := hps.2.1.turn (oe + t) (.int .i64 (k : Int))
          have he' := hps.2.1.set t (.int .i64 (k : Int))
          rw [css_set1] at he'
          have hps3 : PS w0 (w5.setCell ⟨be, oe + t, none⟩ (.int .i64 (k : Int))) OW1 g (.slice (some ⟨bp, op, none⟩) xs.length c) (.slice (some ⟨be, oe, none⟩) xs.length ce) xs (E.set t (k : Int)) 0 false (Value.func (.func 48) #[] #[.pointer (some ⟨G, 0, none⟩)]) told := ⟨⟨hps.1.1.keep tk (by simp), hps.1.2.keep tk (by simp) (by simp)⟩, he', hps.2.2.trans (tk.up (by simp))⟩
          have tt3 := tt.trans (tk.up (p := [1]) (by simp))
          have hop3 := hop.keep tk (by simp)
          have htk2 : st'.length ≤ st'.length + 1 := by omega
          have hop4 := hop3.take st'.length htk2
          have hop5 : Row (w5.setCell ⟨be, oe + t, none⟩ (.int .i64 (k : Int))) OW1 [1, 5] 3 1 (.slice (some ⟨bo, oo, none⟩) st'.length co) st'.length (EInt.css (ints st')) := by
            have e : (EInt.css (ints st' ++ [(t : Int)])).take (st'.length * 1) = EInt.css (ints st') := by
              rw [← EInt.css_take, List.take_append_of_le_length (by rw [ints_length]; exact Nat.le_refl _), List.take_of_length_le (by rw [ints_length]; exact Nat.le_refl _)]
            rw [← e]; exact hop4
          have HH := Lib.hid (And.intro hop5 (And.intro hps3 tt3))
          have hEl2 : (E.set t (k : Int)).length = xs.length := by rw [List.length_set]; exact hEl
          clear tk he' hps3 tt3 hop3 hop4 hop5 hps hop tt hS fz lz htc cz
          go_wp2
          go_roundg (xs.length - (k + 1))
          case measure => have := Hgn.out; omega
          case rel => exact ⟨k + 1, st', E.set t (k : Int), OW1, rfl, by omega, by go_num, hEl2, fun u hu => by have := Hst.out u (List.mem_cons_of_mem _ hu); omega, by simp at hsk; omega, HC2.out, HE2.out, HH.out.1, HH.out.2.1, HH.out.2.2⟩
        · have e11 : (kind == 11) = false := beq_eq_false_iff_ne.2 h11
          have hcg := HCG.out
          have hen := HEN.out
          rw [checkG_other h10 h11 hcg] at hcg
          rw [endsG_other h10 h11] at hen
          have HC2 := Lib.hid hcg
          have HE2 := Lib.hid hen
          have HH := Lib.hid (And.intro hop (And.intro hps tt))
          clear hop hps tt hcg hen HCG HEN
          go_wp2
          go_roundg (xs.length - (k + 1))
          case measure => have := Hgn.out; omega
          case rel => exact ⟨k + 1, st, E, OW1, rfl, by omega, by go_num, hEl, fun t ht => by have := Hst.out t ht; omega, by omega, HC2.out, HE2.out, HH.out.1, HH.out.2.1, HH.out.2.2⟩
    · obtain rfl : k = xs.length := by omega
      rw [List.drop_eq_nil_of_le (Nat.le_refl _)] at hcg hen
      change E = endsB xs at hen
      subst hen
      have hpart := part w0 g (.slice A xs.length c) (.slice Ae xs.length ce) xs (endsB xs) (Value.func (.func 48) #[] #[.pointer (some ⟨G, 0, none⟩)]) Hrd.out hn hE HN.out (xs.length + 1) wr OW 0 xs.length 0 told (Nat.zero_le _) (Nat.le_refl _) HNS.out (by omega) Htb.out hps
      have hps0 := hps
      have HP := Lib.hid hpart
      have HT := Lib.hid tt
      clear hpart hps tt hps0 hop hcg
      have hall : runG (segE xs (endsB xs) (xs.length + 1) 0 xs.length) 0 = allE xs := rfl
      rw [hall] at HP
      obtain ⟨N, hN2⟩ : ∃ N, walkN xs = N := ⟨_, rfl⟩
      obtain ⟨T, hT2⟩ : ∃ T, walkT xs = T := ⟨_, rfl⟩
      have hlen := runG_len (segE xs (endsB xs) (xs.length + 1) 0 xs.length) 0 (by omega)
      rw [hall] at hlen
      unfold walkN at hN2
      unfold walkT at hT2
      have hgoal : ∀ e w', WalkP w0 w ow xs (Value.func (.func 48) #[] #[.pointer (some ⟨G, 0, none⟩)]) told e w' = ∃ OW, e = .returned (.tuple #[.int .i64 (walkN xs).1, .int .i64 (walkN xs).2]) ∧ TL w' OW (Value.func (.func 48) #[] #[.pointer (some ⟨G, 0, none⟩)]) (addT told (walkT xs)) ∧ Turn [1] w ow w' OW := fun _ _ => rfl
      go_wp2_with fail
      refine HP.out.mono ?_
      rintro e w5 ⟨OW5, rfl, hp5, t5⟩
      rw [Nat.zero_add] at hp5
      have tt5 := HT.out.trans (t5.up (by simp))
      clear HP HT t5
      cases hm : (allE xs).2.2 with
      | false =>
        rw [if_neg (by rw [hm]; simp)] at hN2
        rw [if_neg (by rw [hm]; simp)] at hT2
        have d1 := hp5.1.1.get 1 rfl
        have d2 := hp5.1.1.get 2 rfl
        simp only [Nat.zero_add] at d1 d2
        cases hov : (allE xs).2.1 with
        | true =>
          rw [hov] at hN2 d2
          rw [if_pos rfl] at hN2
          have hwn : walkN xs = (0, 5) := by unfold walkN; rw [if_neg (by rw [hm]; simp), if_pos hov]
          have hwt : walkT xs = (allE xs).1 := by unfold walkT; rw [if_neg (by rw [hm]; simp)]
          have HH := Lib.hid (And.intro hp5.1.2 tt5)
          clear hp5 tt5 hN2 hT2 hgoal
          as_aux_lemma =>
          go_wp2
          go_ret2
          exact ⟨OW5, by rw [hwn]; rfl, by rw [hwt]; exact HH.out.1, HH.out.2⟩
        | false =>
          rw [hov] at d2
          have hwn : walkN xs = (((allE xs).1.length : Int), 0) := by unfold walkN; rw [if_neg (by rw [hm]; simp), if_neg (by rw [hov]; simp)]
          have hwt : walkT xs = (allE xs).1 := by unfold walkT; rw [if_neg (by rw [hm]; simp)]
          have HH := Lib.hid (And.intro hp5.1.2 tt5)
          clear hp5 tt5 hN2 hT2 hgoal
          as_aux_lemma =>
          go_wp2
          go_ret2
          exact ⟨OW5, by rw [hwn]; rfl, by rw [hwt]; exact HH.out.1, HH.out.2⟩
      | true =>
        have hmo := runG_more (segE xs (endsB xs) (xs.length + 1) 0 xs.length) 0 (by rw [hall]; exact hm)
        rw [hall] at hmo
        rw [hmo.2] at hp5
        have htb5 := Htb.out.add (allE xs).1
        rw [Nat.zero_add] at htb5
        by_cases hk : (allE xs).1.length = 4096
        · rw [hk] at hp5
          have HS := Lib.hid (stepO ⟨9, 0, 0, 0⟩ hp5)
          have hwn : walkN xs = (0, 5) := by unfold walkN; rw [if_pos hm, if_pos hk]
          have hwt : walkT xs = (allE xs).1 := by unfold walkT; rw [if_neg (by intro h; exact h.2 hk)]
          clear hp5 hN2 hT2 hgoal
          as_aux_lemma =>
          go_wp2_with fail
          refine HS.out.mono ?_
          rintro e w6 ⟨OW6, rfl, hp6, t6⟩
          have tt6 := tt5.trans (t6.up (by simp))
          have d1 := hp6.1.1.get 1 rfl
          have d2 := hp6.1.1.get 2 rfl
          simp only [Nat.zero_add] at d1 d2
          have HH := Lib.hid (And.intro hp6.1.2 tt6)
          clear hp6 tt5 tt6 t6 HS
          go_wp2
          go_ret2
          exact ⟨OW6, by rw [hwn]; rfl, by rw [hwt]; exact HH.out.1, HH.out.2⟩
        · have HS := Lib.hid (stepP ⟨9, 0, 0, 0⟩ hp5 hk (by omega) htb5)
          have hwn : walkN xs = (((allE xs).1.length : Int) + 1, 0) := by unfold walkN; rw [if_pos hm, if_neg hk]
          have hwt : walkT xs = (allE xs).1 ++ [⟨9, 0, 0, 0⟩] := by unfold walkT; rw [if_pos ⟨hm, hk⟩]
          clear hp5 hN2 hT2 hgoal
          as_aux_lemma =>
          go_wp2_with fail
          refine HS.out.mono ?_
          rintro e w6 ⟨OW6, rfl, hp6, t6⟩
          have tt6 := tt5.trans (t6.up (by simp))
          have d1 := hp6.1.1.get 1 rfl
          have d2 := hp6.1.1.get 2 rfl
          simp only [Nat.zero_add] at d1 d2
          have ez : (((allE xs).1.length + 1 : Nat) : Int) = ((allE xs).1.length : Int) + 1 := by omega
          obtain ⟨Ln, hLn⟩ : ∃ Ln, ((allE xs).1.length : Int) + 1 = Ln := ⟨_, rfl⟩
          rw [ez, hLn] at d1
          rw [hLn] at hwn
          clear ez hLn
          rw [addT_add] at hp6
          have HH := Lib.hid (And.intro hp6.1.2 tt6)
          clear hp6 tt5 tt6 t6 HS
          go_wp2
          go_ret2
          exact ⟨OW6, by rw [hwn]; rfl, by rw [hwt]; exact HH.out.1, HH.out.2⟩
end CD
end Go.Proofs.YtnehiooioodkfaaDoor
