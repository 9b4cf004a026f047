/-
  CODE: the law CodeBack (printed by gen/codeBack.py).
-/
import Derived.Test.YtnehiooioodkfaaDoorKW
import Derived.Test.YtnehiooioodkfaaDoorPB
import Derived.Test.YtnehiooioodkfaaDoorK3
set_option linter.unusedVariables false
set_option linter.unusedSimpArgs false
namespace Go.Proofs.YtnehiooioodkfaaDoor
open Go Go.RowKit
namespace CD
theorem Rd4.open_ {w : World} {v : Value} {xs : List Op4} (h : Rd4 w v xs) : ∃ A c, v = .slice A xs.length c ∧ (0 < xs.length → ∃ g off, A = some ⟨g, off, none⟩ ∧ ∀ j u, (EOq.css xs)[j]? = some u → w.cell? ⟨g, off + j, none⟩ = some u) := by
  obtain ⟨A, c, rfl, hc, h3⟩ := h
  refine ⟨A, c, rfl, fun h0 => ?_⟩
  obtain ⟨g, off, cap, hv, -, hr⟩ := (h3 h0).at h0
  simp only [Value.slice.injEq] at hv
  exact ⟨g, off, hv.1, hr⟩
set_option maxHeartbeats 1000000 in
theorem same_rd (w : World) (v1 v2 : Value) (xs : List Op4) (hb : xs.length ≤ 1099511627776) (h1 : Rd4 w v1 xs) (h2 : Rd4 w v2 xs) :
    Calls Tryd.prog 18 #[v1, v2] w fun e w' => e = .returned (.bool true) ∧ ∃ k, w' = w.drewN k := by
  obtain ⟨A1, c1, rfl, r1⟩ := h1.open_
  obtain ⟨A2, c2, rfl, r2⟩ := h2.open_
  have R1 := Lib.hid r1
  have R2 := Lib.hid r2
  clear r1 r2 h1 h2
  go_enter Tryd.func18, Tryd.ntmps18
  go_wp2
  go_loopw [5] (fun i wr => ∃ m : Nat, m ≤ xs.length ∧ i = .int .i64 m ∧ ∃ k, wr = w.drewN k) (fun i _ => xs.length - (intOf i).toNat)
  case atStart => exact ⟨0, Nat.zero_le _, rfl, 0, rfl⟩
  case round =>
    obtain ⟨m, hm, rfl, k, rfl⟩ := hrel
    by_cases hlt : m < xs.length
    · obtain ⟨x, hx⟩ : ∃ x, xs[m]? = some x := ⟨_, List.getElem?_eq_getElem hlt⟩
      obtain ⟨g1, o1, rfl, s1⟩ := R1.out (by omega)
      obtain ⟨g2, o2, rfl, s2⟩ := R2.out (by omega)
      have a0 := s1 (m * 4 + 0) _ (EOq.css_at xs m x hx 0 _ rfl (by omega))
      have a1 := s1 (m * 4 + 1) _ (EOq.css_at xs m x hx 1 _ rfl (by omega))
      have a2 := s1 (m * 4 + 2) _ (EOq.css_at xs m x hx 2 _ rfl (by omega))
      have a3 := s1 (m * 4 + 3) _ (EOq.css_at xs m x hx 3 _ rfl (by omega))
      simp only [Nat.add_zero, Nat.mul_one, ← Nat.add_assoc] at a0 a1 a2 a3
      have b0 := s2 (m * 4 + 0) _ (EOq.css_at xs m x hx 0 _ rfl (by omega))
      have b1 := s2 (m * 4 + 1) _ (EOq.css_at xs m x hx 1 _ rfl (by omega))
      have b2 := s2 (m * 4 + 2) _ (EOq.css_at xs m x hx 2 _ rfl (by omega))
      have b3 := s2 (m * 4 + 3) _ (EOq.css_at xs m x hx 3 _ rfl (by omega))
      simp only [Nat.add_zero, Nat.mul_one, ← Nat.add_assoc] at b0 b1 b2 b3
      have i0 : (m : Int) < (xs.length : Int) := by omega
      clear s1 s2 R1 R2 hx
      go_wp2
      go_region
      all_goals
        go_wp2
        exact ⟨⟨m + 1, by omega, by simp, k + 1, rfl⟩, by simp only [intOf]; omega⟩
    · obtain rfl : m = xs.length := by omega
      go_wp2
      go_ret
      exact ⟨rfl, k, rfl⟩
theorem drewN_below (w : World) (k : Nat) : Below w.heap.size w (w.drewN k) := ((New.refl w ow0).drewN k).below
/-! ### What is read holds numbers of an int -/
theorem setF_rg {o : Op4} {k : Nat} {n : Int} (h : Rg o) (hn : -9223372036854775808 ≤ n ∧ n ≤ 9223372036854775807) : Rg (setF o k n) := by
  obtain ⟨h1, h2, h3⟩ := h
  unfold setF
  split
  · exact ⟨hn, h2, h3⟩
  · split
    · exact ⟨h1, hn, h3⟩
    · exact ⟨h1, h2, hn⟩
theorem fields_rg (z : Nat) : ∀ (ks : List Nat) (o : Op4) (ts : List (Nat × List UInt8)) (x : Op4 × List (Nat × List UInt8)), Rg o → fieldsT z ks o ts = .ok x → Rg x.1
  | [], o, ts, x, hr, h => by
    rw [fieldsT] at h
    injection h with h
    subst h
    exact hr
  | k :: r, o, [], x, hr, h => by rw [fieldsT] at h; cases h
  | k :: r, o, (a, w) :: ts, x, hr, h => by
    rw [fieldsT] at h
    cases hn : numC w with
    | none => rw [hn] at h; cases h
    | some n =>
      rw [hn] at h
      simp only at h
      by_cases hf : fieldsB (fixF (setF o k n) k) = true
      · rw [if_pos hf] at h
        exact fields_rg z r _ ts x (setF_rg hr (Lib.atoiAll_bounds (numC_some _ n hn).1)) h
      · rw [if_neg hf] at h; cases h
theorem one_rg {z : Nat} {kind : Int} {opn : Nat} {ts : List (Nat × List UInt8)} {x : Op4 × Nat × List (Nat × List UInt8)} (h : oneT z kind opn ts = .ok x) : Rg x.1 := by
  unfold oneT at h
  cases hf : fieldsT z (fieldsOf kind) ⟨kind, 0, 0, 0⟩ ts with
  | error d => rw [hf] at h; cases h
  | ok y =>
    obtain ⟨o, ts'⟩ := y
    have ho := fields_rg z _ _ _ _ (by unfold Rg; simp only; omega) hf
    rw [hf] at h
    simp only at h ho
    by_cases h10 : kind = 10
    · rw [if_pos h10] at h
      cases ts' with
      | nil => cases h
      | cons c t =>
        obtain ⟨a, w⟩ := c
        simp only at h
        by_cases hw : w = [123]
        · rw [if_pos hw] at h; injection h with h; subst h; exact ho
        · rw [if_neg hw] at h; cases h
    · rw [if_neg h10] at h
      by_cases h11 : kind = 11
      · rw [if_pos h11] at h; injection h with h; subst h; exact ho
      · rw [if_neg h11] at h; injection h with h; subst h; exact ho
theorem par_rg (z : Nat) : ∀ (n : Nat) (ts : List (Nat × List UInt8)) (ops : List Op4) (opn : Nat), ts.length ≤ n → (∀ o ∈ ops, Rg o) → ∀ o ∈ (parT z ts ops opn).1, Rg o
  | n, [], ops, opn, _, hr => by
    rw [parT_nil]
    split
    · exact fun o ho => by cases ho
    · exact hr
  | 0, c :: ts, ops, opn, hn, _ => by simp at hn
  | n + 1, (a, w) :: ts, ops, opn, hn, hr => by
    rw [List.length_cons] at hn
    by_cases hb : beginsG (kindC w) ops.length opn = 0
    · cases ho : oneT z (kindC w) opn ts with
      | error e => rw [parT_err hb ho]; exact fun o ho => by cases ho
      | ok x =>
        have := one_len ho
        rw [parT_ok hb ho]
        refine par_rg z n x.2.2 _ _ (by omega) fun o h => ?_
        rcases List.mem_append.1 h with h | h
        · exact hr o h
        · rw [List.mem_singleton.1 h]; exact one_rg ho
    · rw [parT_wrong hb]; exact fun o ho => by cases ho
theorem parse_rg (s : ByteArray) : ∀ o ∈ (parseB s).1, Rg o := by
  by_cases hs : 4096 < s.size
  · unfold parseB; rw [if_pos hs]; exact fun o ho => by cases ho
  · rw [parseB_par s (by omega)]
    exact par_rg _ _ _ _ _ (Nat.le_refl _) fun o ho => by cases ho
theorem print_err {xs : List Op4} (h : (checkB xs).2 = 0) : (printB xs).2 = 0 ∨ (printB xs).2 = 5 := by
  unfold printB
  rw [if_pos h]
  split
  · exact .inr rfl
  · exact .inl rfl
theorem printB_size (xs : List Op4) : (printB xs).1.size ≤ 4096 := by
  unfold printB
  split
  · split
    · exact Nat.zero_le _
    · rename_i h; show (textB xs).toArray.size ≤ 4096; rw [List.size_toArray]; omega
  · exact Nat.zero_le _
theorem parseB_len (s : ByteArray) : (parseB s).1.length ≤ 256 := by
  by_cases h : (parseB s).2.2 = 0
  · exact (checkB_op.1 (parse_good h)).1
  · rw [parse_no h]; exact Nat.zero_le _
theorem fewB_size (s : ByteArray) (n : Nat) : (fewB s n).size ≤ n := by
  unfold fewB
  split
  · rw [ByteArray.size_extract]; omega
  · omega
set_option maxRecDepth 100000 in
set_option maxHeartbeats 4000000 in
theorem backL (w : World) (hV : VL w) (v0 : Value) (ps0 : List Op4) (h0 : EOq.In w v0 ps0) (hr0 : ∀ o ∈ ps0, Rg o) (s0 : ByteArray) (hs0 : s0.size ≤ maxLen) :
    Calls Tryd.prog 8 #[v0, .string s0] w fun e w' => e = .returned (.bool true) ∧ Below w.heap.size w w' := by
  have hs1 := EOq.few w v0 ps0 300 h0 (by omega)
  have hs2 := few w s0 4096 hs0 (by omega)
  have HS1 := Lib.hid hs1
  have HS2 := Lib.hid hs2
  have HV := Lib.hid hV
  have HR := Lib.hid (fun (W : World) (b : Below w.heap.size w W) => runs W (HV.out.nb b))
  clear hs1 hs2 hV h0 hs0
  go_enter Tryd.func8, Tryd.ntmps8
  go_wp2_with fail
  refine HS1.out.mono ?_
  rintro e w1 ⟨v2, rfl, hin1, hw⟩
  subst w1
  have hpl : (ps0.take 300).length ≤ 300 := List.length_take_le _ _
  have hrg : ∀ o ∈ ps0.take 300, Rg o := fun o ho => hr0 o (List.mem_of_mem_take ho)
  have hp := rd_of_in hin1
  clear HS1 hin1 hr0
  generalize ps0.take 300 = ps at *
  have HP := Lib.hid hp
  clear hp
  go_wp2_with fail
  refine Calls.mono HS2.out ?_
  rintro e w2 ⟨rfl, hw⟩
  subst w2
  have hfs := fewB_size s0 4096
  generalize fewB s0 4096 = src at *
  have hpr := print w _ ps HP.out (by omega) hrg HV.out
  clear HS2
  obtain ⟨A1, c1, rfl, hc1⟩ := HP.out.slice
  go_wp2_with fail
  refine hpr.mono ?_
  rintro e w1 ⟨rfl, b1⟩
  clear hpr
  have HB1 := Lib.hid b1
  clear b1
  by_cases he : (printB ps).2 = 0
  · have hps := parseR w1 (printB ps).1 (by have := printB_size ps; omega) (HV.out.nb HB1.out) (print_back he hrg)
    rw [he]
    generalize (printB ps).1 = txt at *
    have hbb : ((0 : Int) == 0) = true := rfl
    go_wp2_with fail
    refine Calls.mono hps ?_
    rintro e w2 ⟨v3, rfl, r2, b2⟩
    have bd2 := HB1.out.trans (b2.mono HB1.out.size)
    have hsm := same_rd w2 _ v3 ps (by omega) (HP.out.new_ bd2) (rd4 r2)
    obtain ⟨X3, y3, rfl, -⟩ := r2.slice
    have HB2 := Lib.hid bd2
    have HSM := Lib.hid hsm
    clear hps r2 b2 bd2 hsm HB1 HP
    go_wp2_with fail
    refine HSM.out.mono ?_
    rintro e w3 ⟨rfl, k3, hw3⟩
    have HB := Lib.hid (HB2.out.trans ((hw3 ▸ drewN_below w2 k3).mono HB2.out.size))
    clear hw3 HSM HB2 he hrg
    have hpa := parseR w3 src (by omega) (HV.out.nb HB.out) (L := (parseB src).1) (a := (parseB src).2.1) (c := (parseB src).2.2) rfl
    have hgood := parse_good (s := src)
    have hno := parse_no (s := src)
    have hrgl := parse_rg src
    have hll := parseB_len src
    generalize (parseB src).1 = L at *
    generalize (parseB src).2.1 = a at *
    generalize (parseB src).2.2 = c at *
    have HPA := Lib.hid hpa
    clear hpa
    go_wp2_with fail
    refine Calls.mono HPA.out ?_
    rintro e w4 ⟨x4, rfl, r4, b4⟩
    have HB4 := Lib.hid (HB.out.trans (b4.mono HB.out.size))
    clear HPA b4 HB
    by_cases hc : c = 0
    rotate_left
    · have hL := hno hc
      subst hL
      obtain ⟨X4, y4, rfl, -⟩ := r4.slice
      have z1 : (c != 0) = true := by simp [hc]
      have z2 : ((0 : Int) == 0) = true := rfl
      clear r4 hgood hno hrgl
      as_aux_lemma =>
      go_wp2_with fail
      refine (HR.out _ HB4.out).mono ?_
      rintro e w9 ⟨rfl, b9⟩
      go_wp2
      go_ret
      exact ⟨rfl, HB4.out.trans (b9.mono HB4.out.size)⟩
    subst hc
    have hck0 := hgood rfl
    have rd := rd4 r4
    have hck := check w4 x4 L rd (by omega)
    rw [hck0] at hck
    obtain ⟨X4, y4, rfl, -⟩ := r4.slice
    clear r4 hgood hno
    have HRD := Lib.hid rd
    clear rd
    have HCK := Lib.hid hck
    clear hck
    go_wp2_with fail
    refine HCK.out.mono ?_
    rintro e w5 ⟨rfl, b5⟩
    have HB5 := Lib.hid (HB4.out.trans (b5.mono HB4.out.size))
    have HRD5 := Lib.hid (HRD.out.new_ b5)
    clear HCK b5 HB4 HRD
    have hpt := print w5 _ L HRD5.out (by omega) hrgl (HV.out.nb HB5.out)
    have hpe := print_err hck0
    have hpb := fun h => print_back (xs := L) h hrgl
    have hpz := printB_size L
    have hpt2 := fun (W : World) (v : Value) (h : Rd4 W v L) (hv : VL W) => print W v L h (by omega) hrgl hv
    have HPT := Lib.hid hpt
    have HPT2 := Lib.hid hpt2
    clear hpt hpt2
    generalize (printB L).1 = T at *
    generalize (printB L).2 = E2 at *
    go_wp2_with fail
    refine HPT.out.mono ?_
    rintro e w6 ⟨rfl, b6⟩
    have HB6 := Lib.hid (HB5.out.trans (b6.mono HB5.out.size))
    have HRD6 := Lib.hid (HRD5.out.new_ b6)
    clear HPT b6 HB5 HRD5
    rcases hpe with rfl | rfl
    · have hpy := parseR w6 T (by omega) (HV.out.nb HB6.out) (hpb rfl)
      have HPY := Lib.hid hpy
      clear hpy hpb
      go_wp2_with fail
      refine Calls.mono HPY.out ?_
      rintro e w7 ⟨x7, rfl, r7, b7⟩
      have HB7 := Lib.hid (HB6.out.trans (b7.mono HB6.out.size))
      have HRD7 := Lib.hid (HRD6.out.new_ b7)
      have rdy := rd4 r7
      obtain ⟨X7, y7, rfl, -⟩ := r7.slice
      have hpu := HPT2.out w7 _ rdy (HV.out.nb HB7.out)
      have HRY := Lib.hid rdy
      have HPU := Lib.hid hpu
      clear HPY b7 HB6 HRD6 r7 rdy hpu HPT2
      go_wp2_with fail
      refine HPU.out.mono ?_
      rintro e w8 ⟨rfl, b8⟩
      have HB8 := Lib.hid (HB7.out.trans (b8.mono HB7.out.size))
      have hsm := same_rd w8 _ _ L (by omega) (HRD7.out.new_ b8) (HRY.out.new_ b8)
      have HSM := Lib.hid hsm
      have hseq : (T.toList == T.toList) = true := beq_self_eq_true _
      clear HPU b8 HB7 HRD7 HRY hsm
      go_wp2_with fail
      refine HSM.out.mono ?_
      rintro e w9 ⟨rfl, k9, hw9⟩
      have HB9 := Lib.hid (HB8.out.trans ((hw9 ▸ drewN_below w8 k9).mono HB8.out.size))
      clear hw9 HSM HB8
      go_wp2_with fail
      refine (HR.out _ HB9.out).mono ?_
      rintro e w10 ⟨rfl, b10⟩
      go_wp2
      go_ret
      exact ⟨rfl, HB9.out.trans (b10.mono HB9.out.size)⟩
    · as_aux_lemma =>
      go_wp2_with fail
      refine (HR.out _ HB6.out).mono ?_
      rintro e w10 ⟨rfl, b10⟩
      go_wp2
      go_ret
      exact ⟨rfl, HB6.out.trans (b10.mono HB6.out.size)⟩
  · have hb : ((printB ps).2 == 0) = false := beq_eq_false_iff_ne.2 he
    generalize (printB ps).2 = E at *
    generalize (printB ps).1 = txt at *
    have HB := HB1
    clear HB1 HP hrg
    generalize w1 = w3 at *
    have hpa := parseR w3 src (by omega) (HV.out.nb HB.out) (L := (parseB src).1) (a := (parseB src).2.1) (c := (parseB src).2.2) rfl
    have hgood := parse_good (s := src)
    have hno := parse_no (s := src)
    have hrgl := parse_rg src
    have hll := parseB_len src
    generalize (parseB src).1 = L at *
    generalize (parseB src).2.1 = a at *
    generalize (parseB src).2.2 = c at *
    have HPA := Lib.hid hpa
    clear hpa
    go_wp2_with fail
    refine Calls.mono HPA.out ?_
    rintro e w4 ⟨x4, rfl, r4, b4⟩
    have HB4 := Lib.hid (HB.out.trans (b4.mono HB.out.size))
    clear HPA b4 HB
    by_cases hc : c = 0
    rotate_left
    · have hL := hno hc
      subst hL
      obtain ⟨X4, y4, rfl, -⟩ := r4.slice
      have z1 : (c != 0) = true := by simp [hc]
      have z2 : ((0 : Int) == 0) = true := rfl
      clear r4 hgood hno hrgl
      as_aux_lemma =>
      go_wp2_with fail
      refine (HR.out _ HB4.out).mono ?_
      rintro e w9 ⟨rfl, b9⟩
      go_wp2
      go_ret
      exact ⟨rfl, HB4.out.trans (b9.mono HB4.out.size)⟩
    subst hc
    have hck0 := hgood rfl
    have rd := rd4 r4
    have hck := check w4 x4 L rd (by omega)
    rw [hck0] at hck
    obtain ⟨X4, y4, rfl, -⟩ := r4.slice
    clear r4 hgood hno
    have HRD := Lib.hid rd
    clear rd
    have HCK := Lib.hid hck
    clear hck
    go_wp2_with fail
    refine HCK.out.mono ?_
    rintro e w5 ⟨rfl, b5⟩
    have HB5 := Lib.hid (HB4.out.trans (b5.mono HB4.out.size))
    have HRD5 := Lib.hid (HRD.out.new_ b5)
    clear HCK b5 HB4 HRD
    have hpt := print w5 _ L HRD5.out (by omega) hrgl (HV.out.nb HB5.out)
    have hpe := print_err hck0
    have hpb := fun h => print_back (xs := L) h hrgl
    have hpz := printB_size L
    have hpt2 := fun (W : World) (v : Value) (h : Rd4 W v L) (hv : VL W) => print W v L h (by omega) hrgl hv
    have HPT := Lib.hid hpt
    have HPT2 := Lib.hid hpt2
    clear hpt hpt2
    generalize (printB L).1 = T at *
    generalize (printB L).2 = E2 at *
    go_wp2_with fail
    refine HPT.out.mono ?_
    rintro e w6 ⟨rfl, b6⟩
    have HB6 := Lib.hid (HB5.out.trans (b6.mono HB5.out.size))
    have HRD6 := Lib.hid (HRD5.out.new_ b6)
    clear HPT b6 HB5 HRD5
    rcases hpe with rfl | rfl
    · have hpy := parseR w6 T (by omega) (HV.out.nb HB6.out) (hpb rfl)
      have HPY := Lib.hid hpy
      clear hpy hpb
      go_wp2_with fail
      refine Calls.mono HPY.out ?_
      rintro e w7 ⟨x7, rfl, r7, b7⟩
      have HB7 := Lib.hid (HB6.out.trans (b7.mono HB6.out.size))
      have HRD7 := Lib.hid (HRD6.out.new_ b7)
      have rdy := rd4 r7
      obtain ⟨X7, y7, rfl, -⟩ := r7.slice
      have hpu := HPT2.out w7 _ rdy (HV.out.nb HB7.out)
      have HRY := Lib.hid rdy
      have HPU := Lib.hid hpu
      clear HPY b7 HB6 HRD6 r7 rdy hpu HPT2
      go_wp2_with fail
      refine HPU.out.mono ?_
      rintro e w8 ⟨rfl, b8⟩
      have HB8 := Lib.hid (HB7.out.trans (b8.mono HB7.out.size))
      have hsm := same_rd w8 _ _ L (by omega) (HRD7.out.new_ b8) (HRY.out.new_ b8)
      have HSM := Lib.hid hsm
      have hseq : (T.toList == T.toList) = true := beq_self_eq_true _
      clear HPU b8 HB7 HRD7 HRY hsm
      go_wp2_with fail
      refine HSM.out.mono ?_
      rintro e w9 ⟨rfl, k9, hw9⟩
      have HB9 := Lib.hid (HB8.out.trans ((hw9 ▸ drewN_below w8 k9).mono HB8.out.size))
      clear hw9 HSM HB8
      go_wp2_with fail
      refine (HR.out _ HB9.out).mono ?_
      rintro e w10 ⟨rfl, b10⟩
      go_wp2
      go_ret
      exact ⟨rfl, HB9.out.trans (b10.mono HB9.out.size)⟩
    · as_aux_lemma =>
      go_wp2_with fail
      refine (HR.out _ HB6.out).mono ?_
      rintro e w10 ⟨rfl, b10⟩
      go_wp2
      go_ret
      exact ⟨rfl, HB6.out.trans (b10.mono HB6.out.size)⟩
end CD
end Go.Proofs.YtnehiooioodkfaaDoor
