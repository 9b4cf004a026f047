/-
  CODE: the document's Number.
-/
import Derived.Test.YtnehiooioodkfaaDoorKN
import Derived.Test.YtnehiooioodkfaaDoorK6
import Derived.Deep.CutRange
import Derived.Deep.CutBlock
set_option linter.unusedVariables false
set_option linter.unusedSimpArgs false
namespace Go.Proofs.YtnehiooioodkfaaDoor
open Go Go.RowKit
namespace CR
open CD
theorem digs_ge : ∀ (l : List UInt8) (acc u : Nat), digs l acc = some u → acc * 10 ^ l.length ≤ u
  | [], acc, u, h => by
    rw [digs] at h
    injection h with h
    subst h
    simp
  | c :: r, acc, u, h => by
    rw [digs] at h
    by_cases hd : isD c
    · rw [if_pos hd] at h
      have ih := digs_ge r _ u h
      rw [List.length_cons, Nat.pow_succ]
      refine Nat.le_trans ?_ ih
      rw [Nat.mul_comm (10 ^ r.length) 10, ← Nat.mul_assoc]
      exact Nat.mul_le_mul_right _ (by omega)
    · rw [if_neg hd] at h; cases h
def numR (neg : Bool) (D : Option Nat) : Option Int := match D with
  | none => none
  | some u => if neg = true then (if u ≤ 9223372036854775808 then some (-(u : Int)) else none) else (if u < 9223372036854775808 then some (u : Int) else none)
def badD (neg : Bool) (d : List UInt8) : Prop := d = [] ∨ 19 < d.length ∨ (∃ r, d = 48 :: r ∧ (r ≠ [] ∨ neg = true))
theorem long_none {c : UInt8} {r : List UInt8} (hc : c.toNat ≠ 48) (h : 19 < (c :: r).length) {u : Nat} (hu : digs (c :: r) 0 = some u) : 10000000000000000000 ≤ u := by
  rw [digs] at hu
  by_cases hd : isD c
  · rw [if_pos hd] at hu
    have := digs_ge r _ u hu
    have h1 : 1 ≤ 0 * 10 + (c.toNat - 48) := by unfold isD at hd; omega
    rw [List.length_cons] at h
    have h2 : (10 : Nat) ^ 19 ≤ 10 ^ r.length := Nat.pow_le_pow_right (by omega) (by omega)
    have h3 : 1 * 10 ^ r.length ≤ (0 * 10 + (c.toNat - 48)) * 10 ^ r.length := Nat.mul_le_mul_right _ h1
    have h4 : (10 : Nat) ^ 19 = 10000000000000000000 := by decide
    omega
  · rw [if_neg hd] at hu; cases hu
theorem numC_pos (c : UInt8) (r : List UInt8) (h : c.toNat ≠ 45) : numC (c :: r) = if c.toNat = 48 then (if r = [] then some 0 else none) else match digs (c :: r) 0 with
      | some u => if u < 9223372036854775808 then some (u : Int) else none
      | none => none := by
  show (if c.toNat = 45 then _ else _) = _
  rw [if_neg h]
  rfl
theorem numC_neg (c : UInt8) (r : List UInt8) : numC (45 :: c :: r) = if c.toNat = 48 then none else match digs (c :: r) 0 with
        | some u => if u ≤ 9223372036854775808 then some (-(u : Int)) else none
        | none => none := by
  unfold numC
  simp only
  rw [if_pos (by decide)]
  rfl
theorem num_bad_pos {d : List UInt8} (h : badD false d) (h45 : ∀ r, d ≠ 45 :: r) : numC d = none := by
  cases d with
  | nil => rfl
  | cons c r =>
    have hc45 : c.toNat ≠ 45 := fun e => h45 r (by rw [show c = 45 from UInt8.toNat_inj.1 e])
    rw [numC_pos c r hc45]
    by_cases h48 : c.toNat = 48
    · rw [if_pos h48, if_neg]
      intro hr
      subst hr
      rcases h with h | h | ⟨r', h, hh⟩
      · cases h
      · simp at h
      · injection h with h1 h2
        subst h2
        rcases hh with hh | hh
        · exact hh rfl
        · cases hh
    · rw [if_neg h48]
      cases hd : digs (c :: r) 0 with
      | none => rfl
      | some u =>
        rcases h with h | h | ⟨r', h, hh⟩
        · cases h
        · have := long_none h48 h hd
          simp only
          rw [if_neg (by omega)]
        · injection h with h1 h2
          exact absurd (by rw [h1]; rfl) h48
theorem num_bad_neg {d : List UInt8} (h : badD true d) : numC (45 :: d) = none := by
  cases d with
  | nil => rfl
  | cons c r =>
    rw [numC_neg]
    by_cases h48 : c.toNat = 48
    · rw [if_pos h48]
    · rw [if_neg h48]
      cases hd : digs (c :: r) 0 with
      | none => rfl
      | some u =>
        rcases h with h | h | ⟨r', h, hh⟩
        · cases h
        · have := long_none h48 h hd
          simp only
          rw [if_neg (by omega)]
        · injection h with h1 h2
          exact absurd (by rw [h1]; rfl) h48
theorem num_ok_pos {d : List UInt8} (h : ¬ badD false d) (h45 : ∀ r, d ≠ 45 :: r) : numC d = numR false (digs d 0) := by
  cases d with
  | nil => exact absurd (.inl rfl) h
  | cons c r =>
    have hc45 : c.toNat ≠ 45 := fun e => h45 r (by rw [show c = 45 from UInt8.toNat_inj.1 e])
    rw [numC_pos c r hc45]
    by_cases h48 : c.toNat = 48
    · have hr : r = [] := Decidable.byContradiction fun e => h (.inr (.inr ⟨r, by rw [show c = 48 from UInt8.toNat_inj.1 h48], .inl e⟩))
      subst hr
      rw [if_pos h48, if_pos rfl, digs, if_pos (by unfold isD; omega), digs, h48]
      rfl
    · rw [if_neg h48]
      cases digs (c :: r) 0 with
      | none => rfl
      | some u => rfl
theorem num_ok_neg {d : List UInt8} (h : ¬ badD true d) : numC (45 :: d) = numR true (digs d 0) := by
  cases d with
  | nil => exact absurd (.inl rfl) h
  | cons c r =>
    rw [numC_neg]
    have h48 : c.toNat ≠ 48 := fun e => h (.inr (.inr ⟨r, by rw [show c = 48 from UInt8.toNat_inj.1 e], .inr rfl⟩))
    rw [if_neg h48]
    cases digs (c :: r) 0 with
    | none => rfl
    | some u => rfl
set_option maxRecDepth 100000 in
set_option maxHeartbeats 4000000 in
theorem rnumber (w : World) (s : ByteArray) (hs : s.size ≤ 100000) : Calls Tryd.prog 53 #[.string s] w fun e w' => (∃ n, e = .returned (.tuple #[.int .i64 n, .bool (numC s.data.toList).isSome]) ∧ ∀ v, numC s.data.toList = some v → n = v) ∧ w' = w := by
  obtain ⟨R, hR⟩ : ∃ R, numC s.data.toList = R := ⟨_, rfl⟩
  rw [hR]
  obtain ⟨neg, D, hnd, hbad, hok⟩ : ∃ (neg : Bool) (D : ByteArray), ((neg = true ∧ (∃ h : 0 < s.size, s[0].toNat = 45) ∧ D = s.extract 1 s.size) ∨ (neg = false ∧ (∀ h : 0 < s.size, s[0].toNat ≠ 45) ∧ D = s)) ∧ (badD neg D.data.toList → R = none) ∧ (¬ badD neg D.data.toList → R = numR neg (digs D.data.toList 0)) := by
    by_cases h45 : ∃ h : 0 < s.size, s[0].toNat = 45
    · obtain ⟨h0, h45⟩ := h45
      have hd : (s.extract 1 s.size).data.toList = s.data.toList.drop 1 := by
        have e : (s.extract 1 s.size).data.toList = (s.data.toList.drop 1).take (s.size - 1) := by simp [List.extract_eq_take_drop]
        rw [e, List.take_of_length_le (by simp)]
      have hc : s.data.toList = 45 :: (s.extract 1 s.size).data.toList := by
        rw [hd]
        have := List.drop_eq_getElem_cons (l := s.data.toList) (i := 0) (by simpa using h0)
        rw [List.drop_zero] at this
        rw [this]
        congr 1
        exact UInt8.toNat_inj.1 h45
      rw [hc] at hR
      exact ⟨true, s.extract 1 s.size, .inl ⟨rfl, ⟨h0, h45⟩, rfl⟩, fun h => by rw [← hR]; exact num_bad_neg h, fun h => by rw [← hR]; exact num_ok_neg h⟩
    · have hn : ∀ r, s.data.toList ≠ 45 :: r := fun r e => by
        have hl := congrArg List.length e
        have h0 : 0 < s.size := by rw [Array.length_toList] at hl; show 0 < s.data.size; rw [hl]; exact Nat.succ_pos _
        refine h45 ⟨h0, ?_⟩
        have h1 : s.data.toList[0]? = some s[0] := by
          rw [List.getElem?_eq_getElem (by simpa using h0)]
          rfl
        rw [e] at h1
        simp only [List.getElem?_cons_zero, Option.some.injEq] at h1
        rw [← h1]
        rfl
      exact ⟨false, s, .inr ⟨rfl, fun h0 h => h45 ⟨h0, h⟩, rfl⟩, fun h => by rw [← hR]; exact num_bad_pos h hn, fun h => by rw [← hR]; exact num_ok_pos h hn⟩
  have HND := Lib.hid hnd
  have HBAD := Lib.hid hbad
  have HOK := Lib.hid hok
  have hDs : D.size ≤ s.size := by
    rcases hnd with ⟨-, -, rfl⟩ | ⟨-, -, rfl⟩
    · rw [ByteArray.size_extract]; omega
    · exact Nat.le_refl _
  clear hR hnd hbad hok
  go_enter Tryd.func53, Tryd.ntmps53
  go_upto_region 1 with fail
  go_cut [4] from 8 to 15 (fun b wx => b = .bool neg ∧ wx = w)
  case first =>
    rcases HND.out with ⟨rfl, ⟨h0, h45⟩, -⟩ | ⟨rfl, h45, -⟩
    · have i0 : (0 : Int) < (s.size : Int) := by omega
      have e45 : ((s[0].toNat : Int) == 45) = true := beq_iff_eq.2 (by omega)
      as_aux_lemma =>
      go_wp2
      go_meet
      exact ⟨rfl, rfl⟩
    · by_cases h0 : 0 < s.size
      · have i0 : (0 : Int) < (s.size : Int) := by omega
        have e45 : ((s[0].toNat : Int) == 45) = false := beq_eq_false_iff_ne.2 (by have := h45 h0; omega)
        as_aux_lemma =>
        go_wp2
        go_meet
        exact ⟨rfl, rfl⟩
      · have i0 : ¬ (0 : Int) < (s.size : Int) := by omega
        as_aux_lemma =>
        go_wp2
        go_meet
        exact ⟨rfl, rfl⟩
  case rest =>
    obtain ⟨hb, hwc⟩ := hcut
    subst hb
    subst wc
    go_upto_if 17 with fail
    go_cut [5] from 17 to 19 (fun d wx => d = .string D ∧ wx = w)
    case first =>
      rcases HND.out with ⟨rfl, ⟨h0, h45⟩, rfl⟩ | ⟨rfl, h45, rfl⟩
      · have i1 : (1 : Int) ≤ (s.size : Int) := by omega
        as_aux_lemma =>
        go_wp2
        go_meet
        exact ⟨rfl, rfl⟩
      · as_aux_lemma =>
        go_wp2
        go_meet
        exact ⟨rfl, rfl⟩
    case rest =>
      obtain ⟨hb, hwc⟩ := hcut
      subst hb
      subst wc
      have hdl : D.data.toList.length = D.size := by rw [Array.length_toList]; rfl
      obtain ⟨bl, hbl⟩ : ∃ bl : Bool, (bl = true ↔ badD neg D.data.toList) := by
        by_cases h : badD neg D.data.toList
        · exact ⟨true, ⟨fun _ => h, fun _ => rfl⟩⟩
        · exact ⟨false, ⟨(fun h => by cases h), fun hh => absurd hh h⟩⟩
      have hat : ∀ (h : 0 < D.size), D.data.toList = D[0] :: D.data.toList.drop 1 := fun h => by
        have := List.drop_eq_getElem_cons (l := D.data.toList) (i := 0) (by simpa using h)
        rw [List.drop_zero] at this
        exact this
      clear HND
      have HBL := Lib.hid hbl
      clear hbl
      go_upto_region 5 with fail
      go_cut [40] from 20 to 40 (fun b wx => b = .bool bl ∧ wx = w)
      case first =>
        by_cases h0 : D.size = 0
        · have hb : bl = true := HBL.out.2 (.inl (List.eq_nil_of_length_eq_zero (by rw [hdl]; exact h0)))
          subst hb
          have z0 : ((D.size : Int) == 0) = true := beq_iff_eq.2 (by omega)
          as_aux_lemma =>
          go_wp2
          go_meet
          exact ⟨rfl, rfl⟩
        have hp : 0 < D.size := by omega
        have z0 : ((D.size : Int) == 0) = false := beq_eq_false_iff_ne.2 (by omega)
        by_cases h19 : 19 < D.size
        · have hb : bl = true := HBL.out.2 (.inr (.inl (by rw [hdl]; exact h19)))
          subst hb
          have i19 : (19 : Int) < (D.size : Int) := by omega
          as_aux_lemma =>
          go_wp2
          go_meet
          exact ⟨rfl, rfl⟩
        have i19 : ¬ (19 : Int) < (D.size : Int) := by omega
        have i0 : (0 : Int) < (D.size : Int) := by omega
        by_cases h48 : D[0].toNat = 48
        · have e48 : ((D[0].toNat : Int) == 48) = true := beq_iff_eq.2 (by omega)
          have hh : D.data.toList = 48 :: D.data.toList.drop 1 := by
            have := hat hp
            rw [show D[0] = 48 from UInt8.toNat_inj.1 h48] at this
            exact this
          by_cases h1 : 1 < D.size
          · have hb : bl = true := HBL.out.2 (.inr (.inr ⟨_, hh, .inl fun e => by
              have := congrArg List.length e
              rw [List.length_drop, hdl, List.length_nil] at this
              omega⟩))
            subst hb
            have i1 : (1 : Int) < (D.size : Int) := by omega
            as_aux_lemma =>
            go_wp2
            go_meet
            exact ⟨rfl, rfl⟩
          have i1 : ¬ (1 : Int) < (D.size : Int) := by omega
          cases neg with
          | true =>
            have hb : bl = true := HBL.out.2 (.inr (.inr ⟨_, hh, .inr rfl⟩))
            subst hb
            as_aux_lemma =>
            go_wp2
            go_meet
            exact ⟨rfl, rfl⟩
          | false =>
            have hb : bl = false := by
              cases hbl : bl with
              | false => rfl
              | true =>
                rcases HBL.out.1 hbl with h | h | ⟨r, h, h' | h'⟩
                · rw [h] at hdl; simp at hdl; omega
                · omega
                · rw [hh] at h
                  injection h with _ h
                  rw [← h] at h'
                  exact absurd (List.drop_eq_nil_of_le (by rw [hdl]; omega)) h'
                · cases h'
            subst hb
            as_aux_lemma =>
            go_wp2
            go_meet
            exact ⟨rfl, rfl⟩
        · have e48 : ((D[0].toNat : Int) == 48) = false := beq_eq_false_iff_ne.2 (by omega)
          have hb : bl = false := by
            cases hbl : bl with
            | false => rfl
            | true =>
              rcases HBL.out.1 hbl with h | h | ⟨r, h, -⟩
              · rw [h] at hdl; simp at hdl; omega
              · omega
              · rw [hat hp] at h
                injection h with h _
                exact absurd (by rw [h]; rfl) h48
          subst hb
          as_aux_lemma =>
          go_wp2
          go_meet
          exact ⟨rfl, rfl⟩
      case rest =>
        obtain ⟨hb, hwc⟩ := hcut
        subst hb
        subst wc
        cases bl with
        | true =>
          have hR := HBAD.out (HBL.out.1 rfl)
          subst hR
          clear HBL hat hdl
          as_aux_lemma =>
          go_wp2
          go_ret2
          first | exact ⟨⟨0, rfl, fun v h => by cases h⟩, rfl⟩ | exact ⟨⟨0, rfl⟩, rfl⟩
        | false =>
          have hnb : ¬ badD neg D.data.toList := fun h => by have := HBL.out.2 h; cases this
          have hR := HOK.out hnb
          have h19 : D.size ≤ 19 := Nat.le_of_not_lt fun h => hnb (.inr (.inl (by rw [hdl]; exact h)))
          obtain ⟨Dg, hDg⟩ : ∃ Dg, digs D.data.toList 0 = Dg := ⟨_, rfl⟩
          rw [hDg] at hR
          have HR := Lib.hid hR
          have HDg := Lib.hid hDg
          clear HBL hat hnb hR hDg HOK HBAD
          go_wp2
          go_loopg [6, 7] D.size (fun gn a b wr => ∃ (k u : Nat), gn = D.size - k ∧ k ≤ D.size ∧ a = .int .u64 (u : Int) ∧ b = .int .i64 (k : Int) ∧ digs (D.data.toList.drop k) u = Dg ∧ u < 10 ^ k ∧ wr = w)
          case atStart => exact ⟨0, 0, rfl, Nat.zero_le _, rfl, rfl, HDg.out, by decide, rfl⟩
          case round =>
            obtain ⟨k, u, hgk, hk, rfl, rfl, hdg, hu, hw⟩ := hrel
            subst wr
            have Hgk := Lib.hid hgk
            clear hgk HDg
            by_cases hlt : k < D.size
            · have j0 : (k : Int) < (D.size : Int) := by omega
              have hwk : IntKind.i64.wrap ((k : Int) + 1) = (k : Int) + 1 := by rw [IntKind.wrap_i64]; omega
              have hdr : D.data.toList.drop k = D[k] :: D.data.toList.drop (k + 1) := by
                rw [List.drop_eq_getElem_cons (by simpa using hlt)]
                rfl
              rw [hdr, digs] at hdg
              have hp18 : (10 : Nat) ^ k ≤ 10 ^ 18 := Nat.pow_le_pow_right (by omega) (by omega)
              have hp18' : (10 : Nat) ^ 18 = 1000000000000000000 := by decide
              have hu18 : u < 1000000000000000000 := by omega
              by_cases h48 : D[k].toNat < 48
              · have e1 : (D[k].toNat : Int) < 48 := by omega
                rw [if_neg (by unfold isD; omega)] at hdg
                have hR : R = none := by rw [HR.out, ← hdg]; rfl
                subst hR
                clear HR hdg hdr
                as_aux_lemma =>
                go_wp2
                go_ret2
                first | exact ⟨⟨0, rfl, fun v h => by cases h⟩, rfl⟩ | exact ⟨⟨0, rfl⟩, rfl⟩
              have e1 : ¬ (D[k].toNat : Int) < 48 := by omega
              by_cases h57 : 57 < D[k].toNat
              · have e2 : (57 : Int) < (D[k].toNat : Int) := by omega
                rw [if_neg (by unfold isD; omega)] at hdg
                have hR : R = none := by rw [HR.out, ← hdg]; rfl
                subst hR
                clear HR hdg hdr
                as_aux_lemma =>
                go_wp2
                go_ret2
                first | exact ⟨⟨0, rfl, fun v h => by cases h⟩, rfl⟩ | exact ⟨⟨0, rfl⟩, rfl⟩
              have e2 : ¬ (57 : Int) < (D[k].toNat : Int) := by omega
              rw [if_pos (by unfold isD; omega)] at hdg
              have hun : u * 10 + (D[k].toNat - 48) < 10 ^ (k + 1) := by rw [Nat.pow_succ]; omega
              have m1 : IntKind.u64.wrap ((u : Int) * 10) = (u : Int) * 10 := by rw [IntKind.wrap_u64]; omega
              have m2 : IntKind.u8.wrap ((D[k].toNat : Int) - 48) = (D[k].toNat : Int) - 48 := by rw [IntKind.wrap_u8]; omega
              have m3 : IntKind.u64.wrap ((D[k].toNat : Int) - 48) = (D[k].toNat : Int) - 48 := by rw [IntKind.wrap_u64]; omega
              have m4 : IntKind.u64.wrap ((u : Int) * 10 + ((D[k].toNat : Int) - 48)) = ((u * 10 + (D[k].toNat - 48) : Nat) : Int) := by rw [IntKind.wrap_u64]; omega
              have HDN := Lib.hid hdg
              have HUN := Lib.hid hun
              clear hdg hdr hun hp18 hp18'
              go_wp2
              go_roundg (D.size - (k + 1))
              case measure => have := Hgk.out; omega
              case rel => exact ⟨k + 1, u * 10 + (D[k].toNat - 48), rfl, by omega, rfl, by go_num, HDN.out, HUN.out, rfl⟩
            · obtain rfl : k = D.size := by omega
              have j0 : ¬ (D.size : Int) < (D.size : Int) := by omega
              rw [List.drop_eq_nil_of_le (by rw [hdl]; exact Nat.le_refl _), digs] at hdg
              have hR := HR.out
              rw [← hdg] at hR
              have hp19 : (10 : Nat) ^ D.size ≤ 10 ^ 19 := Nat.pow_le_pow_right (by omega) h19
              have hp19' : (10 : Nat) ^ 19 = 10000000000000000000 := by decide
              have hu19 : u < 10000000000000000000 := by omega
              clear HR hdg hp19 hp19' hu
              unfold numR at hR
              simp only at hR
              cases neg with
              | true =>
                rw [if_pos rfl] at hR
                by_cases hb : u ≤ 9223372036854775808
                · rw [if_pos hb] at hR
                  subst hR
                  have i1 : ¬ (9223372036854775808 : Int) < (u : Int) := by omega
                  obtain ⟨N, hN⟩ : ∃ N, IntKind.u64.wrap (-(u : Int)) = N := ⟨_, rfl⟩
                  have hN2 : IntKind.i64.wrap N = -(u : Int) := by rw [← hN, IntKind.wrap_u64, IntKind.wrap_i64]; omega
                  as_aux_lemma =>
                  go_wp2
                  go_ret2
                  first | exact ⟨⟨_, rfl, fun v h => by injection h with h⟩, rfl⟩ | exact ⟨rfl, rfl⟩ | exact ⟨⟨_, rfl, rfl⟩, rfl⟩
                · rw [if_neg hb] at hR
                  subst hR
                  have i1 : (9223372036854775808 : Int) < (u : Int) := by omega
                  as_aux_lemma =>
                  go_wp2
                  go_ret2
                  first | exact ⟨⟨0, rfl, fun v h => by cases h⟩, rfl⟩ | exact ⟨⟨0, rfl⟩, rfl⟩
              | false =>
                rw [if_neg (by decide)] at hR
                by_cases hb : u < 9223372036854775808
                · rw [if_pos hb] at hR
                  subst hR
                  have i1 : ¬ (9223372036854775808 : Int) ≤ (u : Int) := by omega
                  have hN2 : IntKind.i64.wrap (u : Int) = (u : Int) := by rw [IntKind.wrap_i64]; omega
                  as_aux_lemma =>
                  go_wp2
                  go_ret2
                  first | exact ⟨⟨_, rfl, fun v h => by injection h with h⟩, rfl⟩ | exact ⟨rfl, rfl⟩ | exact ⟨⟨_, rfl, rfl⟩, rfl⟩
                · rw [if_neg hb] at hR
                  subst hR
                  have i1 : (9223372036854775808 : Int) ≤ (u : Int) := by omega
                  as_aux_lemma =>
                  go_wp2
                  go_ret2
                  first | exact ⟨⟨0, rfl, fun v h => by cases h⟩, rfl⟩ | exact ⟨⟨0, rfl⟩, rfl⟩
end CR
end Go.Proofs.YtnehiooioodkfaaDoor
