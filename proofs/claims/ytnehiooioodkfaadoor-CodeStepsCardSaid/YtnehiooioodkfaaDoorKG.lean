/-
  CODE: a part of a program is gone through.
-/
import Derived.Test.YtnehiooioodkfaaDoorKE
import Derived.Test.YtnehiooioodkfaaDoorKF
import Derived.Test.YtnehiooioodkfaaDoorK8
import Derived.Test.YtnehiooioodkfaaDoorEInt
set_option linter.unusedVariables false
set_option linter.unusedSimpArgs false
namespace Go.Proofs.YtnehiooioodkfaaDoor
open Go Go.RowKit
namespace CD
def tb (told : Option (List Op4)) (n : Nat) : Prop := ∀ l, told = some l → l.length ≤ n
theorem tb.add {told : Option (List Op4)} {n : Nat} (h : tb told n) (d : List Op4) : tb (addT told d) (n + d.length) := by
  intro l hl
  cases told with
  | none => cases hl
  | some l0 =>
    simp only [addT, Option.map_some, Option.some.injEq] at hl
    subst hl
    have := h l0 rfl
    simp; omega
theorem step1 (w : World) (ow : Ow) (g : Nat) (pv : Value) (k : Nat) (ev tv : Value) (told : Option (List Op4)) (o : Op4) (h : WS w ow g pv k false ev tv told) (hk : k ≠ 4096) (hk2 : k ≤ 4096) (ht : tb told k) :
    Calls Tryd.prog 63 #[.pointer (some ⟨g, 0, none⟩), .agg #[.int .i64 o.kind, .int .i64 o.res, .int .i64 o.n, .int .i64 o.v]] w fun e w' => ∃ OW, e = .returned (.bool true) ∧ WS w' OW g pv (k + 1) false ev tv (addT told [o]) ∧ Turn [1, 2] w ow w' OW := by
  cases told with
  | none => exact step_nil w ow g pv k false ev tv o h hk hk2
  | some l => exact step_tell w ow g pv k false ev tv l o h hk hk2 (by have := ht l rfl; omega)
/-- All that a part needs, and leaves. -/
def PS (w0 w : World) (ow : Ow) (g : Nat) (pv ev : Value) (xs : List Op4) (E : List Int) (n : Nat) (ov : Bool) (tv : Value) (told : Option (List Op4)) : Prop :=
  WS w ow g pv n ov ev tv told ∧ Row w ow [1, 3] 3 1 ev xs.length (EInt.css E) ∧ Turn [1] w0 ow0 w ow
theorem PS.new_ {w0 w w1 : World} {ow ow1 : Ow} {g n : Nat} {pv ev tv : Value} {xs : List Op4} {E : List Int} {ov : Bool} {told : Option (List Op4)} (h : PS w0 w ow g pv ev xs E n ov tv told) (t : New w ow w1 ow1) : PS w0 w1 ow1 g pv ev xs E n ov tv told :=
  ⟨h.1.new_ t, h.2.1.new_ t, h.2.2.trans (t.turn [1])⟩
theorem stepP {w0 w : World} {ow : Ow} {g k : Nat} {pv ev tv : Value} {xs : List Op4} {E : List Int} {told : Option (List Op4)} (o : Op4) (h : PS w0 w ow g pv ev xs E k false tv told) (hk : k ≠ 4096) (hk2 : k ≤ 4096) (ht : tb told k) :
    Calls Tryd.prog 63 #[.pointer (some ⟨g, 0, none⟩), .agg #[.int .i64 o.kind, .int .i64 o.res, .int .i64 o.n, .int .i64 o.v]] w fun e w' => ∃ OW, e = .returned (.bool true) ∧ PS w0 w' OW g pv ev xs E (k + 1) false tv (addT told [o]) ∧ Turn [1, 2] w ow w' OW := by
  refine (step1 w ow g pv k ev tv told o h.1 hk hk2 ht).mono ?_
  rintro e w' ⟨OW, rfl, a, t⟩
  exact ⟨OW, rfl, ⟨a, h.2.1.keep t (by simp), h.2.2.trans (t.up (by simp))⟩, t⟩
theorem stepO {w0 w : World} {ow : Ow} {g : Nat} {pv ev tv : Value} {xs : List Op4} {E : List Int} {told : Option (List Op4)} (o : Op4) (h : PS w0 w ow g pv ev xs E 4096 false tv told) :
    Calls Tryd.prog 63 #[.pointer (some ⟨g, 0, none⟩), .agg #[.int .i64 o.kind, .int .i64 o.res, .int .i64 o.n, .int .i64 o.v]] w fun e w' => ∃ OW, e = .returned (.bool false) ∧ PS w0 w' OW g pv ev xs E 4096 true tv told ∧ Turn [1, 2] w ow w' OW := by
  refine (step_over w ow g pv false ev tv told o h.1).mono ?_
  rintro e w' ⟨OW, rfl, a, t⟩
  exact ⟨OW, rfl, ⟨a, h.2.1.keep t (by simp), h.2.2.trans (t.up (by simp))⟩, t⟩
theorem end_at {w : World} {ow : Ow} {ev : Value} {xs : List Op4} {E : List Int} (h : Row w ow [1, 3] 3 1 ev xs.length (EInt.css E)) (hl : E.length = xs.length) {q : Nat} {e : Int} (hq : q < xs.length) (he : E[q]?.getD 0 = e) : ∃ b off cap, ev = .slice (some ⟨b, off, none⟩) xs.length cap ∧ w.cell? ⟨b, off + q, none⟩ = some (.int .i64 e) := by
  obtain ⟨b, off, cap, hv, -, hc⟩ := h.reads.at (by omega)
  refine ⟨b, off, cap, hv, hc q _ ?_⟩
  have h1 : E[q]? = some e := by
    rw [List.getElem?_eq_getElem (by omega)] at he ⊢
    simpa using he
  have := EInt.css_at E q e h1 0 _ rfl (by omega)
  simpa only [Nat.mul_one, Nat.add_zero] using this
/-- What part leaves. -/
def PartP (w0 w : World) (ow : Ow) (g : Nat) (pv ev : Value) (xs : List Op4) (E : List Int) (tv : Value) (told : Option (List Op4)) (n : Nat) (R : List Op4 × Bool × Bool) (e : Ending) (w' : World) : Prop :=
  ∃ OW, e = .returned (.bool R.2.2) ∧ PS w0 w' OW g pv ev xs E (n + R.1.length) R.2.1 tv (addT told R.1) ∧ Turn [1, 2] w ow w' OW
/-- What the loop keeps: the steps so far, and what is left. -/
def Mid (w0 w : World) (ow : Ow) (g : Nat) (pv ev : Value) (xs : List Op4) (E : List Int) (tv : Value) (told : Option (List Op4)) (n : Nat) (R : List Op4 × Bool × Bool) (rest : List Op4) (d : List Op4) (wr : World) (OW : Ow) : Prop :=
  R = comb d (runG rest (n + d.length)) ∧ PS w0 wr OW g pv ev xs E (n + d.length) false tv (addT told d) ∧ Turn [1, 2] w ow wr OW ∧ n + d.length ≤ 4096 ∧ tb (addT told d) (n + d.length)
section
variable {w0 w : World} {ow : Ow} {g : Nat} {pv ev : Value} {xs : List Op4} {E : List Int} {tv : Value} {told : Option (List Op4)} {n : Nat} {R : List Op4 × Bool × Bool} {d : List Op4} {wr wr' : World} {OW OW' : Ow}
theorem Mid.over {o : Op4} {Z : List Op4} (h : Mid w0 w ow g pv ev xs E tv told n R (o :: Z) d wr OW) (hk : n + d.length = 4096) : R = (d, true, false) := by
  rw [h.1, hk, runG_over]; simp [comb]
theorem Mid.fin {o : Op4} {Z : List Op4} (h : Mid w0 w ow g pv ev xs E tv told n R (o :: Z) d wr OW) (hk : n + d.length ≠ 4096) (h9 : o.kind = 9) : R = (d ++ [o], false, false) := by
  rw [h.1, runG_fin _ _ _ hk h9]; rfl
theorem Mid.step {o : Op4} {Z : List Op4} (h : Mid w0 w ow g pv ev xs E tv told n R (o :: Z) d wr OW) (hk : n + d.length ≠ 4096) (h9 : o.kind ≠ 9) (hp : PS w0 wr' OW' g pv ev xs E (n + d.length + 1) false tv (addT (addT told d) [o])) (t : Turn [1, 2] wr OW wr' OW') : Mid w0 w ow g pv ev xs E tv told n R Z (d ++ [o]) wr' OW' := by
  have hl := h.2.2.2.1
  have e : n + (d ++ [o]).length = n + d.length + 1 := by simp; omega
  refine ⟨?_, ?_, h.2.2.1.trans t, by omega, ?_⟩
  · rw [h.1, runG_one _ _ _ hk h9, comb_comb, e]
  · rw [e, ← addT_add]; exact hp
  · have := h.2.2.2.2.add [o]
    rw [addT_add] at this
    rw [e]; exact this
theorem Mid.body {B Z : List Op4} (h : Mid w0 w ow g pv ev xs E tv told n R (B ++ Z) d wr OW) (hp : PS w0 wr' OW' g pv ev xs E (n + d.length + (runG B (n + d.length)).1.length) (runG B (n + d.length)).2.1 tv (addT (addT told d) (runG B (n + d.length)).1)) (t : Turn [1, 2] wr OW wr' OW') :
    ((runG B (n + d.length)).2.2 = false → R = (d ++ (runG B (n + d.length)).1, (runG B (n + d.length)).2)) ∧
    ((runG B (n + d.length)).2.2 = true → Mid w0 w ow g pv ev xs E tv told n R Z (d ++ B) wr' OW' ∧ (runG B (n + d.length)).1 = B) := by
  have hl := h.2.2.2.1
  have hR := h.1
  rw [runG_append] at hR
  refine ⟨fun hm => ?_, fun hm => ?_⟩
  · rw [if_neg (by rw [hm]; simp)] at hR
    exact hR
  · rw [if_pos hm] at hR
    obtain ⟨e1, e2⟩ := runG_more _ _ hm
    have hl2 := runG_len B _ hl
    rw [e1] at hR hp hl2
    rw [e2] at hp
    have e : n + (d ++ B).length = n + d.length + B.length := by simp; omega
    refine ⟨⟨?_, ?_, h.2.2.1.trans t, by omega, ?_⟩, e1⟩
    · rw [hR, comb_comb, e]
    · rw [e, ← addT_add]; exact hp
    · have := h.2.2.2.2.add B
      rw [addT_add] at this
      rw [e]; exact this
theorem Mid.new_ {rest : List Op4} (h : Mid w0 w ow g pv ev xs E tv told n R rest d wr OW) (t : New wr OW wr' OW') : Mid w0 w ow g pv ev xs E tv told n R rest d wr' OW' := ⟨h.1, h.2.1.new_ t, h.2.2.1.trans (t.turn [1, 2]), h.2.2.2.1, h.2.2.2.2⟩
theorem Mid.done (h : R = (d, true, false)) (hk : n + d.length = 4096) (hp : PS w0 wr' OW' g pv ev xs E 4096 true tv (addT told d)) (t : Turn [1, 2] w ow wr' OW') : PartP w0 w ow g pv ev xs E tv told n R (.returned (.bool false)) wr' := by
  subst h
  exact ⟨OW', rfl, by simp only; rw [hk]; exact hp, t⟩
end
theorem replicate_take (N m : Nat) (x : Op4) (Z : List Op4) (h : m < N) : List.replicate (N - m) x ++ Z = x :: (List.replicate (N - (m + 1)) x ++ Z) := by
  rw [show N - m = (N - (m + 1)) + 1 by omega, List.replicate_succ]; rfl
theorem flat_take (N m : Nat) (B Z : List Op4) (h : m < N) : (List.replicate (N - m) B).flatten ++ Z = B ++ ((List.replicate (N - (m + 1)) B).flatten ++ Z) := by
  rw [show N - m = (N - (m + 1)) + 1 by omega, List.replicate_succ, List.flatten_cons, List.append_assoc]
theorem flat_nil (N : Nat) (Z : List Op4) : (List.replicate N ([] : List Op4)).flatten ++ Z = Z := by
  induction N with
  | zero => rfl
  | succ N ih => rw [List.replicate_succ, List.flatten_cons, List.nil_append]; exact ih
def ptR (w0 w : World) (ow : Ow) (g : Nat) (pv ev : Value) (xs : List Op4) (E : List Int) (tv : Value) (told : Option (List Op4)) (n : Nat) (R : List Op4 × Bool × Bool) (F i j : Nat) (gn : Nat) (a : Value) (wr : World) : Prop :=
  ∃ (q f : Nat) (d : List Op4) (OW : Ow), gn = j - q ∧ i ≤ q ∧ q ≤ j ∧ a = .int .i64 (q : Int) ∧ f ≤ F ∧ NS xs E f q j = true ∧ Mid w0 w ow g pv ev xs E tv told n R (segE xs E f q j) d wr OW
set_option maxRecDepth 100000 in
set_option maxHeartbeats 8000000 in
theorem part (w0 : World) (g : Nat) (pv ev : Value) (xs : List Op4) (E : List Int) (tv : Value) (hrd : Rd4 w0 pv xs) (hn : xs.length ≤ 1000000) (hE : E.length = xs.length) (hN : ∀ o ∈ xs, o.n ≤ 1000000) (F : Nat) :
    ∀ (w : World) (ow : Ow) (i j n : Nat) (told : Option (List Op4)), i ≤ j → j ≤ xs.length → NS xs E F i j = true → n ≤ 4096 → tb told n → PS w0 w ow g pv ev xs E n false tv told →
    Calls Tryd.prog 62 #[.pointer (some ⟨g, 0, none⟩), .int .i64 (i : Int), .int .i64 (j : Int)] w (PartP w0 w ow g pv ev xs E tv told n (runG (segE xs E F i j) n)) := by
  induction F using Nat.strongRecOn with
  | _ F ih =>
    intro w ow i j n told hij hj hns hn4 htb hps
    obtain ⟨R, hR⟩ : ∃ R, runG (segE xs E F i j) n = R := ⟨_, rfl⟩
    rw [hR]
    have Ih := Lib.hid ih
    have HN := Lib.hid hN
    have Hrd := Lib.hid hrd
    have hmid : Mid w0 w ow g pv ev xs E tv told n R (segE xs E F i j) [] w ow := ⟨by rw [comb_nil]; exact hR.symm, by rw [addT_nil]; exact hps, Turn.refl _ _ _, hn4, by rw [addT_nil]; exact htb⟩
    clear ih hN hrd hR hps
    go_enter Tryd.func62, Tryd.ntmps62
    go_wp2
    go_loopg [7] (j - i) (fun gn a wr => ptR w0 w ow g pv ev xs E tv told n R F i j gn a wr)
    case atStart => exact ⟨i, F, [], ow, rfl, Nat.le_refl _, hij, rfl, Nat.le_refl _, hns, hmid⟩
    case round =>
      clear hmid hns
      obtain ⟨q, f, d, OW, hgn, hq1, hq2, rfl, hf, hns, hmid⟩ := hrel
      have Hgn := Lib.hid hgn
      clear hgn
      by_cases hlt : q < j
      · have i0 : (q : Int) < (j : Int) := by omega
        have i1 : (q : Int) < (xs.length : Int) := by omega
        obtain ⟨f', o, rfl, hx, hcase⟩ := NS_in hns hlt
        have hno := HN.out o (List.mem_of_getElem? hx)
        obtain ⟨bp, op, cp, hpv, r0, r1, r2, r3⟩ := at4r (Hrd.out.new_ (hmid.2.1.2.2.new_ ow0 [1]).below) hx
        subst hpv
        obtain ⟨kind, res, nn, v⟩ := o
        simp only at r0 r1 r2 r3 hno hcase
        have c0 := hmid.2.1.1.1.get 0 rfl
        simp only [Nat.zero_add] at c0
        have HM := Lib.hid hmid
        have HC := Lib.hid hcase
        clear hmid hcase hns hx
        go_upto_region 5 with fail
        obtain ⟨OW1, hX, nn1, -⟩ := SH.add_cells wr OW [1, 4] [.int .i64 kind, .int .i64 res, .int .i64 nn, .int .i64 v] 32
        have hmid := HM.out.new_ nn1
        generalize wr.alloc (.cells #[.int .i64 kind, .int .i64 res, .int .i64 nn, .int .i64 v] 32) = w1 at *
        generalize wr.heap.size = ob at *
        have x0 := hX.get 0 rfl
        have x1 := hX.get 1 rfl
        have x2 := hX.get 2 rfl
        have x3 := hX.get 3 rfl
        simp only [Nat.zero_add] at x0 x1 x2 x3
        have hwq : IntKind.i64.wrap ((q : Int) + 1) = (q : Int) + 1 := by rw [IntKind.wrap_i64]; omega
        clear HM nn1 hX c0 r0 r1 r2 r3
        rcases HC.out with ⟨h10, hnn, e, hEe, he1, he2, hs1, hs2, hseg⟩ | ⟨h5, hnn, hs2, hseg⟩ | ⟨h10, h5, h11, hs2, hseg⟩
        · clear HC
          rw [hseg] at hmid
          obtain ⟨N, rfl⟩ : ∃ N : Nat, nn = N := ⟨nn.toNat, by omega⟩
          rw [Int.toNat_natCast] at hmid
          have e10 : (kind == 10) = true := beq_iff_eq.2 h10
          have HNS := Lib.hid hs2
          have HNB := Lib.hid hs1
          have HE := Lib.hid hEe
          have c1 := hmid.2.1.1.1.get 1 rfl
          simp only [Nat.zero_add] at c1
          obtain ⟨be, oe, ce, hev, -⟩ := end_at hmid.2.1.2.1 hE (by omega) hEe
          subst hev
          obtain ⟨B, hB⟩ : ∃ B, segE xs E f' (q + 1) e = B := ⟨_, rfl⟩
          rw [hB] at hmid
          have HB := Lib.hid hB
          clear hs2 hs1 hseg h10 hEe hB
          go_wp2
          go_loopg [37] N (fun gn a wr => ∃ (m : Nat) (d2 : List Op4) (OW2 : Ow), gn = N - m ∧ m ≤ N ∧ a = .int .i64 (m : Int) ∧ d.length ≤ d2.length ∧ (d2.length = d.length → m = 0 ∨ B = []) ∧ Mid w0 w ow g (.slice (some ⟨bp, op, none⟩) xs.length cp) (.slice (some ⟨be, oe, none⟩) xs.length ce) xs E tv told n R ((List.replicate (N - m) B).flatten ++ segE xs E f' (e + 1) j) d2 wr OW2)
          case atStart => exact ⟨0, d, OW1, rfl, Nat.zero_le _, rfl, Nat.le_refl _, fun _ => .inl rfl, hmid⟩
          case round =>
            clear hmid x0 x1 x2 x3 c1
            obtain ⟨m, d2, OW2, hgm, hm, rfl, hdl, hdb, hmid⟩ := hrel
            have Hgm := Lib.hid hgm
            clear hgm
            have hex := end_at hmid.2.1.2.1 hE (by omega) HE.out
            obtain ⟨be', oe', ce', hev, eq0⟩ := hex
            simp only [Value.slice.injEq, Option.some.injEq, Addr.mk.injEq, true_and, and_true] at hev
            obtain ⟨⟨rfl, rfl⟩, rfl⟩ := hev
            have c3 := hmid.2.1.1.1.get 3 rfl
            simp only [Nat.zero_add] at c3
            have hwe : IntKind.i64.wrap ((e : Int) + 1) = (e : Int) + 1 := by rw [IntKind.wrap_i64]; omega
            by_cases hmN : m < N
            · have k0 : (m : Int) < (N : Int) := by omega
              rw [flat_take N m _ _ hmN] at hmid
              have hwm : IntKind.i64.wrap ((m : Int) + 1) = (m : Int) + 1 := by rw [IntKind.wrap_i64]; omega
              have hpart := Ih.out f' (by omega) wr OW2 (q + 1) e (n + d2.length) (addT told d2) (by omega) (by omega) HNB.out hmid.2.2.2.1 hmid.2.2.2.2 hmid.2.1
              rw [HB.out] at hpart
              have HP := Lib.hid hpart
              have HM := Lib.hid hmid
              clear hmid hpart
              go_wp2_with fail
              refine HP.out.mono ?_
              rintro e3 w3 ⟨OW3, rfl, hp3, t3⟩
              obtain ⟨hno, hyes⟩ := HM.out.body hp3 t3
              cases hmore : (runG B (n + d2.length)).2.2 with
              | false =>
                have hRR := hno hmore
                have hF : PartP w0 w ow g (.slice (some ⟨bp, op, none⟩) xs.length cp) (.slice (some ⟨be, oe, none⟩) xs.length ce) xs E tv told n R (.returned (.bool false)) w3 := by
                  rw [hRR]
                  refine ⟨OW3, by simp only; rw [hmore], ?_, HM.out.2.2.1.trans t3⟩
                  simp only
                  rw [addT_add] at hp3
                  rw [List.length_append, ← Nat.add_assoc]
                  exact hp3
                have HF := Lib.hid hF
                clear hF hp3 t3 hno hyes hRR HM HP hmore
                as_aux_lemma =>
                go_wp2
                go_ret
                exact HF.out
              | true =>
                obtain ⟨hM3, hB1⟩ := hyes hmore
                have d1 := hM3.2.1.1.1.get 1 rfl
                have d3 := hM3.2.1.1.1.get 3 rfl
                obtain ⟨be', oe', ce', hev, eq1⟩ := end_at hM3.2.1.2.1 hE (by omega) HE.out
                simp only [Value.slice.injEq, Option.some.injEq, Addr.mk.injEq, true_and, and_true] at hev
                obtain ⟨⟨rfl, rfl⟩, rfl⟩ := hev
                simp only [Nat.zero_add] at d1 d3
                have hl3 : (d2 ++ B).length = d2.length + B.length := List.length_append
                clear hp3 t3 hno HM HP hmore eq0 c3 hyes
                have HM3 := Lib.hid hM3
                clear hM3
                by_cases hz : (d2 ++ B).length = d.length
                · have hBn : B = [] := List.length_eq_zero_iff.1 (by omega)
                  have hz1 : (((n + (d2 ++ B).length : Nat) : Int) == ((n + d.length : Nat) : Int)) = true := beq_iff_eq.2 (by omega)
                  have hM4 := HM3.out
                  rw [hBn, flat_nil] at hM4
                  have HM4 := Lib.hid hM4
                  clear hM4 HM3
                  go_wp2
                  go_roundg (j - (e + 1))
                  case measure => have := Hgn.out; omega
                  case rel => exact ⟨e + 1, f', d2 ++ [], OW3, rfl, by omega, by omega, by go_num, by omega, HNS.out, HM4.out⟩
                · have hz1 : (((n + (d2 ++ B).length : Nat) : Int) == ((n + d.length : Nat) : Int)) = false := beq_eq_false_iff_ne.2 (by omega)
                  go_wp2
                  go_roundg (N - (m + 1))
                  case measure => have := Hgm.out; omega
                  case rel => exact ⟨m + 1, d2 ++ B, OW3, rfl, by omega, by go_num, by omega, fun h => absurd h hz, HM3.out⟩
            · obtain rfl : m = N := by omega
              rw [Nat.sub_self, List.replicate_zero, List.flatten_nil, List.nil_append] at hmid
              have HM := Lib.hid hmid
              clear hmid
              go_wp2
              go_roundg (j - (e + 1))
              case measure => have := Hgn.out; omega
              case rel => exact ⟨e + 1, f', d2, OW2, rfl, by omega, by omega, by go_num, by omega, HNS.out, HM.out⟩
        · clear HC
          rw [hseg] at hmid
          obtain ⟨N, rfl⟩ : ∃ N : Nat, nn = N := ⟨nn.toNat, by omega⟩
          rw [Int.toNat_natCast] at hmid
          have e5 : (kind == 5) = true := beq_iff_eq.2 h5
          have e10 : (kind == 10) = false := beq_eq_false_iff_ne.2 (by omega)
          have HNS := Lib.hid hs2
          clear hs2 hseg h5
          go_wp2
          go_loopg [69] N (fun gn a wr => ∃ (m : Nat) (d2 : List Op4) (OW2 : Ow), gn = N - m ∧ m ≤ N ∧ a = .int .i64 (m : Int) ∧ Mid w0 w ow g (.slice (some ⟨bp, op, none⟩) xs.length cp) ev xs E tv told n R (List.replicate (N - m) work1 ++ segE xs E f' (q + 1) j) d2 wr OW2)
          case atStart => exact ⟨0, d, OW1, rfl, Nat.zero_le _, rfl, hmid⟩
          case round =>
            clear hmid x0 x1 x2 x3
            obtain ⟨m, d2, OW2, hgm, hm, rfl, hmid⟩ := hrel
            have Hgm := Lib.hid hgm
            clear hgm
            by_cases hmN : m < N
            · have k0 : (m : Int) < (N : Int) := by omega
              rw [replicate_take N m _ _ hmN] at hmid
              have hwm : IntKind.i64.wrap ((m : Int) + 1) = (m : Int) + 1 := by rw [IntKind.wrap_i64]; omega
              by_cases hk : n + d2.length = 4096
              · have hRR := hmid.over hk
                have hps := hmid.2.1
                rw [hk] at hps
                have HS := Lib.hid (stepO work1 hps)
                have HT := Lib.hid hmid.2.2.1
                clear hps hmid
                as_aux_lemma =>
                go_wp2_with fail
                refine HS.out.mono ?_
                rintro e w3 ⟨OW3, rfl, hp3, t3⟩
                have HF := Lib.hid (Mid.done hRR hk hp3 (HT.out.trans t3))
                clear hp3 t3 HS HT hRR
                go_wp2
                go_ret
                exact HF.out
              · have HS := Lib.hid (stepP work1 hmid.2.1 hk hmid.2.2.2.1 hmid.2.2.2.2)
                have HM := Lib.hid hmid
                clear hmid
                go_wp2_with fail
                refine HS.out.mono ?_
                rintro e w3 ⟨OW3, rfl, hp3, t3⟩
                have HM3 := Lib.hid (HM.out.step hk (by decide) hp3 t3)
                clear hp3 t3 HS HM
                go_wp2
                go_roundg (N - (m + 1))
                case measure => have := Hgm.out; omega
                case rel => exact ⟨m + 1, d2 ++ [work1], OW3, rfl, by omega, by go_num, HM3.out⟩
            · obtain rfl : m = N := by omega
              rw [Nat.sub_self, List.replicate_zero, List.nil_append] at hmid
              have HM := Lib.hid hmid
              clear hmid
              go_wp2
              go_roundg (j - (q + 1))
              case measure => have := Hgn.out; omega
              case rel => exact ⟨q + 1, f', d2, OW2, rfl, by omega, by omega, by go_num, by omega, HNS.out, HM.out⟩
        · clear HC
          rw [hseg] at hmid
          have e10 : (kind == 10) = false := beq_eq_false_iff_ne.2 h10
          have e5 : (kind == 5) = false := beq_eq_false_iff_ne.2 h5
          have HNS := Lib.hid hs2
          clear hs2 hseg h11 h5 h10
          by_cases h9 : kind = 9
          · subst h9
            by_cases hk : n + d.length = 4096
            · have hRR := hmid.over hk
              have hps := hmid.2.1
              rw [hk] at hps
              have HS := Lib.hid (stepO ⟨9, res, nn, v⟩ hps)
              have HT := Lib.hid hmid.2.2.1
              clear hps hmid
              as_aux_lemma =>
              go_wp2_with fail
              refine HS.out.mono ?_
              rintro e w3 ⟨OW3, rfl, hp3, t3⟩
              have HF := Lib.hid (Mid.done hRR hk hp3 (HT.out.trans t3))
              clear hp3 t3 HS HT hRR
              go_wp2
              go_ret
              exact HF.out
            · have hRR := hmid.fin hk rfl
              have HS := Lib.hid (stepP ⟨9, res, nn, v⟩ hmid.2.1 hk hmid.2.2.2.1 hmid.2.2.2.2)
              have HT := Lib.hid hmid.2.2.1
              clear hmid
              as_aux_lemma =>
              go_wp2_with fail
              refine HS.out.mono ?_
              rintro e w3 ⟨OW3, rfl, hp3, t3⟩
              have hF : PartP w0 w ow g (.slice (some ⟨bp, op, none⟩) xs.length cp) ev xs E tv told n R (.returned (.bool false)) w3 := by
                rw [hRR]
                refine ⟨OW3, rfl, ?_, HT.out.trans t3⟩
                simp only
                rw [addT_add] at hp3
                rw [show n + (d ++ [(⟨9, res, nn, v⟩ : Op4)]).length = n + d.length + 1 by simp; omega]
                exact hp3
              have HF := Lib.hid hF
              clear hp3 t3 HS HT hRR hF
              go_wp2
              go_ret
              exact HF.out
          · have e9 : (kind == 9) = false := beq_eq_false_iff_ne.2 h9
            by_cases hk : n + d.length = 4096
            · have hRR := hmid.over hk
              have hps := hmid.2.1
              rw [hk] at hps
              have HS := Lib.hid (stepO ⟨kind, res, nn, v⟩ hps)
              have HT := Lib.hid hmid.2.2.1
              clear hps hmid
              as_aux_lemma =>
              go_wp2_with fail
              refine HS.out.mono ?_
              rintro e w3 ⟨OW3, rfl, hp3, t3⟩
              have HF := Lib.hid (Mid.done hRR hk hp3 (HT.out.trans t3))
              clear hp3 t3 HS HT hRR
              go_wp2
              go_ret
              exact HF.out
            · have HS := Lib.hid (stepP ⟨kind, res, nn, v⟩ hmid.2.1 hk hmid.2.2.2.1 hmid.2.2.2.2)
              have HM := Lib.hid hmid
              clear hmid
              go_wp2_with fail
              refine HS.out.mono ?_
              rintro e w3 ⟨OW3, rfl, hp3, t3⟩
              have HM3 := Lib.hid (HM.out.step hk h9 hp3 t3)
              clear hp3 t3 HS HM
              go_wp2
              go_roundg (j - (q + 1))
              case measure => have := Hgn.out; omega
              case rel => exact ⟨q + 1, f', d ++ [⟨kind, res, nn, v⟩], OW3, rfl, by omega, by omega, by go_num, by omega, HNS.out, HM3.out⟩
      · obtain rfl : q = j := by omega
        obtain ⟨hR, hps, tt, hl, htd⟩ := hmid
        rw [segE_nil] at hR
        have hc : R = (d, false, true) := by rw [hR]; simp [comb, runG]
        subst hc
        have HH := Lib.hid (And.intro hps tt)
        clear hps tt hR hns
        as_aux_lemma =>
        go_wp2
        go_ret
        exact ⟨OW, rfl, HH.out⟩
end CD
end Go.Proofs.YtnehiooioodkfaaDoor
