/-
  KEELBOOK: Roomy and Intact of operations.
-/
import Derived.Test.YtnehiooioodkfaaDoorJR
import Derived.Test.YtnehiooioodkfaaDoorJV
import Derived.Test.YtnehiooioodkfaaDoorTab0
set_option linter.unusedVariables false
set_option linter.unusedSimpArgs false
namespace Go.Proofs.YtnehiooioodkfaaDoor
open Go Go.RowKit
namespace CR
open CD
theorem front4 {w : World} {g off cap : Nat} {xs ys : List Op4} (h : Reads w (.slice (some ⟨g, off, none⟩) (xs ++ ys).length cap) (xs ++ ys).length (EOq.css (xs ++ ys))) (hc : (xs ++ ys).length ≤ cap) : Rd4 w (.slice (some ⟨g, off, none⟩) xs.length cap) xs := by
  rw [List.length_append] at hc
  refine ⟨_, cap, rfl, by omega, fun h0 => .inr ⟨g, off, cap, rfl, by omega, fun j u hj => ?_⟩⟩
  obtain ⟨g', off', cap', e, -, hr⟩ := h.at (by rw [List.length_append]; omega)
  injection e with e1 e2 e3
  injection e1 with e1
  injection e1 with e4 e5 e6
  subst e4 e5
  refine hr j u ?_
  rw [EOq.css_append, List.getElem?_append_left (List.getElem?_eq_some_iff.1 hj).1]
  exact hj
theorem run_copy_no {P : Program} (w : World) (dT sT ty elem : TypeId) (sz : Nat) (d a : Option Addr) (dLen dCap sLen sCap : Nat) (hu : P.underlying dT = some (.slice elem)) (hs : (P.info? elem).map (·.size) = some sz) (hn : Nat.min sLen dLen = 0) :
    (Builtin.copy_ #[dT, sT] ty #[.slice d dLen dCap, .slice a sLen sCap]).run P w = .ok (goInt 0) w := by
  cases hq : P.info? elem with
  | none => simp [hq] at hs
  | some i =>
    have hl : ∀ (x : Addr), (loadCells x 0).run P w = .ok #[] w := fun x => by simpa using run_loadCells_list (P := P) w x [] (by simp)
    cases d <;> cases a <;> simp [Builtin.copy_, run_underlying hu, Builtin.lenOf, Builtin.firstCells, sizeOf, typeInfo, hq, hn, storeCells, hl]
def zO : Op4 := ⟨0, 0, 0, 0⟩
theorem css_zO (D : Nat) : EOq.css (List.replicate D zO) = List.replicate (D * 4) (.int .i64 0) := by
  induction D with
  | zero => rfl
  | succ D ih =>
    rw [List.replicate_succ, show zO :: List.replicate D zO = [zO] ++ List.replicate D zO from rfl, EOq.css_append, ih, Nat.add_mul, Nat.one_mul, Nat.add_comm (D * 4) 4, ← List.replicate_append_replicate]
    rfl
theorem made_zO (D : Nat) : (madeCells #[.int .i64 0, .int .i64 0, .int .i64 0, .int .i64 0] (D * 4)).toList = EOq.css (List.replicate D zO) := by
  rw [css_zO]
  apply List.ext_getElem?
  intro i
  by_cases h : i < D * 4
  · rw [Array.getElem?_toList, madeCells_at _ _ _ h, List.getElem?_replicate, if_pos h]
    have h4 : i % 4 < 4 := Nat.mod_lt _ (by omega)
    show some ((#[Value.int .i64 0, .int .i64 0, .int .i64 0, .int .i64 0] : Array Value)[i % 4]!) = _
    rcases (by omega : i % 4 = 0 ∨ i % 4 = 1 ∨ i % 4 = 2 ∨ i % 4 = 3) with e | e | e | e <;> rw [e] <;> rfl
  · rw [List.getElem?_eq_none (by unfold madeCells; simpa using h), List.getElem?_eq_none (by simpa using h)]
theorem fill_at (xs : List Op4) (mk : Op4) (ys : List Op4) (h1 : ys.length = xs.length + 80) (h2 : ys.take xs.length = xs) (h3 : ∀ j x, xs.length ≤ j → j < xs.length + 80 → ys[j]? = some x → x = mk) : ys = xs ++ List.replicate 80 mk := by
  apply List.ext_getElem?
  intro j
  by_cases c1 : j < xs.length
  · rw [List.getElem?_append_left c1]
    conv => rhs; rw [← h2]
    rw [List.getElem?_take_of_lt c1]
  · by_cases c2 : j < xs.length + 80
    · have hs : ys[j]? = some ys[j] := List.getElem?_eq_getElem (by omega)
      rw [List.getElem?_append_right (by omega), List.getElem?_replicate, if_pos (by omega), hs, h3 j _ (by omega) c2 hs]
    · rw [List.getElem?_eq_none (by omega), List.getElem?_eq_none (by simp; omega)]
set_option maxRecDepth 100000 in
set_option maxHeartbeats 4000000 in
theorem roomy (w : World) (v : Value) (xs : List Op4) (mk : Op4) (full : List Op4) (hfull : full = xs ++ List.replicate 80 mk) (h : Rd4 w v xs) (hn : xs.length ≤ 1000000) : Calls Tryd.prog 26 #[v, .agg #[.int .i64 mk.kind, .int .i64 mk.res, .int .i64 mk.n, .int .i64 mk.v]] w fun e w' => ∃ v', e = .returned v' ∧ Reads w' v' full.length (EOq.css full) ∧ Below w.heap.size w w' := by
  have HFU := Lib.hid hfull
  clear hfull
  obtain ⟨A, c, rfl, -⟩ := h.slice
  have Hr := Lib.hid h
  clear h
  have wr1 : IntKind.i64.wrap ((xs.length : Int) + 80) = (xs.length : Int) + 80 := by rw [IntKind.wrap_i64]; omega
  obtain ⟨mk0, mr0, mn0, mv0⟩ := mk
  go_enter Tryd.func26, Tryd.ntmps26
  obtain ⟨owb, hBx, nb, zb⟩ := SH.add_cells w ow0 [1, 0] [.int .i64 mk0, .int .i64 mr0, .int .i64 mn0, .int .i64 mv0] 32
  go_wp2_with (at_make; refine wpList_make_row [1, 1] owb rfl _ _ 22 rfl 32 _ 4 32 Tryd.underlying22 EOq.info rfl _ _ _ _ (xs.length + 80) (xs.length + 80) rfl (by omega) rfl (by omega) (Nat.le_refl _) (by omega) (by unfold maxLen; omega) ?_)
  intro v1 w1 ow1 hr nx
  rw [made_zO] at hr
  have t := (nb.trans nx).turn [1]
  have hBx1 := hBx.new_ nx
  have hrd := Hr.out.new_ (nb.trans nx).below
  clear nx nb hBx zb
  obtain ⟨b, off, cap, rfl, hc1, hc2, hb, -⟩ := hr.at (by omega)
  have hcopy : ∃ w2, (Builtin.copy_ #[22, 22] 3 #[.slice (some ⟨b, off, none⟩) (xs.length + 80) cap, .slice A xs.length c]).run Tryd.prog w1 = .ok (goInt xs.length) w2 ∧ Row w2 ow1 [1, 1] 32 4 (.slice (some ⟨b, off, none⟩) (xs.length + 80) cap) (xs.length + 80) (EOq.css (xs ++ List.replicate 80 zO)) ∧ Turn [1, 1] w1 ow1 w2 ow1 := by
    by_cases h0 : xs.length = 0
    · obtain rfl : xs = [] := List.length_eq_zero_iff.1 h0
      exact ⟨w1, run_copy_no w1 _ _ _ 32 4 (some ⟨b, off, none⟩) A _ _ _ _ Tryd.underlying22 (show (Tryd.prog.info? 32).map (fun x => x.size) = some 4 by kernel_rfl) (Nat.min_eq_left (Nat.zero_le _)), by simpa using hr, Turn.refl _ _ _⟩
    · obtain ⟨A', c', hv, hlc⟩ := hrd.open_
      obtain ⟨rfl, rfl⟩ : A = A' ∧ c = c' := by simpa using hv
      obtain ⟨g, xo, rfl, hx⟩ := hlc (by omega)
      have hrun := run_copy_row (P := Tryd.prog) w1 ow1 [1, 1] 22 22 3 32 4 (xs.length + 80) cap b off _ Tryd.underlying22 (by kernel_rfl) hr 0 (Nat.zero_le _) xs.length (EOq.css xs) (xb := g) (xo := xo) (xc := c) hx (EOq.css_length xs) (by omega) (EOq.css_one xs) xs.length (xs.length + 80) (Nat.min_eq_left (by omega)) cap
      have hset := hr.sets 0 (EOq.css xs) (by rw [EOq.css_length, EOq.css_length, List.length_replicate]; omega)
      have hst := hr.setsTurn off (EOq.css xs)
      simp only [Nat.zero_mul, Nat.add_zero] at hrun hset
      refine ⟨_, hrun, ?_, hst⟩
      have he : (EOq.css (List.replicate (xs.length + 80) zO)).take 0 ++ EOq.css xs ++ (EOq.css (List.replicate (xs.length + 80) zO)).drop (0 + (EOq.css xs).length) = EOq.css (xs ++ List.replicate 80 zO) := by
        rw [List.take_zero, List.nil_append, Nat.zero_add, EOq.css_length, ← EOq.css_drop, EOq.css_append, List.drop_replicate]
        congr 3
        omega
      rw [he] at hset
      exact hset
  obtain ⟨w2, hrun, hr2, t2⟩ := hcopy
  have hBx2 := hBx1.keep t2 (by simp)
  have t3 := t.trans (t2.up (by simp))
  clear hr t t2 hrd hBx1
  go_wp2_with (at_builtin; refine wpList_copy_run rfl (.tmp 11) (.tmp 12) 22 22 rfl _ _ rfl rfl hrun ?_)
  clear hrun
  go_wp2_with fail
  go_loopg [6] 80 (fun gn i wr => ∃ (k : Nat) (ys : List Op4) (OW : Ow), gn = xs.length + 80 - k ∧ xs.length ≤ k ∧ k ≤ xs.length + 80 ∧ i = .int .i64 (k : Int) ∧ ys.length = xs.length + 80 ∧ ys.take xs.length = xs ∧ (∀ j x, xs.length ≤ j → j < k → ys[j]? = some x → x = ⟨mk0, mr0, mn0, mv0⟩) ∧ Row wr OW [1, 1] 32 4 (.slice (some ⟨b, off, none⟩) (xs.length + 80) cap) (xs.length + 80) (EOq.css ys) ∧ Cells wr OW [1, 0] w.heap.size 0 [.int .i64 mk0, .int .i64 mr0, .int .i64 mn0, .int .i64 mv0] ∧ Turn [1] w ow0 wr OW)
  case atStart => exact ⟨xs.length, xs ++ List.replicate 80 zO, ow1, by omega, Nat.le_refl _, by omega, rfl, by simp, by simp, fun j x h1 h2 => by omega, hr2, hBx2, t3⟩
  case round =>
    clear hr2 hBx2 t3
    obtain ⟨k, ys, OW, hgk, hk0, hk, rfl, hyl, hyt, hym, hr, hX, t⟩ := hrel
    have Hgk := Lib.hid hgk
    have Hyl := Lib.hid hyl
    have Hyt := Lib.hid hyt
    have Hym := Lib.hid hym
    clear hgk hyt hym
    by_cases hlt : k < xs.length + 80
    · have i0 : (k : Int) < (xs.length : Int) + 80 := by omega
      have i1 : (k : Int) < ((xs.length + 80 : Nat) : Int) := by omega
      have hwk : IntKind.i64.wrap ((k : Int) + 1) = (k : Int) + 1 := by rw [IntKind.wrap_i64]; omega
      obtain ⟨x, hx⟩ : ∃ x, ys[k]? = some x := ⟨_, List.getElem?_eq_getElem (by omega)⟩
      have hrr := Row.reads hr
      rw [← hyl] at hrr
      obtain ⟨g', off', cap', hv, r0, r1, r2, r3⟩ := at4 hrr hx
      simp only [Value.slice.injEq, Option.some.injEq, Addr.mk.injEq, and_true, true_and] at hv
      obtain ⟨⟨rfl, rfl⟩, -, rfl⟩ := hv
      obtain ⟨-, ho, hf, -⟩ := hr.open_
      have hr1 := (((hr.set (k * 4) (.int .i64 mk0)).set (k * 4 + 1) (.int .i64 mr0)).set (k * 4 + 2) (.int .i64 mn0)).set (k * 4 + 3) (.int .i64 mv0)
      have hcc := EOq.css_cells ys k ⟨mk0, mr0, mn0, mv0⟩
      simp only at hcc
      rw [hcc] at hr1
      simp only [← Nat.add_assoc] at hr1
      have c0 := hX.get 0 rfl
      have c1 := hX.get 1 rfl
      have c2 := hX.get 2 rfl
      have c3 := hX.get 3 rfl
      simp only [Nat.zero_add] at c0 c1 c2 c3
      have ob : ∀ i, [1, 1] <+: OW b i := fun i => by rw [ho]; exact List.prefix_refl _
      have T' := ((((Turn.refl [1, 1] wr OW).setCell (g := b) (o := off + k * 4) (.int .i64 mk0) (ob _)).setCell (g := b) (o := off + k * 4 + 1) (.int .i64 mr0) (ob _)).setCell (g := b) (o := off + k * 4 + 2) (.int .i64 mn0) (ob _)).setCell (g := b) (o := off + k * 4 + 3) (.int .i64 mv0) (ob _)
      have hX' := hX.keep T' (by simp)
      have t' := t.trans (T'.up (by simp))
      have HR1 := Lib.hid hr1
      have HX' := Lib.hid hX'
      have HT' := Lib.hid t'
      clear hr hrr hr1 hcc T' ob ho hx hX hX' t t' hyl
      go_wp2
      go_roundg (xs.length + 80 - (k + 1))
      case measure => have := Hgk.out; omega
      case rel => exact ⟨k + 1, ys.set k ⟨mk0, mr0, mn0, mv0⟩, OW, rfl, by omega, by omega, by go_num, by rw [List.length_set]; exact Hyl.out, by rw [List.take_set_of_le (by omega)]; exact Hyt.out, fun j y h1 h2 hy => by
        by_cases e : j = k
        · rw [e, List.getElem?_set_self (by rw [Hyl.out]; exact hlt)] at hy
          injection hy with hy
          exact hy.symm
        · rw [List.getElem?_set_ne (fun h => e h.symm)] at hy; exact Hym.out j y h1 (by omega) hy, HR1.out, HX'.out, HT'.out⟩
    · obtain rfl : k = xs.length + 80 := by omega
      have hys : ys = full := (fill_at xs ⟨mk0, mr0, mn0, mv0⟩ ys Hyl.out Hyt.out Hym.out).trans HFU.out.symm
      subst hys
      have fin := (t.new_ ow0 [1]).below
      have i0 : ¬ ((xs.length + 80 : Nat) : Int) < (xs.length : Int) + 80 := by omega
      have hrr : Reads wr (.slice (some ⟨b, off, none⟩) (xs.length + 80) cap) ys.length (EOq.css ys) := by rw [Hyl.out]; exact Row.reads hr
      have HRR := Lib.hid hrr
      clear hlt Hgk Hyl Hyt Hym hk0 hk hr hrr hX t hyl HFU
      as_aux_lemma =>
      go_wp2
      go_ret
      exact ⟨.slice (some ⟨b, off, none⟩) (xs.length + 80) cap, rfl, HRR.out, fin⟩
set_option maxRecDepth 100000 in
set_option maxHeartbeats 4000000 in
theorem intact (w : World) (vf v : Value) (xs : List Op4) (mk : Op4) (hf : Rd4 w vf (xs ++ List.replicate 80 mk)) (h : Rd4 w v xs) (hn : xs.length ≤ 1000000) : Calls Tryd.prog 30 #[vf, v, .agg #[.int .i64 mk.kind, .int .i64 mk.res, .int .i64 mk.n, .int .i64 mk.v]] w fun e w' => e = .returned (.bool true) ∧ Below w.heap.size w w' := by
  have hll : (xs ++ List.replicate 80 mk).length = xs.length + 80 := by simp
  obtain ⟨A1, c1, rfl, hc1, hrd⟩ := hf
  obtain ⟨b, off, cap, hv, hcap, -⟩ := (hrd (by omega)).at (by omega)
  obtain ⟨rfl, rfl⟩ : A1 = some ⟨b, off, none⟩ ∧ c1 = cap := by
    simp only [Value.slice.injEq] at hv
    exact ⟨hv.1, hv.2.2⟩
  have hfr := front4 (hrd (by omega)) hc1
  have hrd := hrd (by omega)
  obtain ⟨A2, c2, rfl, -⟩ := h.slice
  rw [hll] at hc1 ⊢
  have wr1 : IntKind.i64.wrap ((xs.length : Int) + 80) = (xs.length : Int) + 80 := by rw [IntKind.wrap_i64]; omega
  have hle : (xs.length : Int) ≤ (c1 : Int) := by omega
  have HFR := Lib.hid hfr
  have HRD := Lib.hid hrd
  have H := Lib.hid h
  obtain ⟨mk0, mr0, mn0, mv0⟩ := mk
  have bd0 : Below w.heap.size w (w.alloc (.cells #[.int .i64 mk0, .int .i64 mr0, .int .i64 mn0, .int .i64 mv0] 32)) := (Below.refl _ _).alloc (Nat.le_refl _) _
  have hL0 : Loc (w.alloc (.cells #[.int .i64 mk0, .int .i64 mr0, .int .i64 mn0, .int .i64 mv0] 32)) w.heap.size [.int .i64 mk0, .int .i64 mr0, .int .i64 mn0, .int .i64 mv0] := Loc.make rfl rfl
  have hsm := same_rd _ _ _ xs (by omega) (HFR.out.new_ bd0) (H.out.new_ bd0)
  have HSM := Lib.hid hsm
  have HL0 := Lib.hid hL0
  have HB0 := Lib.hid bd0
  clear hfr hrd h hsm hv hL0 bd0 hcap
  go_enter Tryd.func30, Tryd.ntmps30
  go_wp2_with fail
  refine HSM.out.mono ?_
  rintro e w1 ⟨rfl, k0, hw1⟩
  have b1 : Below (w.alloc (.cells #[.int .i64 mk0, .int .i64 mr0, .int .i64 mn0, .int .i64 mv0] 32)).heap.size _ w1 := hw1 ▸ drewN_below _ k0
  have HL1 := Lib.hid (HL0.out.new_ b1)
  have HB1 := Lib.hid (HB0.out.trans (b1.mono HB0.out.size))
  clear hw1 b1 HL0 HB0 HSM HFR
  go_wp2_with fail
  go_loopg [7] 80 (fun gn i wr => ∃ k : Nat, gn = xs.length + 80 - k ∧ xs.length ≤ k ∧ k ≤ xs.length + 80 ∧ i = .int .i64 (k : Int) ∧ Below w1.heap.size w1 wr)
  case atStart => exact ⟨xs.length, by omega, Nat.le_refl _, by omega, rfl, Below.refl _ _⟩
  case round =>
    obtain ⟨k, hgk, hk0, hk, rfl, bd⟩ := hrel
    have Hgk := Lib.hid hgk
    have HBD := Lib.hid bd
    clear hgk
    by_cases hlt : k < xs.length + 80
    · have i0 : (k : Int) < (xs.length : Int) + 80 := by omega
      have i1 : (k : Int) < ((xs.length + 80 : Nat) : Int) := by omega
      have hwk : IntKind.i64.wrap ((k : Int) + 1) = (k : Int) + 1 := by rw [IntKind.wrap_i64]; omega
      have hx : (xs ++ List.replicate 80 (⟨mk0, mr0, mn0, mv0⟩ : Op4))[k]? = some ⟨mk0, mr0, mn0, mv0⟩ := by rw [List.getElem?_append_right hk0, List.getElem?_replicate, if_pos (by omega)]
      obtain ⟨g', off', cap', hv, r0, r1, r2, r3⟩ := at4 (HRD.out.new_ (HB1.out.trans (bd.mono HB1.out.size))) hx
      simp only [Value.slice.injEq, Option.some.injEq, Addr.mk.injEq, and_true, true_and] at hv
      obtain ⟨⟨rfl, rfl⟩, rfl⟩ := hv
      have hL := HL1.out.new_ bd
      have c0 := hL.get 0 rfl
      have c1' := hL.get 1 rfl
      have c2' := hL.get 2 rfl
      have c3 := hL.get 3 rfl
      clear hx hL bd
      go_wp2
      go_region
      all_goals
        go_wp2
        go_roundg (xs.length + 80 - (k + 1))
        case measure => have := Hgk.out; omega
        case rel => exact ⟨k + 1, rfl, by omega, by omega, by go_num, HBD.out.drew⟩
    · obtain rfl : k = xs.length + 80 := by omega
      have i0 : ¬ ((xs.length + 80 : Nat) : Int) < (xs.length : Int) + 80 := by omega
      have fin := HB1.out.trans (bd.mono HB1.out.size)
      clear hlt Hgk hk0 hk bd
      as_aux_lemma =>
      go_wp2
      go_ret
      exact ⟨rfl, fin⟩
end CR
end Go.Proofs.YtnehiooioodkfaaDoor
