import Derived.Test.YtnehiooioodkfaaDoorJR
import Derived.Test.YtnehiooioodkfaaDoorJV
import Derived.Test.YtnehiooioodkfaaDoorTab0
import Derived.Test.YtnehiooioodkfaaDoorPC
import Derived.Test.YtnehiooioodkfaaDoorKW
import Derived.Test.YtnehiooioodkfaaDoorPA
import Derived.Test.YtnehiooioodkfaaDoorPE
/-
  KEELBOOK: Roomy and Intact of operations.
-/
set_option linter.unusedVariables false
set_option linter.unusedSimpArgs false
namespace Go.Proofs.YtnehiooioodkfaaDoor
open Go Go.RowKit
namespace CR
open CD
theorem front4 {w : World} {g off cap : Nat} {xs ys : List Op4} (h : Reads w (.slice (some ⟨g, off, none⟩) (xs ++ ys).length cap) (xs ++ ys).length (EOq.css (xs ++ ys))) (hc : (xs ++ ys).length ≤ cap) : Rd4 w (.slice (some ⟨g, off, none⟩) xs.length cap) xs := by
  rw [List.length_append] at hc
  refine ⟨_, cap, rfl, by omega, fun h0 => .inr ⟨g, off, cap, rfl, by omega, fun j u hj => ?_⟩⟩
  obtain ⟨g', off', cap', e, -, hr⟩ := h.at (by rw [List.length_append]; omega)
  injection e with e1 e2 e3
  injection e1 with e1
  injection e1 with e4 e5 e6
  subst e4 e5
  refine hr j u ?_
  rw [EOq.css_append, List.getElem?_append_left (List.getElem?_eq_some_iff.1 hj).1]
  exact hj
theorem run_copy_no {P : Program} (w : World) (dT sT ty elem : TypeId) (sz : Nat) (d a : Option Addr) (dLen dCap sLen sCap : Nat) (hu : P.underlying dT = some (.slice elem)) (hs : (P.info? elem).map (·.size) = some sz) (hn : Nat.min sLen dLen = 0) :
    (Builtin.copy_ #[dT, sT] ty #[.slice d dLen dCap, .slice a sLen sCap]).run P w = .ok (goInt 0) w := by
  cases hq : P.info? elem with
  | none => simp [hq] at hs
  | some i =>
    have hl : ∀ (x : Addr), (loadCells x 0).run P w = .ok #[] w := fun x => by simpa using run_loadCells_list (P := P) w x [] (by simp)
    cases d <;> cases a <;> simp [Builtin.copy_, run_underlying hu, Builtin.lenOf, Builtin.firstCells, sizeOf, typeInfo, hq, hn, storeCells, hl]
def zO : Op4 := ⟨0, 0, 0, 0⟩
theorem css_zO (D : Nat) : EOq.css (List.replicate D zO) = List.replicate (D * 4) (.int .i64 0) := by
  induction D with
  | zero => rfl
  | succ D ih =>
    rw [List.replicate_succ, show zO :: List.replicate D zO = [zO] ++ List.replicate D zO from rfl, EOq.css_append, ih, Nat.add_mul, Nat.one_mul, Nat.add_comm (D * 4) 4, ← List.replicate_append_replicate]
    rfl
theorem made_zO (D : Nat) : (madeCells #[.int .i64 0, .int .i64 0, .int .i64 0, .int .i64 0] (D * 4)).toList = EOq.css (List.replicate D zO) := by
  rw [css_zO]
  apply List.ext_getElem?
  intro i
  by_cases h : i < D * 4
  · rw [Array.getElem?_toList, madeCells_at _ _ _ h, List.getElem?_replicate, if_pos h]
    have h4 : i % 4 < 4 := Nat.mod_lt _ (by omega)
    show some ((#[Value.int .i64 0, .int .i64 0, .int .i64 0, .int .i64 0] : Array Value)[i % 4]!) = _
    rcases (by omega : i % 4 = 0 ∨ i % 4 = 1 ∨ i % 4 = 2 ∨ i % 4 = 3) with e | e | e | e <;> rw [e] <;> rfl
  · rw [List.getElem?_eq_none (by unfold madeCells; simpa using h), List.getElem?_eq_none (by simpa using h)]
theorem fill_at (xs : List Op4) (mk : Op4) (ys : List Op4) (h1 : ys.length = xs.length + 80) (h2 : ys.take xs.length = xs) (h3 : ∀ j x, xs.length ≤ j → j < xs.length + 80 → ys[j]? = some x → x = mk) : ys = xs ++ List.replicate 80 mk := by
  apply List.ext_getElem?
  intro j
  by_cases c1 : j < xs.length
  · rw [List.getElem?_append_left c1]
    conv => rhs; rw [← h2]
    rw [List.getElem?_take_of_lt c1]
  · by_cases c2 : j < xs.length + 80
    · have hs : ys[j]? = some ys[j] := List.getElem?_eq_getElem (by omega)
      rw [List.getElem?_append_right (by omega), List.getElem?_replicate, if_pos (by omega), hs, h3 j _ (by omega) c2 hs]
    · rw [List.getElem?_eq_none (by omega), List.getElem?_eq_none (by simp; omega)]
set_option maxRecDepth 100000 in
set_option maxHeartbeats 4000000 in
theorem roomy (w : World) (v : Value) (xs : List Op4) (mk : Op4) (full : List Op4) (hfull : full = xs ++ List.replicate 80 mk) (h : Rd4 w v xs) (hn : xs.length ≤ 1000000) : Calls Tryd.prog 26 #[v, .agg #[.int .i64 mk.kind, .int .i64 mk.res, .int .i64 mk.n, .int .i64 mk.v]] w fun e w' => ∃ v', e = .returned v' ∧ Reads w' v' full.length (EOq.css full) ∧ Below w.heap.size w w' := by
  have HFU := Lib.hid hfull
  clear hfull
  obtain ⟨A, c, rfl, -⟩ := h.slice
  have Hr := Lib.hid h
  clear h
  have wr1 : IntKind.i64.wrap ((xs.length : Int) + 80) = (xs.length : Int) + 80 := by rw [IntKind.wrap_i64]; omega
  obtain ⟨mk0, mr0, mn0, mv0⟩ := mk
  go_enter Tryd.func26, Tryd.ntmps26
  obtain ⟨owb, hBx, nb, zb⟩ := SH.add_cells w ow0 [1, 0] [.int .i64 mk0, .int .i64 mr0, .int .i64 mn0, .int .i64 mv0] 32
  go_wp2_with (at_make; refine wpList_make_row [1, 1] owb rfl _ _ 22 rfl 32 _ 4 32 Tryd.underlying22 EOq.info rfl _ _ _ _ (xs.length + 80) (xs.length + 80) rfl (by omega) rfl (by omega) (Nat.le_refl _) (by omega) (by unfold maxLen; omega) ?_)
  intro v1 w1 ow1 hr nx
  rw [made_zO] at hr
  have t := (nb.trans nx).turn [1]
  have hBx1 := hBx.new_ nx
  have hrd := Hr.out.new_ (nb.trans nx).below
  clear nx nb hBx zb
  obtain ⟨b, off, cap, rfl, hc1, hc2, hb, -⟩ := hr.at (by omega)
  have hcopy : ∃ w2, (Builtin.copy_ #[22, 22] 3 #[.slice (some ⟨b, off, none⟩) (xs.length + 80) cap, .slice A xs.length c]).run Tryd.prog w1 = .ok (goInt xs.length) w2 ∧ Row w2 ow1 [1, 1] 32 4 (.slice (some ⟨b, off, none⟩) (xs.length + 80) cap) (xs.length + 80) (EOq.css (xs ++ List.replicate 80 zO)) ∧ Turn [1, 1] w1 ow1 w2 ow1 := by
    by_cases h0 : xs.length = 0
    · obtain rfl : xs = [] := List.length_eq_zero_iff.1 h0
      exact ⟨w1, run_copy_no w1 _ _ _ 32 4 (some ⟨b, off, none⟩) A _ _ _ _ Tryd.underlying22 (show (Tryd.prog.info? 32).map (fun x => x.size) = some 4 by kernel_rfl) (Nat.min_eq_left (Nat.zero_le _)), by simpa using hr, Turn.refl _ _ _⟩
    · obtain ⟨A', c', hv, hlc⟩ := hrd.open_
      obtain ⟨rfl, rfl⟩ : A = A' ∧ c = c' := by simpa using hv
      obtain ⟨g, xo, rfl, hx⟩ := hlc (by omega)
      have hrun := run_copy_row (P := Tryd.prog) w1 ow1 [1, 1] 22 22 3 32 4 (xs.length + 80) cap b off _ Tryd.underlying22 (by kernel_rfl) hr 0 (Nat.zero_le _) xs.length (EOq.css xs) (xb := g) (xo := xo) (xc := c) hx (EOq.css_length xs) (by omega) (EOq.css_one xs) xs.length (xs.length + 80) (Nat.min_eq_left (by omega)) cap
      have hset := hr.sets 0 (EOq.css xs) (by rw [EOq.css_length, EOq.css_length, List.length_replicate]; omega)
      have hst := hr.setsTurn off (EOq.css xs)
      simp only [Nat.zero_mul, Nat.add_zero] at hrun hset
      refine ⟨_, hrun, ?_, hst⟩
      have he : (EOq.css (List.replicate (xs.length + 80) zO)).take 0 ++ EOq.css xs ++ (EOq.css (List.replicate (xs.length + 80) zO)).drop (0 + (EOq.css xs).length) = EOq.css (xs ++ List.replicate 80 zO) := by
        rw [List.take_zero, List.nil_append, Nat.zero_add, EOq.css_length, ← EOq.css_drop, EOq.css_append, List.drop_replicate]
        congr 3
        omega
      rw [he] at hset
      exact hset
  obtain ⟨w2, hrun, hr2, t2⟩ := hcopy
  have hBx2 := hBx1.keep t2 (by simp)
  have t3 := t.trans (t2.up (by simp))
  clear hr t t2 hrd hBx1
  go_wp2_with (at_builtin; refine wpList_copy_run rfl (.tmp 11) (.tmp 12) 22 22 rfl _ _ rfl rfl hrun ?_)
  clear hrun
  go_wp2_with fail
  go_loopg [6] 80 (fun gn i wr => ∃ (k : Nat) (ys : List Op4) (OW : Ow), gn = xs.length + 80 - k ∧ xs.length ≤ k ∧ k ≤ xs.length + 80 ∧ i = .int .i64 (k : Int) ∧ ys.length = xs.length + 80 ∧ ys.take xs.length = xs ∧ (∀ j x, xs.length ≤ j → j < k → ys[j]? = some x → x = ⟨mk0, mr0, mn0, mv0⟩) ∧ Row wr OW [1, 1] 32 4 (.slice (some ⟨b, off, none⟩) (xs.length + 80) cap) (xs.length + 80) (EOq.css ys) ∧ Cells wr OW [1, 0] w.heap.size 0 [.int .i64 mk0, .int .i64 mr0, .int .i64 mn0, .int .i64 mv0] ∧ Turn [1] w ow0 wr OW)
  case atStart => exact ⟨xs.length, xs ++ List.replicate 80 zO, ow1, by omega, Nat.le_refl _, by omega, rfl, by simp, by simp, fun j x h1 h2 => by omega, hr2, hBx2, t3⟩
  case round =>
    clear hr2 hBx2 t3
    obtain ⟨k, ys, OW, hgk, hk0, hk, rfl, hyl, hyt, hym, hr, hX, t⟩ := hrel
    have Hgk := Lib.hid hgk
    have Hyl := Lib.hid hyl
    have Hyt := Lib.hid hyt
    have Hym := Lib.hid hym
    clear hgk hyt hym
    by_cases hlt : k < xs.length + 80
    · have i0 : (k : Int) < (xs.length : Int) + 80 := by omega
      have i1 : (k : Int) < ((xs.length + 80 : Nat) : Int) := by omega
      have hwk : IntKind.i64.wrap ((k : Int) + 1) = (k : Int) + 1 := by rw [IntKind.wrap_i64]; omega
      obtain ⟨x, hx⟩ : ∃ x, ys[k]? = some x := ⟨_, List.getElem?_eq_getElem (by omega)⟩
      have hrr := Row.reads hr
      rw [← hyl] at hrr
      obtain ⟨g', off', cap', hv, r0, r1, r2, r3⟩ := at4 hrr hx
      simp only [Value.slice.injEq, Option.some.injEq, Addr.mk.injEq, and_true, true_and] at hv
      obtain ⟨⟨rfl, rfl⟩, -, rfl⟩ := hv
      obtain ⟨-, ho, hf, -⟩ := hr.open_
      have hr1 := (((hr.set (k * 4) (.int .i64 mk0)).set (k * 4 + 1) (.int .i64 mr0)).set (k * 4 + 2) (.int .i64 mn0)).set (k * 4 + 3) (.int .i64 mv0)
      have hcc := EOq.css_cells ys k ⟨mk0, mr0, mn0, mv0⟩
      simp only at hcc
      rw [hcc] at hr1
      simp only [← Nat.add_assoc] at hr1
      have c0 := hX.get 0 rfl
      have c1 := hX.get 1 rfl
      have c2 := hX.get 2 rfl
      have c3 := hX.get 3 rfl
      simp only [Nat.zero_add] at c0 c1 c2 c3
      have ob : ∀ i, [1, 1] <+: OW b i := fun i => by rw [ho]; exact List.prefix_refl _
      have T' := ((((Turn.refl [1, 1] wr OW).setCell (g := b) (o := off + k * 4) (.int .i64 mk0) (ob _)).setCell (g := b) (o := off + k * 4 + 1) (.int .i64 mr0) (ob _)).setCell (g := b) (o := off + k * 4 + 2) (.int .i64 mn0) (ob _)).setCell (g := b) (o := off + k * 4 + 3) (.int .i64 mv0) (ob _)
      have hX' := hX.keep T' (by simp)
      have t' := t.trans (T'.up (by simp))
      have HR1 := Lib.hid hr1
      have HX' := Lib.hid hX'
      have HT' := Lib.hid t'
      clear hr hrr hr1 hcc T' ob ho hx hX hX' t t' hyl
      go_wp2
      go_roundg (xs.length + 80 - (k + 1))
      case measure => have := Hgk.out; omega
      case rel => exact ⟨k + 1, ys.set k ⟨mk0, mr0, mn0, mv0⟩, OW, rfl, by omega, by omega, by go_num, by rw [List.length_set]; exact Hyl.out, by rw [List.take_set_of_le (by omega)]; exact Hyt.out, fun j y h1 h2 hy => by
        by_cases e : j = k
        · rw [e, List.getElem?_set_self (by rw [Hyl.out]; exact hlt)] at hy
          injection hy with hy
          exact hy.symm
        · rw [List.getElem?_set_ne (fun h => e h.symm)] at hy; exact Hym.out j y h1 (by omega) hy, HR1.out, HX'.out, HT'.out⟩
    · obtain rfl : k = xs.length + 80 := by omega
      have hys : ys = full := (fill_at xs ⟨mk0, mr0, mn0, mv0⟩ ys Hyl.out Hyt.out Hym.out).trans HFU.out.symm
      subst hys
      have fin := (t.new_ ow0 [1]).below
      have i0 : ¬ ((xs.length + 80 : Nat) : Int) < (xs.length : Int) + 80 := by omega
      have hrr : Reads wr (.slice (some ⟨b, off, none⟩) (xs.length + 80) cap) ys.length (EOq.css ys) := by rw [Hyl.out]; exact Row.reads hr
      have HRR := Lib.hid hrr
      clear hlt Hgk Hyl Hyt Hym hk0 hk hr hrr hX t hyl HFU
      as_aux_lemma =>
      go_wp2
      go_ret
      exact ⟨.slice (some ⟨b, off, none⟩) (xs.length + 80) cap, rfl, HRR.out, fin⟩
set_option maxRecDepth 100000 in
set_option maxHeartbeats 4000000 in
theorem intact (w : World) (vf v : Value) (xs : List Op4) (mk : Op4) (hf : Rd4 w vf (xs ++ List.replicate 80 mk)) (h : Rd4 w v xs) (hn : xs.length ≤ 1000000) : Calls Tryd.prog 30 #[vf, v, .agg #[.int .i64 mk.kind, .int .i64 mk.res, .int .i64 mk.n, .int .i64 mk.v]] w fun e w' => e = .returned (.bool true) ∧ Below w.heap.size w w' := by
  have hll : (xs ++ List.replicate 80 mk).length = xs.length + 80 := by simp
  obtain ⟨A1, c1, rfl, hc1, hrd⟩ := hf
  obtain ⟨b, off, cap, hv, hcap, -⟩ := (hrd (by omega)).at (by omega)
  obtain ⟨rfl, rfl⟩ : A1 = some ⟨b, off, none⟩ ∧ c1 = cap := by
    simp only [Value.slice.injEq] at hv
    exact ⟨hv.1, hv.2.2⟩
  have hfr := front4 (hrd (by omega)) hc1
  have hrd := hrd (by omega)
  obtain ⟨A2, c2, rfl, -⟩ := h.slice
  rw [hll] at hc1 ⊢
  have wr1 : IntKind.i64.wrap ((xs.length : Int) + 80) = (xs.length : Int) + 80 := by rw [IntKind.wrap_i64]; omega
  have hle : (xs.length : Int) ≤ (c1 : Int) := by omega
  have HFR := Lib.hid hfr
  have HRD := Lib.hid hrd
  have H := Lib.hid h
  obtain ⟨mk0, mr0, mn0, mv0⟩ := mk
  have bd0 : Below w.heap.size w (w.alloc (.cells #[.int .i64 mk0, .int .i64 mr0, .int .i64 mn0, .int .i64 mv0] 32)) := (Below.refl _ _).alloc (Nat.le_refl _) _
  have hL0 : Loc (w.alloc (.cells #[.int .i64 mk0, .int .i64 mr0, .int .i64 mn0, .int .i64 mv0] 32)) w.heap.size [.int .i64 mk0, .int .i64 mr0, .int .i64 mn0, .int .i64 mv0] := Loc.make rfl rfl
  have hsm := same_rd _ _ _ xs (by omega) (HFR.out.new_ bd0) (H.out.new_ bd0)
  have HSM := Lib.hid hsm
  have HL0 := Lib.hid hL0
  have HB0 := Lib.hid bd0
  clear hfr hrd h hsm hv hL0 bd0 hcap
  go_enter Tryd.func30, Tryd.ntmps30
  go_wp2_with fail
  refine HSM.out.mono ?_
  rintro e w1 ⟨rfl, k0, hw1⟩
  have b1 : Below (w.alloc (.cells #[.int .i64 mk0, .int .i64 mr0, .int .i64 mn0, .int .i64 mv0] 32)).heap.size _ w1 := hw1 ▸ drewN_below _ k0
  have HL1 := Lib.hid (HL0.out.new_ b1)
  have HB1 := Lib.hid (HB0.out.trans (b1.mono HB0.out.size))
  clear hw1 b1 HL0 HB0 HSM HFR
  go_wp2_with fail
  go_loopg [7] 80 (fun gn i wr => ∃ k : Nat, gn = xs.length + 80 - k ∧ xs.length ≤ k ∧ k ≤ xs.length + 80 ∧ i = .int .i64 (k : Int) ∧ Below w1.heap.size w1 wr)
  case atStart => exact ⟨xs.length, by omega, Nat.le_refl _, by omega, rfl, Below.refl _ _⟩
  case round =>
    obtain ⟨k, hgk, hk0, hk, rfl, bd⟩ := hrel
    have Hgk := Lib.hid hgk
    have HBD := Lib.hid bd
    clear hgk
    by_cases hlt : k < xs.length + 80
    · have i0 : (k : Int) < (xs.length : Int) + 80 := by omega
      have i1 : (k : Int) < ((xs.length + 80 : Nat) : Int) := by omega
      have hwk : IntKind.i64.wrap ((k : Int) + 1) = (k : Int) + 1 := by rw [IntKind.wrap_i64]; omega
      have hx : (xs ++ List.replicate 80 (⟨mk0, mr0, mn0, mv0⟩ : Op4))[k]? = some ⟨mk0, mr0, mn0, mv0⟩ := by rw [List.getElem?_append_right hk0, List.getElem?_replicate, if_pos (by omega)]
      obtain ⟨g', off', cap', hv, r0, r1, r2, r3⟩ := at4 (HRD.out.new_ (HB1.out.trans (bd.mono HB1.out.size))) hx
      simp only [Value.slice.injEq, Option.some.injEq, Addr.mk.injEq, and_true, true_and] at hv
      obtain ⟨⟨rfl, rfl⟩, rfl⟩ := hv
      have hL := HL1.out.new_ bd
      have c0 := hL.get 0 rfl
      have c1' := hL.get 1 rfl
      have c2' := hL.get 2 rfl
      have c3 := hL.get 3 rfl
      clear hx hL bd
      go_wp2
      go_region
      all_goals
        go_wp2
        go_roundg (xs.length + 80 - (k + 1))
        case measure => have := Hgk.out; omega
        case rel => exact ⟨k + 1, rfl, by omega, by omega, by go_num, HBD.out.drew⟩
    · obtain rfl : k = xs.length + 80 := by omega
      have i0 : ¬ ((xs.length + 80 : Nat) : Int) < (xs.length : Int) + 80 := by omega
      have fin := HB1.out.trans (bd.mono HB1.out.size)
      clear hlt Hgk hk0 hk bd
      as_aux_lemma =>
      go_wp2
      go_ret
      exact ⟨rfl, fin⟩
end CR
end Go.Proofs.YtnehiooioodkfaaDoor

/-
  CODE: the law CodePrints.
-/
set_option linter.unusedVariables false
set_option linter.unusedSimpArgs false
namespace Go.Proofs.YtnehiooioodkfaaDoor
open Go Go.RowKit
namespace CR
open CD
def mkO : Op4 := ⟨-77, 0, 0, 0⟩
theorem mark (w : World) : Calls Tryd.prog 27 #[] w fun e w' => e = .returned (.agg #[.int .i64 mkO.kind, .int .i64 mkO.res, .int .i64 mkO.n, .int .i64 mkO.v]) ∧ Below w.heap.size w w' := by
  go_enter Tryd.func27, Tryd.ntmps27
  go_wp2
  refine bodyPost_ret (v := .agg #[.int .i64 mkO.kind, .int .i64 mkO.res, .int .i64 mkO.n, .int .i64 mkO.v]) (by simp [results, Tryd.results27, go_sem, mkO]) rfl ⟨rfl, (Below.refl _ _).alloc (Nat.le_refl _) _⟩
set_option maxRecDepth 100000 in
set_option maxHeartbeats 4000000 in
theorem printsL (w : World) (hV : VL w) (v0 : Value) (ps0 : List Op4) (h0 : EOq.In w v0 ps0) (hr0 : ∀ o ∈ ps0, Rg o) :
    Calls Tryd.prog 5 #[v0] w fun e w' => e = .returned (.bool true) ∧ Below w.heap.size w w' := by
  have hs1 := EOq.few w v0 ps0 300 h0 (by omega)
  have HS1 := Lib.hid hs1
  have HV := Lib.hid hV
  have HR := Lib.hid (fun (W : World) (b : Below w.heap.size w W) => runs W (HV.out.nb b))
  clear hs1 hV h0
  go_enter Tryd.func5, Tryd.ntmps5
  go_wp2_with fail
  refine HS1.out.mono ?_
  rintro e w1 ⟨v2, rfl, hin1, hw⟩
  subst w1
  have hpl : (ps0.take 300).length ≤ 300 := List.length_take_le _ _
  have hrg : ∀ o ∈ ps0.take 300, Rg o := fun o ho => hr0 o (List.mem_of_mem_take ho)
  have hp := rd_of_in hin1
  clear HS1 hin1 hr0
  generalize ps0.take 300 = ps at *
  have HP := Lib.hid hp
  obtain ⟨A1, c1, rfl, -⟩ := hp.slice
  clear hp
  obtain ⟨full, hfull⟩ : ∃ full, full = ps ++ List.replicate 80 mkO := ⟨_, rfl⟩
  have hfl : full.length = ps.length + 80 := by rw [hfull, List.length_append, List.length_replicate]
  have hroom := fun (W : World) (h : Rd4 W (.slice A1 ps.length c1) ps) => roomy W _ ps mkO full hfull h (by omega)
  have hint := fun (W : World) (vf : Value) (hf : Rd4 W vf full) (h : Rd4 W (.slice A1 ps.length c1) ps) => intact W vf _ ps mkO (by rw [← hfull]; exact hf) h (by omega)
  have hpr := fun (W : World) (v : Value) (h : Rd4 W v ps) (hv : VL W) => print W v ps h (by omega) hrg hv
  have hck := fun (W : World) (v : Value) (h : Rd4 W v ps) => check W v ps h (by omega)
  have hrp := fun (W : World) (v : Value) (h : Rd4 W v ps) => rprint W v ps h (by omega) hrg
  have hrc := fun (W : World) (v : Value) (h : Rd4 W v ps) => rcheck W v ps h (by omega)
  have hmk := mark
  have hfr : ∀ (W : World) (g off cap : Nat), Reads W (.slice (some ⟨g, off, none⟩) full.length cap) full.length (EOq.css full) → full.length ≤ cap → Rd4 W (.slice (some ⟨g, off, none⟩) ps.length cap) ps := fun W g off cap h1 h2 => front4 (xs := ps) (ys := List.replicate 80 mkO) (by rw [← hfull]; exact h1) (by rw [← hfull]; exact h2)
  clear hfull
  generalize (printB ps).1 = T at *
  generalize (printB ps).2 = E at *
  generalize (checkB ps).1 = a at *
  generalize (checkB ps).2 = g at *
  have HROOM := Lib.hid hroom
  have HINT := Lib.hid hint
  have HPR := Lib.hid hpr
  have HCK := Lib.hid hck
  have HRP := Lib.hid hrp
  have HRC := Lib.hid hrc
  have HMK := Lib.hid hmk
  have HFR := Lib.hid hfr
  clear hroom hint hpr hck hrp hrc hmk hfr hrg
  go_wp2_with fail
  refine (HMK.out w).mono ?_
  rintro e w1 ⟨rfl, b1⟩
  have HP1 := Lib.hid (HP.out.new_ b1)
  have HB1 := Lib.hid b1
  clear b1
  go_wp2_with fail
  refine (HROOM.out w1 HP1.out).mono ?_
  rintro e w2 ⟨v3, rfl, r3, b2⟩
  have HB2 := Lib.hid (HB1.out.trans (b2.mono HB1.out.size))
  have HP2 := Lib.hid (HP1.out.new_ b2)
  obtain ⟨gb, off, cap, rfl, hcap, -⟩ := r3.at (by omega)
  have hfront := HFR.out w2 gb off cap r3 hcap
  have HF2 := Lib.hid hfront
  have HU2 := Lib.hid (rd4 r3)
  have hle : (ps.length : Int) ≤ (cap : Int) := by omega
  clear b2 r3 hfront HP1 HB1 HROOM HFR
  go_wp2_with fail
  refine (HRP.out w2 _ HP2.out).mono ?_
  rintro e w3 ⟨rfl, b3⟩
  have HB3 := Lib.hid (HB2.out.trans (b3.mono HB2.out.size))
  have HP3 := Lib.hid (HP2.out.new_ b3)
  have HF3 := Lib.hid (HF2.out.new_ b3)
  have HU3 := Lib.hid (HU2.out.new_ b3)
  clear b3 HP2 HF2 HU2 HB2 HRP
  go_wp2_with fail
  refine (HRC.out w3 _ HP3.out).mono ?_
  rintro e w4 ⟨rfl, b4⟩
  have HB4 := Lib.hid (HB3.out.trans (b4.mono HB3.out.size))
  have HP4 := Lib.hid (HP3.out.new_ b4)
  have HF4 := Lib.hid (HF3.out.new_ b4)
  have HU4 := Lib.hid (HU3.out.new_ b4)
  have hs0 : (T.toList == T.toList) = true := beq_self_eq_true _
  have hs1 : (E != E) = false := by simp
  have hs2 : (a != a) = false := by simp
  have hs3 : (g != g) = false := by simp
  clear b4 HP3 HF3 HU3 HB3 HRC
  go_wp2
  go_loopg [8] 2 (fun gn i wr => ∃ k : Nat, gn = 2 - k ∧ k ≤ 2 ∧ i = .int .i64 (k : Int) ∧ Below w4.heap.size w4 wr)
  case atStart => exact ⟨0, rfl, by omega, rfl, Below.refl _ _⟩
  case round =>
    obtain ⟨k, hgk, hk, rfl, bd⟩ := hrel
    have Hgk := Lib.hid hgk
    have HBD := Lib.hid bd
    have HB5 := Lib.hid (HB4.out.trans (bd.mono HB4.out.size))
    have HP5 := Lib.hid (HP4.out.new_ bd)
    have HF5 := Lib.hid (HF4.out.new_ bd)
    have HU5 := Lib.hid (HU4.out.new_ bd)
    clear hgk bd
    by_cases hlt : k < 2
    · have i0 : (k : Int) < 2 := by omega
      have hwk : IntKind.i64.wrap ((k : Int) + 1) = (k : Int) + 1 := by rw [IntKind.wrap_i64]; omega
      go_wp2_with fail
      refine (HPR.out wr _ HF5.out (HV.out.nb HB5.out)).mono ?_
      rintro e w6 ⟨rfl, b6⟩
      have HF6 := Lib.hid (HF5.out.new_ b6)
      have HBD6 := Lib.hid (HBD.out.trans (b6.mono HBD.out.size))
      clear b6 HF5 HBD HB5 HP5 HU5
      go_wp2_with fail
      refine (HCK.out w6 _ HF6.out).mono ?_
      rintro e w7 ⟨rfl, b7⟩
      have HBD7 := Lib.hid (HBD6.out.trans (b7.mono HBD6.out.size))
      clear b7 HF6 HBD6
      go_wp2
      go_roundg (2 - (k + 1))
      case measure => have := Hgk.out; omega
      case rel => exact ⟨k + 1, rfl, by omega, by go_num, HBD7.out⟩
    · obtain rfl : k = 2 := by omega
      have i0 : ¬ ((2 : Nat) : Int) < 2 := by omega
      go_wp2_with fail
      refine (HMK.out wr).mono ?_
      rintro e w6 ⟨rfl, b6⟩
      have HB6 := Lib.hid (HB5.out.trans (b6.mono HB5.out.size))
      have HP6 := Lib.hid (HP5.out.new_ b6)
      have HU6 := Lib.hid (HU5.out.new_ b6)
      clear b6 HB5 HP5 HU5 HF5 HBD
      have hI := HINT.out w6 _ HU6.out HP6.out
      rw [hfl] at hI
      have HI := Lib.hid hI
      clear hI
      go_wp2_with fail
      refine HI.out.mono ?_
      rintro e w7 ⟨rfl, b7⟩
      have HB7 := Lib.hid (HB6.out.trans (b7.mono HB6.out.size))
      clear b7 HB6 HP6 HU6
      go_wp2_with fail
      refine (HR.out _ HB7.out).mono ?_
      rintro e w9 ⟨rfl, b9⟩
      go_wp2
      go_ret
      exact ⟨rfl, HB7.out.trans (b9.mono HB7.out.size)⟩
end CR
end Go.Proofs.YtnehiooioodkfaaDoor

/-
  CODE: the document's shut: where a repeat ends.
-/
set_option linter.unusedVariables false
set_option linter.unusedSimpArgs false
namespace Go.Proofs.YtnehiooioodkfaaDoor
open Go Go.RowKit
namespace CR
open CD
def upO (o : Op4) (op : Int) : Int := if o.kind = 10 then op + 1 else op
def dnO (o : Op4) (op : Int) : Int := if o.kind = 11 then op - 1 else op
/-- Where the open repeats end, from a place on. -/
def scanI : List Op4 → Nat → Int → Nat
  | [], k, _ => k
  | o :: r, k, op => if dnO o (upO o op) = 0 then k else scanI r (k + 1) (dnO o (upO o op))
theorem scan_whole : ∀ (f : Nat) (b S r : List Op4) (k : Nat) (op : Int), Whole f b S → 1 ≤ op → scanI (b ++ r) k op = scanI r (k + b.length) op
  | 0, b, S, r, k, op, h, _ => by
    obtain ⟨rfl, -⟩ := h
    rfl
  | f + 1, b, S, r, k, op, h, h1 => by
    rcases h with ⟨rfl, -⟩ | ⟨o, b', e, r', B, R, rfl, -, h10, h11, hB, hR⟩ | ⟨o, r', R, rfl, h5, -, hR⟩ | ⟨o, r', R, rfl, h10, h11, -, -, hR⟩
    · rfl
    · have e1 : dnO o (upO o op) = op + 1 := by unfold dnO upO; rw [if_pos h10, if_neg (by rw [h10]; decide)]
      have e2 : dnO e (upO e (op + 1)) = op := by unfold dnO upO; rw [if_pos h11, if_neg (by rw [h11]; decide)]; omega
      rw [List.cons_append, scanI, e1, if_neg (by omega), List.append_assoc, scan_whole f b' B _ (k + 1) (op + 1) hB (by omega), List.cons_append, scanI, e2, if_neg (by omega), scan_whole f r' R r _ op hR h1]
      congr 1
      simp only [List.length_cons, List.length_append]
      omega
    · have e1 : dnO o (upO o op) = op := by unfold dnO upO; rw [if_neg (by rw [h5]; decide), if_neg (by rw [h5]; decide)]
      rw [List.cons_append, scanI, e1, if_neg (by omega), scan_whole f r' R r _ op hR h1]
      congr 1
      simp only [List.length_cons]
      omega
    · have e1 : dnO o (upO o op) = op := by unfold dnO upO; rw [if_neg h10, if_neg h11]
      rw [List.cons_append, scanI, e1, if_neg (by omega), scan_whole f r' R r _ op hR h1]
      congr 1
      simp only [List.length_cons]
      omega
theorem scan_rep {f : Nat} {o e : Op4} {b B r : List Op4} (i : Nat) (h10 : o.kind = 10) (h11 : e.kind = 11) (hB : Whole f b B) : scanI (o :: (b ++ e :: r)) i 0 = i + 1 + b.length := by
  have e1 : dnO o (upO o 0) = 1 := by unfold dnO upO; rw [if_pos h10, if_neg (by rw [h10]; decide)]; rfl
  have e2 : dnO e (upO e 1) = 0 := by unfold dnO upO; rw [if_pos h11, if_neg (by rw [h11]; decide)]; rfl
  rw [scanI, e1, if_neg (by decide), scan_whole f b B _ _ 1 hB (by omega), scanI, e2, if_pos rfl]
set_option maxRecDepth 100000 in
set_option maxHeartbeats 4000000 in
theorem shut (w : World) (v : Value) (xs : List Op4) (h : Rd4 w v xs) (hn : xs.length ≤ 100000) (i : Nat) (hi : i ≤ xs.length) : Calls Tryd.prog 67 #[v, .int .i64 (i : Int)] w fun e w' => e = .returned (.int .i64 (scanI (xs.drop i) i 0 : Int)) ∧ w' = w := by
  obtain ⟨C, hC⟩ : ∃ C, scanI (xs.drop i) i 0 = C := ⟨_, rfl⟩
  rw [hC]
  have HC := Lib.hid hC
  have H := Lib.hid h
  obtain ⟨A, c, rfl, -⟩ := h.slice
  clear h hC
  go_enter Tryd.func67, Tryd.ntmps67
  go_wp2
  go_loopg [5, 6] (xs.length - i) (fun gn ov kv wr => ∃ (k : Nat) (op : Int), gn = xs.length - k ∧ i ≤ k ∧ k ≤ xs.length ∧ ov = .int .i64 op ∧ kv = .int .i64 (k : Int) ∧ -(k : Int) ≤ op ∧ op ≤ (k : Int) ∧ scanI (xs.drop k) k op = C ∧ wr = w)
  case atStart => exact ⟨i, 0, rfl, Nat.le_refl _, hi, rfl, rfl, by omega, by omega, HC.out, rfl⟩
  case round =>
    clear HC
    obtain ⟨k, op, hgk, hik, hk, rfl, rfl, hl1, hl2, hsc, hw⟩ := hrel
    subst wr
    have Hgk := Lib.hid hgk
    clear hgk
    by_cases hlt : k < xs.length
    · have j0 : (k : Int) < (xs.length : Int) := by omega
      have hwk : IntKind.i64.wrap ((k : Int) + 1) = (k : Int) + 1 := by rw [IntKind.wrap_i64]; omega
      obtain ⟨x, hx⟩ : ∃ x, xs[k]? = some x := ⟨_, List.getElem?_eq_getElem (by omega)⟩
      obtain ⟨g, off, cap, hv, r0, -⟩ := at4r H.out hx
      simp only [Value.slice.injEq, true_and] at hv
      obtain ⟨rfl, rfl⟩ := hv
      rw [drop_cons hx, scanI] at hsc
      clear hx
      by_cases h10 : x.kind = 10
      · have b10 : (x.kind == 10) = true := beq_iff_eq.2 h10
        have b11 : (x.kind == 11) = false := beq_eq_false_iff_ne.2 (by omega)
        have e1 : dnO x (upO x op) = op + 1 := by unfold dnO upO; rw [if_pos h10, if_neg (by rw [h10]; decide)]
        have hwo : IntKind.i64.wrap (op + 1) = op + 1 := by rw [IntKind.wrap_i64]; omega
        rw [e1] at hsc
        by_cases h0 : op + 1 = 0
        · have z0 : (op + 1 == 0) = true := beq_iff_eq.2 h0
          rw [if_pos h0] at hsc
          subst hsc
          as_aux_lemma =>
          go_wp2
          go_ret
          exact ⟨rfl, rfl⟩
        · have z0 : (op + 1 == 0) = false := beq_eq_false_iff_ne.2 h0
          rw [if_neg h0] at hsc
          have HS := Lib.hid hsc
          clear hsc h0 h10 e1
          as_aux_lemma =>
          go_wp2
          go_roundg (xs.length - (k + 1))
          case measure => have := Hgk.out; omega
          case rel => exact ⟨k + 1, op + 1, rfl, by omega, by omega, rfl, by go_num, by omega, by omega, HS.out, rfl⟩
      have b10 : (x.kind == 10) = false := beq_eq_false_iff_ne.2 h10
      by_cases h11 : x.kind = 11
      · have b11 : (x.kind == 11) = true := beq_iff_eq.2 h11
        have e1 : dnO x (upO x op) = op - 1 := by unfold dnO upO; rw [if_neg h10, if_pos h11]
        have hwo : IntKind.i64.wrap (op - 1) = op - 1 := by rw [IntKind.wrap_i64]; omega
        rw [e1] at hsc
        by_cases h0 : op - 1 = 0
        · have z0 : (op - 1 == 0) = true := beq_iff_eq.2 h0
          rw [if_pos h0] at hsc
          subst hsc
          as_aux_lemma =>
          go_wp2
          go_ret
          exact ⟨rfl, rfl⟩
        · have z0 : (op - 1 == 0) = false := beq_eq_false_iff_ne.2 h0
          rw [if_neg h0] at hsc
          have HS := Lib.hid hsc
          clear hsc h0 h11 e1
          as_aux_lemma =>
          go_wp2
          go_roundg (xs.length - (k + 1))
          case measure => have := Hgk.out; omega
          case rel => exact ⟨k + 1, op - 1, rfl, by omega, by omega, rfl, by go_num, by omega, by omega, HS.out, rfl⟩
      have b11 : (x.kind == 11) = false := beq_eq_false_iff_ne.2 h11
      have e1 : dnO x (upO x op) = op := by unfold dnO upO; rw [if_neg h10, if_neg h11]
      rw [e1] at hsc
      by_cases h0 : op = 0
      · have z0 : (op == 0) = true := beq_iff_eq.2 h0
        rw [if_pos h0] at hsc
        subst hsc
        clear h0
        as_aux_lemma =>
        go_wp2
        go_ret
        exact ⟨rfl, rfl⟩
      · have z0 : (op == 0) = false := beq_eq_false_iff_ne.2 h0
        rw [if_neg h0] at hsc
        have HS := Lib.hid hsc
        clear hsc h0 e1
        as_aux_lemma =>
        go_wp2
        go_roundg (xs.length - (k + 1))
        case measure => have := Hgk.out; omega
        case rel => exact ⟨k + 1, op, rfl, by omega, by omega, rfl, by go_num, by omega, by omega, HS.out, rfl⟩
    · obtain rfl : k = xs.length := by omega
      have j0 : ¬ (xs.length : Int) < (xs.length : Int) := by omega
      rw [List.drop_length, scanI] at hsc
      subst hsc
      as_aux_lemma =>
      go_wp2
      go_ret
      exact ⟨rfl, rfl⟩
end CR
end Go.Proofs.YtnehiooioodkfaaDoor

/-
  CODE: the document's step: a step is laid down.
-/
set_option linter.unusedVariables false
set_option linter.unusedSimpArgs false
namespace Go.Proofs.YtnehiooioodkfaaDoor
open Go Go.RowKit
namespace CR
open CD
/-- The run: what is laid down, whether a finish came, whether it became too long. -/
def RN (w : World) (ow : Ow) (g : Nat) (out : List Op4) (d l : Bool) : Prop := ∃ v : Value, Cells w ow [1, 0] g 0 [v, .bool d, .bool l] ∧ Row w ow [1, 1] 32 4 v out.length (EOq.css out)
theorem RN.new_ {w w1 : World} {ow ow1 : Ow} {g : Nat} {out : List Op4} {d l : Bool} (h : RN w ow g out d l) (t : New w ow w1 ow1) : RN w1 ow1 g out d l := by
  obtain ⟨v, h1, h2⟩ := h
  exact ⟨v, h1.new_ t, h2.new_ t⟩
set_option maxRecDepth 100000 in
set_option maxHeartbeats 4000000 in
theorem step_over (w : World) (ow : Ow) (g : Nat) (out : List Op4) (d l : Bool) (o : Op4) (h : RN w ow g out d l) (hn : out.length = 4096) :
    Calls Tryd.prog 58 #[.pointer (some ⟨g, 0, none⟩), .agg #[.int .i64 o.kind, .int .i64 o.res, .int .i64 o.n, .int .i64 o.v]] w fun e w' => ∃ OW, e = .returned (.tuple #[]) ∧ RN w' OW g out d true ∧ Turn [1] w ow w' OW := by
  obtain ⟨kind, res, n, v⟩ := o
  obtain ⟨ow1, hX, nn, -⟩ := SH.add_cells w ow [1, 2] [.int .i64 kind, .int .i64 res, .int .i64 n, .int .i64 v] 32
  obtain ⟨vs, hc0, hr0⟩ := h
  obtain ⟨A, c, rfl, -⟩ := hr0.slice
  have hc := hc0.new_ nn
  have hr := hr0.new_ nn
  have c0 := hc.get 0 rfl
  have c2 := hc.get 2 rfl
  have f2 := hc.free 2
  have lg := hc.lt
  have tk := hc.turn 2 (.bool true) (by simp)
  have hc' := hc.set 2 (.bool true) (by simp)
  have hr' := hr.keep tk (by simp)
  have TT := (nn.turn [1]).trans (tk.up (by simp))
  simp only [Nat.zero_add, List.set_cons_zero, List.set_cons_succ] at c0 c2 f2 tk hc' hr' TT
  have HH := Lib.hid (And.intro (show RN _ _ _ _ _ _ from ⟨_, hc', hr'⟩) TT)
  have z0 : ((out.length : Int) == 4096) = true := beq_iff_eq.2 (by omega)
  clear hX nn hc hr tk hc' hr' TT hc0 hr0
  go_enter Tryd.func58, Tryd.ntmps58
  go_wp2
  (try simp only [Exit.inBlock, Exit.then])
  refine bodyPost_ret (results_none rfl _ _ _) rfl ?_
  obtain ⟨h1, h2⟩ := HH.out
  exact ⟨_, rfl, h1, h2⟩
set_option maxRecDepth 100000 in
set_option maxHeartbeats 4000000 in
theorem step_on (w : World) (ow : Ow) (g : Nat) (out : List Op4) (d l : Bool) (o : Op4) (h : RN w ow g out d l) (hn : out.length < 4096) :
    Calls Tryd.prog 58 #[.pointer (some ⟨g, 0, none⟩), .agg #[.int .i64 o.kind, .int .i64 o.res, .int .i64 o.n, .int .i64 o.v]] w fun e w' => ∃ OW, e = .returned (.tuple #[]) ∧ RN w' OW g (out ++ [o]) (o.kind == 9) l ∧ Turn [1] w ow w' OW := by
  obtain ⟨kx, rx, nx, vx⟩ := o
  obtain ⟨ow1, hX, nn, -⟩ := SH.add_cells w ow [1, 2] [.int .i64 kx, .int .i64 rx, .int .i64 nx, .int .i64 vx] 32
  obtain ⟨vs, hc0, hr0⟩ := h
  obtain ⟨A, c, rfl, -⟩ := hr0.slice
  have hR := hc0.new_ nn
  have hQ := hr0.new_ nn
  have tt := nn.turn [1]
  have z0 : ((out.length : Int) == 4096) = false := beq_eq_false_iff_ne.2 (by omega)
  have k0 := hR.get 0 rfl
  simp only [Nat.zero_add] at k0
  have HR := Lib.hid hR
  have HQ := Lib.hid hQ
  have HO := Lib.hid hX
  have HT := Lib.hid tt
  generalize hbo : w.heap.size = bo at *
  clear hX nn hR hQ tt hc0 hr0
  go_enter Tryd.func58, Tryd.ntmps58
  go_wp2_with fail
  have hR := HR.out
  have hQ := HQ.out
  have hO := HO.out
  have tt := HT.out
  generalize w.alloc (.cells #[.int .i64 kx, .int .i64 rx, .int .i64 nx, .int .i64 vx] 32) = w6 at *
  clear HR HQ HO HT k0
  have c0 := Cells.get hR 0 rfl
  have d0 := hO.get 0 rfl
  have d1 := hO.get 1 rfl
  have d2 := hO.get 2 rfl
  have d3 := hO.get 3 rfl
  simp only [Nat.zero_add] at c0 d0 d1 d2 d3
  refine plain_regionN (fun W' : World => W'.cell? ⟨g, 0, none⟩ = some (.slice A out.length c) ∧ W'.cell? ⟨bo, 0, none⟩ = some (.int .i64 kx) ∧ W'.cell? ⟨bo, 1, none⟩ = some (.int .i64 rx) ∧ W'.cell? ⟨bo, 2, none⟩ = some (.int .i64 nx) ∧ W'.cell? ⟨bo, 3, none⟩ = some (.int .i64 vx)) [10] (by kernel_rfl) ?_
  have hS : (fun W' : World => W'.cell? ⟨g, 0, none⟩ = some (.slice A out.length c) ∧ W'.cell? ⟨bo, 0, none⟩ = some (.int .i64 kx) ∧ W'.cell? ⟨bo, 1, none⟩ = some (.int .i64 rx) ∧ W'.cell? ⟨bo, 2, none⟩ = some (.int .i64 nx) ∧ W'.cell? ⟨bo, 3, none⟩ = some (.int .i64 vx)) w6.drew := ⟨c0, d0, d1, d2, d3⟩
  replace tt := tt.drew
  replace hQ := hQ.drew
  replace hO := hO.drew
  replace hR := Cells.drew hR
  generalize w6.drew = WD at *
  refine anyX_takeNL 0 (v := ?_) rfl rfl (by as_aux_lemma => kernel_rfl) (by as_aux_lemma => kernel_rfl) (by as_aux_lemma => kernel_rfl) (by as_aux_lemma => kernel_rfl) (by as_aux_lemma => kernel_rfl) (fun _ _ _ h => h) rfl ?_ hS ?_
  rotate_left
  · intro W' hW'
    obtain ⟨s2, s3, s4, s5, s6⟩ := hW'
    all_goals (go_simp; first | done | rfl)
  intro l' hl
  dsimp only [List.set_cons_succ, List.set_cons_zero] at hl
  subst hl
  refine anyX_takeNL 1 (v := ?_) rfl rfl (by as_aux_lemma => kernel_rfl) (by as_aux_lemma => kernel_rfl) (by as_aux_lemma => kernel_rfl) (by as_aux_lemma => kernel_rfl) (by as_aux_lemma => kernel_rfl) (fun _ _ _ h => h) rfl ?_ hS ?_
  rotate_left
  · intro W' hW'
    obtain ⟨s2, s3, s4, s5, s6⟩ := hW'
    all_goals (go_simp; first | done | rfl)
  intro l' hl
  dsimp only [List.set_cons_succ, List.set_cons_zero] at hl
  subst hl
  refine anyX_takeNL 2 (v := ?_) rfl rfl (by as_aux_lemma => kernel_rfl) (by as_aux_lemma => kernel_rfl) (by as_aux_lemma => kernel_rfl) (by as_aux_lemma => kernel_rfl) (by as_aux_lemma => kernel_rfl) (fun _ _ _ h => h) rfl ?_ hS ?_
  rotate_left
  · intro W' hW'
    obtain ⟨s2, s3, s4, s5, s6⟩ := hW'
    all_goals (go_simp; first | done | rfl)
  intro l' hl
  dsimp only [List.set_cons_succ, List.set_cons_zero] at hl
  subst hl
  refine anyX_takeNL 3 (v := ?_) rfl rfl (by as_aux_lemma => kernel_rfl) (by as_aux_lemma => kernel_rfl) (by as_aux_lemma => kernel_rfl) (by as_aux_lemma => kernel_rfl) (by as_aux_lemma => kernel_rfl) (fun _ _ _ h => h) rfl ?_ hS ?_
  rotate_left
  · intro W' hW'
    obtain ⟨s2, s3, s4, s5, s6⟩ := hW'
    all_goals (go_simp; first | done | rfl)
  intro l' hl
  dsimp only [List.set_cons_succ, List.set_cons_zero] at hl
  subst hl
  refine anyX_takeNL 4 (v := ?_) rfl rfl (by as_aux_lemma => kernel_rfl) (by as_aux_lemma => kernel_rfl) (by as_aux_lemma => kernel_rfl) (by as_aux_lemma => kernel_rfl) (by as_aux_lemma => kernel_rfl) (fun _ _ _ h => h) rfl ?_ hS ?_
  rotate_left
  · intro W' hW'
    obtain ⟨s2, s3, s4, s5, s6⟩ := hW'
    all_goals (go_simp; first | done | rfl)
  intro l' hl
  dsimp only [List.set_cons_succ, List.set_cons_zero] at hl
  subst hl
  refine anyX_takeNL 5 (v := ?_) rfl rfl (by as_aux_lemma => kernel_rfl) (by as_aux_lemma => kernel_rfl) (by as_aux_lemma => kernel_rfl) (by as_aux_lemma => kernel_rfl) (by as_aux_lemma => kernel_rfl) (fun _ _ _ h => h) rfl ?_ hS ?_
  rotate_left
  · intro W' hW'
    obtain ⟨s2, s3, s4, s5, s6⟩ := hW'
    all_goals (go_simp; first | done | rfl)
  intro l' hl
  dsimp only [List.set_cons_succ, List.set_cons_zero] at hl
  subst hl
  refine anyX_one (i := 6) (by kernel_rfl) rfl rfl fun K' hK' => ?_
  unfold Oper.wp
  go_simp
  refine hK' _ _ (fun _ => ⟨cell_alloc hS.1 _, cell_alloc hS.2.1 _, cell_alloc hS.2.2.1 _, cell_alloc hS.2.2.2.1 _, cell_alloc hS.2.2.2.2 _⟩) ?_
  clear hK' K'
  refine anyX_one (i := 7) (by kernel_rfl) rfl rfl fun K' hK' => ?_
  have hsrc : Src Tryd.prog 4 22 (.slice (some ⟨WD.heap.size, 0, none⟩) 1 1) 1 (EOq.cs ⟨kx, rx, nx, vx⟩) (WD.alloc (.cells (EOq.cs ⟨kx, rx, nx, vx⟩).toArray 32)) := (Reads.new WD (EOq.cs ⟨kx, rx, nx, vx⟩) 32 1 1 (Nat.le_refl _)).src Tryd.underlying22 (sz := 4) rfl (EOq.cs_one ⟨kx, rx, nx, vx⟩)
  refine wp_append_row (.tmp 17) (.tmp 19) 22 22 rfl 32 _ 4 32 Tryd.underlying22 EOq.info rfl rfl (hQ.alloc (.cells (EOq.cs ⟨kx, rx, nx, vx⟩).toArray 32) [1, 5]) rfl hsrc (by unfold maxLen; omega) (by omega) ?_
  intro v' w' ow' hrow' ht'
  obtain ⟨A', c', rfl, hnc'⟩ := hrow'.slice
  have hcc := Cells.keep (Cells.alloc hR (.cells #[.int .i64 kx, .int .i64 rx, .int .i64 nx, .int .i64 vx] 32) [1, 5]) ht' (by simp)
  have hOO := Cells.keep (Cells.alloc hO (.cells #[.int .i64 kx, .int .i64 rx, .int .i64 nx, .int .i64 vx] 32) [1, 5]) ht' (by simp)
  have hS9 : (fun W' : World => W'.cell? ⟨g, 0, none⟩ = some (.slice A out.length c) ∧ W'.cell? ⟨bo, 0, none⟩ = some (.int .i64 kx) ∧ W'.cell? ⟨bo, 1, none⟩ = some (.int .i64 rx) ∧ W'.cell? ⟨bo, 2, none⟩ = some (.int .i64 nx) ∧ W'.cell? ⟨bo, 3, none⟩ = some (.int .i64 vx)) w' := ⟨by have := Cells.get hcc 0 rfl; simpa only [Nat.zero_add] using this, by simpa using hOO.get 0 rfl, by simpa using hOO.get 1 rfl, by simpa using hOO.get 2 rfl, by simpa using hOO.get 3 rfl⟩
  clear hS c0 d0 d1 d2 d3
  change K' (Act.put _ (some 20) _) _
  refine hK' _ _ (fun _ => hS9) ?_
  clear hK' K'
  simp only [Act.put, List.setIfInBounds_toArray, List.set_cons_succ, List.set_cons_zero]
  have hS := hS9
  refine anyX_one (i := 8) (by kernel_rfl) rfl rfl fun K' hK' => ?_
  unfold Oper.wp
  go_simp
  refine hK' _ _ (fun _ => hS) ?_
  clear hK' K'
  refine anyX_one (i := 9) (by kernel_rfl) rfl rfl fun K' hK' => ?_
  unfold Oper.wp
  go_simp
  refine hK' _ _ (fun _ => hS) ?_
  clear hK' K'
  have c0 := Cells.get hcc 0 rfl
  have f0 := Cells.free hcc 0
  have lg := Cells.lt hcc
  simp only [Nat.zero_add] at c0 f0
  refine anyX_one (i := 10) (by kernel_rfl) rfl rfl fun K' hK' => ?_
  unfold Oper.wp
  go_simp
  refine hK' _ _ (fun hf => by cases hf) (anyX_done (by kernel_rfl) ?_ _)
  refine NoPanic.normal ?_
  clear hK' K'
  have tk := Cells.turn hcc 0 (.slice A' (out.length + 1) c') (by simp)
  have hc1 := Cells.set hcc 0 (.slice A' (out.length + 1) c') (by simp)
  have hr1 := hrow'.keep tk (by simp)
  have hO1 := hOO.keep tk (by simp)
  have T0 := ((((Turn.refl [1] WD ow1).alloc (.cells #[.int .i64 kx, .int .i64 rx, .int .i64 nx, .int .i64 vx] 32) [1, 5]).trans (ht'.up (by simp))).trans (tk.up (by simp)))
  have tt1 := tt.trans T0
  simp only [Nat.zero_add, List.set_cons_zero] at tk hc1 hr1 hO1 tt1
  clear hS hS9 c0 f0 lg hcc hOO tk T0 hrow' ht' tt hQ hO hR hsrc
  generalize w'.setCell ⟨g, 0, none⟩ (.slice A' (out.length + 1) c') = w9 at *
  have d0 := hO1.get 0 rfl
  have c1 := hc1.get 1 rfl
  have f1 := hc1.free 1
  have lg := hc1.lt
  have tk2 := hc1.turn 1 (.bool (kx == 9)) (by simp)
  have hc2 := hc1.set 1 (.bool (kx == 9)) (by simp)
  have hr2 := hr1.keep tk2 (by simp)
  have tt2 := tt1.trans (tk2.up (by simp))
  simp only [Nat.zero_add, List.set_cons_zero, List.set_cons_succ] at d0 c1 f1 tk2 hc2 hr2 tt2
  have hr3 : Row (w9.setCell ⟨g, 1, none⟩ (.bool (kx == 9))) ow' [1, 1] 32 4 (.slice A' (out.length + 1) c') (out ++ [(⟨kx, rx, nx, vx⟩ : Op4)]).length (EOq.css (out ++ [(⟨kx, rx, nx, vx⟩ : Op4)])) := by
    rw [EOq.css_snoc, List.length_append]
    exact hr2
  have hrn : RN (w9.setCell ⟨g, 1, none⟩ (.bool (kx == 9))) ow' g (out ++ [⟨kx, rx, nx, vx⟩]) (kx == 9) l := ⟨_, hc2, hr3⟩
  have HH := Lib.hid (And.intro hrn tt2)
  clear hc1 hr1 hO1 tk2 hc2 hr2 hr3 tt2 tt1 hrn
  go_wp2
  go_end0
  obtain ⟨h1, h2⟩ := HH.out
  exact ⟨_, rfl, h1, h2⟩
end CR
end Go.Proofs.YtnehiooioodkfaaDoor

/-
  CODE: the document's steps one after the other (plain).
-/
set_option linter.unusedVariables false
set_option linter.unusedSimpArgs false
namespace Go.Proofs.YtnehiooioodkfaaDoor
open Go Go.RowKit
namespace CR
open CD
/-- What is laid down, whether a finish came, whether it became too long. -/
abbrev St := List Op4 × Bool × Bool
def stepS (s : St) (o : Op4) : St := if s.1.length = 4096 then (s.1, s.2.1, true) else (s.1 ++ [o], o.kind == 9, s.2.2)
def endS (s : St) : Bool := s.2.1 || s.2.2
def runS : List Op4 → St → St
  | [], s => s
  | o :: r, s => if endS s = true then s else runS r (stepS s o)
theorem runS_end : ∀ (S : List Op4) (s : St), endS s = true → runS S s = s
  | [], s, _ => rfl
  | o :: r, s, h => by rw [runS, if_pos h]
theorem runS_append : ∀ (a b : List Op4) (s : St), runS (a ++ b) s = runS b (runS a s)
  | [], b, s => rfl
  | o :: r, b, s => by
    rw [List.cons_append, runS, runS]
    by_cases h : endS s = true
    · rw [if_pos h, if_pos h, runS_end b s h]
    · rw [if_neg h, if_neg h, runS_append r b]
theorem runS_len : ∀ (S : List Op4) (s : St), s.1.length ≤ 4096 → (runS S s).1.length ≤ 4096
  | [], s, h => h
  | o :: r, s, h => by
    rw [runS]
    split
    · exact h
    · refine runS_len r _ ?_
      unfold stepS
      split
      · exact h
      · simp only [List.length_append, List.length_cons, List.length_nil]; omega
theorem runS_runG : ∀ (S : List Op4) (out : List Op4), out.length ≤ 4096 → runS S (out, false, false) = (out ++ (runG S out.length).1, !(runG S out.length).2.1 && !(runG S out.length).2.2, (runG S out.length).2.1)
  | [], out, _ => by simp [runS, runG]
  | o :: r, out, h => by
    rw [runS, if_neg (by simp [endS])]
    unfold stepS
    by_cases h6 : out.length = 4096
    · simp only
      rw [if_pos h6, runS_end _ _ (by simp [endS]), h6, runG_over]
      simp
    · simp only
      rw [if_neg h6]
      by_cases h9 : o.kind = 9
      · rw [runS_end _ _ (by simp [endS, h9]), runG_fin o r _ h6 h9]
        simp [h9]
      · have e9 : (o.kind == 9) = false := beq_eq_false_iff_ne.2 h9
        rw [e9, runS_runG r (out ++ [o]) (by simp; omega), runG_one o r _ h6 h9]
        simp [comb]
/-- Nothing was laid down by an inside that does not end: nothing stands in it. -/
theorem runS_same {S : List Op4} {s : St} (h : endS s = false) (hl : s.1.length ≤ 4096) (h0 : endS (runS S s) = false) (he : (runS S s).1.length = s.1.length) : S = [] := by
  obtain ⟨out, d, l⟩ := s
  simp only [endS, Bool.or_eq_false_iff] at h
  obtain ⟨rfl, rfl⟩ := h
  rw [runS_runG S out hl] at h0 he
  simp only [endS, Bool.or_eq_false_iff] at h0
  simp only [List.length_append] at he
  have hm : (runG S out.length).2.2 = true := by
    obtain ⟨h1, h2⟩ := h0
    rw [h2] at h1
    simpa using h1
  have := (runG_more S out.length hm).1
  rw [this] at he
  exact List.eq_nil_of_length_eq_zero (by omega)
end CR
end Go.Proofs.YtnehiooioodkfaaDoor

/-
  CODE: the document's play: the steps of a piece of a program.
-/
set_option linter.unusedVariables false
set_option linter.unusedSimpArgs false
namespace Go.Proofs.YtnehiooioodkfaaDoor
open Go Go.RowKit
namespace CR
open CD
theorem nilW0 (f : Nat) : Whole f [] [] := by
  cases f with
  | zero => exact ⟨rfl, rfl⟩
  | succ f => exact .inl ⟨rfl, rfl⟩
theorem whole_nil {f : Nat} {S : List Op4} (h : Whole f [] S) : S = [] := h.uniq (nilW0 f)
theorem rd_sub {w : World} {g off cap : Nat} {xs : List Op4} (h : Rd4 w (.slice (some ⟨g, off, none⟩) xs.length cap) xs) (i m : Nat) (hi : i + m ≤ xs.length) : Rd4 w (.slice (some ⟨g, off + i * 4, none⟩) m (cap - i)) ((xs.drop i).take m) := by
  have hl : ((xs.drop i).take m).length = m := by rw [List.length_take, List.length_drop]; omega
  obtain ⟨A, c, hv, hc, h3⟩ := h
  simp only [Value.slice.injEq, true_and] at hv
  obtain ⟨-, rfl⟩ := hv
  refine ⟨_, cap - i, by rw [hl], by omega, fun h0 => ?_⟩
  rw [hl] at h0 ⊢
  obtain ⟨g1, o1, c1, hv, hc1, hr⟩ := (h3 (by omega)).at (by omega)
  simp only [Value.slice.injEq, Option.some.injEq, Addr.mk.injEq, and_true, true_and] at hv
  obtain ⟨⟨rfl, rfl⟩, rfl⟩ := hv
  refine .inr ⟨g, off + i * 4, cap - i, rfl, by omega, fun j u hj => ?_⟩
  rw [EOq.css_take, EOq.css_drop, List.getElem?_take] at hj
  split at hj
  · rw [List.getElem?_drop] at hj
    have := hr _ _ hj
    rwa [← Nat.add_assoc] at this
  · cases hj
theorem n_at {xs : List Op4} {w : World} {g off cap : Nat} (h : Rd4 w (.slice (some ⟨g, off, none⟩) xs.length cap) xs) {k : Nat} {x : Op4} (hx : xs[k]? = some x) : w.cell? ⟨g, off + k * 4 + 2, none⟩ = some (.int .i64 x.n) := by
  obtain ⟨g1, o1, c1, hv, -, -, r2, -⟩ := at4r h hx
  simp only [Value.slice.injEq, Option.some.injEq, Addr.mk.injEq, and_true, true_and] at hv
  obtain ⟨⟨rfl, rfl⟩, rfl⟩ := hv
  exact r2
theorem runS_ge : ∀ (S : List Op4) (s : St), s.1.length ≤ (runS S s).1.length
  | [], s => Nat.le_refl _
  | o :: r, s => by
    rw [runS]
    split
    · exact Nat.le_refl _
    · refine Nat.le_trans ?_ (runS_ge r _)
      unfold stepS
      split
      · exact Nat.le_refl _
      · simp
theorem runS_rep (m : Nat) (B : List Op4) (s : St) : runS (List.replicate (m + 1) B).flatten s = runS (List.replicate m B).flatten (runS B s) := by
  rw [List.replicate_succ, List.flatten_cons, runS_append]
theorem runS_nil (m : Nat) (s : St) : runS (List.replicate m ([] : List Op4)).flatten s = s := by
  induction m with
  | zero => rfl
  | succ m ih => rw [runS_rep]; exact ih
theorem step_w (o : List Op4) (l : Bool) (R : List Op4) (m : Nat) (h : ¬ o.length = 4096) (hl : l = false) : runS (List.replicate (m + 1) work1 ++ R) (o, false, l) = runS (List.replicate m work1 ++ R) (o ++ [work1], false, false) := by
  subst hl
  rw [List.replicate_succ, List.cons_append, runS, if_neg (show ¬ endS (o, false, false) = true from fun h => by cases h)]
  unfold stepS
  simp only
  rw [if_neg h]
  rfl
theorem step_w2 (o : List Op4) (l : Bool) (R : List Op4) (m : Nat) (h : o.length = 4096) (hl : l = false) : runS (List.replicate (m + 1) work1 ++ R) (o, false, l) = (o, false, true) := by
  subst hl
  rw [List.replicate_succ, List.cons_append, runS, if_neg (show ¬ endS (o, false, false) = true from fun h => by cases h)]
  unfold stepS
  simp only
  rw [if_pos h, runS_end _ _ rfl]
def PlayP (w : World) (ow : Ow) (g : Nat) (s : St) (e : Ending) (w' : World) : Prop := ∃ OW, e = .returned (.tuple #[]) ∧ RN w' OW g s.1 s.2.1 s.2.2 ∧ Turn [1] w ow w' OW
set_option maxRecDepth 100000 in
set_option maxHeartbeats 4000000 in
theorem play (f : Nat) : ∀ (w0 w : World) (ow : Ow) (g : Nat) (v : Value) (p S : List Op4) (out : List Op4) (d l : Bool), Whole f p S → Rd4 w0 v p → p.length ≤ 100000 → (∀ o ∈ p, 0 ≤ o.n ∧ o.n ≤ 4096) → Turn [1] w0 ow0 w ow → RN w ow g out d l → out.length ≤ 4096 →
    Calls Tryd.prog 57 #[.pointer (some ⟨g, 0, none⟩), v] w (PlayP w ow g (runS S (out, d, l))) := by
  induction f using Nat.strongRecOn with
  | _ f ih =>
    intro w0 w ow g v p S out d l hW hrd hlen hn0 t0 hRN hol
    obtain ⟨E, hE⟩ : ∃ E, runS S (out, d, l) = E := ⟨_, rfl⟩
    rw [hE]
    unfold PlayP
    obtain ⟨A, c, rfl, -⟩ := hrd.slice
    have IH := Lib.hid ih
    have HRD := Lib.hid hrd
    have HN0 := Lib.hid hn0
    have HT0 := Lib.hid t0
    have HRN := Lib.hid hRN
    have HW := Lib.hid hW
    have HE := Lib.hid hE
    clear ih hrd hn0 t0 hRN hW hE
    go_enter Tryd.func57, Tryd.ntmps57
    go_wp2
    go_loopg [4] p.length (fun gn a wr => ∃ (i f' : Nat) (o' S' : List Op4) (d' l' : Bool) (OW : Ow), gn = p.length - i ∧ i ≤ p.length ∧ a = .int .i64 (i : Int) ∧ f' ≤ f ∧ Whole f' (p.drop i) S' ∧ runS S' (o', d', l') = E ∧ RN wr OW g o' d' l' ∧ o'.length ≤ 4096 ∧ Turn [1] w ow wr OW)
    case atStart => exact ⟨0, f, out, S, d, l, ow, rfl, Nat.zero_le _, rfl, Nat.le_refl _, HW.out, HE.out, HRN.out, hol, Turn.refl _ _ _⟩
    case round =>
      clear HW HE HRN
      obtain ⟨i, f', o', S', d', l', OW, hgi, hi, rfl, hff, hW, hE, hRN, hol', tt⟩ := hrel
      have Hgi := Lib.hid hgi
      have HW := Lib.hid hW
      have HE := Lib.hid hE
      have HRN := Lib.hid hRN
      have HT := Lib.hid tt
      obtain ⟨vo, hc, -⟩ := hRN
      have c1 := hc.get 1 rfl
      have c2 := hc.get 2 rfl
      simp only [Nat.zero_add] at c1 c2
      clear hgi hW hE tt hc
      by_cases hlt : i < p.length
      · have j0 : (i : Int) < (p.length : Int) := by omega
        cases hd : d' with
        | true =>
          subst hd
          have hEE : (o', true, l') = E := by rw [← HE.out]; exact (runS_end S' _ rfl).symm
          subst hEE
          have hh := HRN.out
          have ht := HT.out
          clear HRN HT HE HW
          as_aux_lemma =>
          go_wp2
          go_end0
          first | exact ⟨_, rfl, hh, ht⟩ | exact ⟨rfl, _, hh, ht⟩
        | false =>
          cases hl : l' with
          | true =>
            subst hd hl
            have hEE : (o', false, true) = E := by rw [← HE.out]; exact (runS_end S' _ rfl).symm
            subst hEE
            have hh := HRN.out
            have ht := HT.out
            clear HRN HT HE HW
            as_aux_lemma =>
            go_wp2
            go_end0
            first | exact ⟨_, rfl, hh, ht⟩ | exact ⟨rfl, _, hh, ht⟩
          | false =>
            subst hd hl
            obtain ⟨f1, rfl⟩ : ∃ f1, f' = f1 + 1 := by
              cases f' with
              | zero =>
                have := HW.out.1
                have hz := congrArg List.length this
                rw [List.length_drop, List.length_nil] at hz
                omega
              | succ f1 => exact ⟨f1, rfl⟩
            have hw := HW.out
            clear HW
            rcases hw with ⟨h0, -⟩ | ⟨o, b, e, r, B, R, hp, rfl, h10, h11, hB, hRr⟩ | ⟨o, r, R, hp, h5, rfl, hRr⟩ | ⟨o, r, R, hp, h10, h11, h5, rfl, hRr⟩
            · have hz := congrArg List.length h0
              rw [List.length_drop, List.length_nil] at hz
              omega
            · have hpi : p[i]? = some o := by rw [← List.head?_drop, hp]; rfl
              have hpr : p.drop (i + 1) = b ++ e :: r := by rw [← List.drop_drop, hp]; rfl
              have hbl : p.length = i + 1 + (b.length + 1 + r.length) := by
                have := congrArg List.length hpr
                rw [List.length_drop, List.length_append, List.length_cons] at this
                omega
              have hpk : p.drop (i + 1 + b.length + 1) = r := by
                rw [show i + 1 + b.length + 1 = (i + 1) + (b.length + 1) by omega, ← List.drop_drop, hpr, List.drop_append, List.drop_eq_nil_of_le (by omega), show b.length + 1 - b.length = 1 by omega]
                rfl
              have hbw := ((HT0.out.trans HT.out).new_ ow0 [1]).below
              have hsh := shut wr _ p (HRD.out.new_ hbw) (by omega) i (by omega)
              rw [hp, scan_rep i h10 h11 hB] at hsh
              obtain ⟨gp, op, cp, hv, r0, r1, r2, r3⟩ := at4r (HRD.out.new_ hbw) hpi
              obtain ⟨hA, hcc⟩ : A = some ⟨gp, op, none⟩ ∧ c = cp := by
                simp only [Value.slice.injEq] at hv
                exact ⟨hv.1, hv.2.2⟩
              subst hA hcc
              have hcap : p.length ≤ c := by
                obtain ⟨A', c', hv', hc'⟩ := HRD.out.slice
                simp only [Value.slice.injEq, true_and] at hv'
                obtain ⟨-, rfl⟩ := hv'
                exact hc'
              have hsub := rd_sub HRD.out (i + 1) b.length (by omega)
              rw [hpr, List.take_append_of_le_length (Nat.le_refl _), List.take_length] at hsub
              have hsub : ∀ k, i + 1 + b.length = k → Rd4 w0 (.slice (some ⟨gp, op + (i + 1) * 4, none⟩) (k - (i + 1)) (c - (i + 1))) b := fun k hk => by
                rw [show k - (i + 1) = b.length by omega]; exact hsub
              obtain ⟨N, hN⟩ : ∃ N : Nat, o.n = (N : Int) := ⟨o.n.toNat, by have := (HN0.out o (List.mem_of_getElem? hpi)).1; omega⟩
              have hN2 : N ≤ 4096 := by have := (HN0.out o (List.mem_of_getElem? hpi)).2; omega
              have hcell : ∀ W : World, Below w0.heap.size w0 W → W.cell? ⟨gp, op + i * 4 + 2, none⟩ = some (.int .i64 (N : Int)) := fun W hb => by
                have := n_at (HRD.out.new_ hb) hpi
                rwa [hN] at this
              have hnb : ∀ x ∈ b, 0 ≤ x.n ∧ x.n ≤ 4096 := fun x hx => HN0.out x (List.mem_of_mem_drop (i := i + 1) (by rw [hpr]; exact List.mem_append_left _ hx))
              obtain ⟨E2, hE2⟩ : ∃ E2, runS (List.replicate N B).flatten (o', false, false) = E2 := ⟨_, rfl⟩
              have hE3 : runS R E2 = E := by rw [← hE2]; have := HE.out; rw [hN, Int.toNat_natCast, runS_append] at this; exact this
              have hrn := HRN.out
              obtain ⟨vo', hc', hr'⟩ := hrn
              obtain ⟨Ao, co, rfl, -⟩ := hr'.slice
              have c0 := hc'.get 0 rfl
              simp only [Nat.zero_add] at c0
              clear hc' hr'
              obtain ⟨k, hk⟩ : ∃ k, i + 1 + b.length = k := ⟨_, rfl⟩
              rw [hk] at hsh hpk
              have HSH := Lib.hid hsh
              have HSUB := Lib.hid (hsub k hk)
              have HCELL := Lib.hid hcell
              have HNB := Lib.hid hnb
              have HE2 := Lib.hid hE2
              have HE3 := Lib.hid hE3
              have HB := Lib.hid hB
              have HRR := Lib.hid hRr
              have HPK := Lib.hid hpk
              have HK := Lib.hid hk
              have HCAP := Lib.hid hcap
              have HBL := Lib.hid (show b.length ≤ p.length by omega)
              have b10 : (o.kind == 10) = true := beq_iff_eq.2 h10
              have hw1 : IntKind.i64.wrap ((i : Int) + 1) = (i : Int) + 1 := by rw [IntKind.wrap_i64]; omega
              have hik : (i : Int) + 1 ≤ (k : Int) := by omega
              have hkc : (k : Int) ≤ (c : Int) := by omega
              have hkp : k < p.length := by omega
              have hwk : IntKind.i64.wrap ((k : Int) + 1) = (k : Int) + 1 := by rw [IntKind.wrap_i64]; omega
              clear hp hpi hpr hpk hbw hv hRr hB hsh hsub hcell hnb hE2 hE3 hN h10 h11 hbl hk hcap HE
              go_wp2_with fail
              refine HSH.out.mono ?_
              rintro e1 w1 ⟨rfl, hw⟩
              subst hw
              clear HSH
              go_wp2
              go_loopg [7] N (fun gn a wq => ∃ (n : Nat) (o1 : List Op4) (d1 l1 : Bool) (OW1 : Ow), gn = N - n ∧ n ≤ N ∧ a = .int .i64 (n : Int) ∧ runS (List.replicate (N - n) B).flatten (o1, d1, l1) = E2 ∧ ((n = 0 ∧ o1 = o' ∧ d1 = false ∧ l1 = false) ∨ o'.length < o1.length) ∧ RN wq OW1 g o1 d1 l1 ∧ o1.length ≤ 4096 ∧ Turn [1] w ow wq OW1)
              case atStart => exact ⟨0, o', false, false, OW, rfl, Nat.zero_le _, rfl, HE2.out, .inl ⟨rfl, rfl, rfl, rfl⟩, HRN.out, hol', HT.out⟩
              case round =>
                clear HE2 HRN HT c0 c1 c2 r0 r1 r2 r3
                obtain ⟨n, o1, d1, l1, OW1, hgn, hn, rfl, hE2, hst, hRN, hol1, tt⟩ := hrel
                have Hgn := Lib.hid hgn
                have HE2 := Lib.hid hE2
                have HST := Lib.hid hst
                have HRN := Lib.hid hRN
                have HT := Lib.hid tt
                have q2 := HCELL.out _ ((HT0.out.trans HT.out).new_ ow0 [1]).below
                obtain ⟨vo1, hc, hr⟩ := hRN
                have c1 := hc.get 1 rfl
                have c2 := hc.get 2 rfl
                simp only [Nat.zero_add] at c1 c2
                clear hgn hE2 hst tt hc hr
                have fin : ∀ W : World, endS (o1, d1, l1) = true ∨ n = N → runS R (o1, d1, l1) = E := fun W h => by
                  have h2 := HE2.out
                  rcases h with h | rfl
                  · rw [runS_end _ _ h] at h2
                    rw [h2]; exact HE3.out
                  · rw [Nat.sub_self] at h2
                    have h2 : (o1, d1, l1) = E2 := h2
                    rw [h2]; exact HE3.out
                have FIN := Lib.hid fin
                clear fin
                by_cases hlt2 : n < N
                · have i0 : (n : Int) < (N : Int) := by omega
                  cases hd1 : d1 with
                  | true =>
                    subst hd1
                    as_aux_lemma =>
                    go_wp2
                    go_roundg (p.length - (k + 1))
                    case measure => have := Hgi.out; have := HK.out; omega
                    case rel => exact ⟨k + 1, f1, o1, R, true, l1, OW1, rfl, by have := HK.out; omega, by go_num, by omega, by rw [HPK.out]; exact HRR.out, FIN.out w (.inl rfl), HRN.out, hol1, HT.out⟩
                  | false =>
                    cases hl1 : l1 with
                    | true =>
                      subst hd1 hl1
                      as_aux_lemma =>
                      go_wp2
                      go_roundg (p.length - (k + 1))
                      case measure => have := Hgi.out; have := HK.out; omega
                      case rel => exact ⟨k + 1, f1, o1, R, false, true, OW1, rfl, by have := HK.out; omega, by go_num, by omega, by rw [HPK.out]; exact HRR.out, FIN.out w (.inl rfl), HRN.out, hol1, HT.out⟩
                    | false =>
                      subst hd1 hl1
                      have HIH := Lib.hid (IH.out f1 (by omega) w0 wr OW1 g _ b B o1 false false HB.out HSUB.out (by have := HBL.out; omega) HNB.out (HT0.out.trans HT.out) HRN.out hol1)
                      go_wp2_with fail
                      case inl h => have := HCAP.out; omega
                      case inr h =>
                        refine HIH.out.mono ?_
                        rintro e3 w3 ⟨OW3, rfl, hrn3, t3⟩
                        obtain ⟨m, hm⟩ : ∃ m, N - n = m + 1 := ⟨N - n - 1, by omega⟩
                        have hm1 : N - (n + 1) = m := by omega
                        have hwn : IntKind.i64.wrap ((n : Int) + 1) = (n : Int) + 1 := by rw [IntKind.wrap_i64]; omega
                        have he2 := HE2.out
                        rw [hm, runS_rep] at he2
                        have hge := runS_ge B (o1, false, false)
                        have hle := runS_len B (o1, false, false) hol1
                        have hsm := runS_same (S := B) (s := (o1, false, false)) rfl hol1
                        obtain ⟨o2, d2, l2, hs2⟩ : ∃ o2 d2 l2, runS B (o1, false, false) = (o2, d2, l2) := ⟨_, _, _, rfl⟩
                        rw [hs2] at hrn3 he2 hge hle hsm
                        simp only at hrn3 hge hle hsm
                        have hrn := hrn3
                        have HRN3 := Lib.hid hrn3
                        have HT3 := Lib.hid (HT.out.trans t3)
                        obtain ⟨vo3, hc3, hr3⟩ := hrn
                        obtain ⟨A3, c3, rfl, -⟩ := hr3.slice
                        have d0 := hc3.get 0 rfl
                        simp only [Nat.zero_add] at d0
                        clear hc3 hr3 hrn3 t3 HRN HT q2 c1 c2 h HIH
                        by_cases hq : o2.length = o'.length
                        · have zq : ((o2.length : Int) == (o'.length : Int)) = true := beq_iff_eq.2 (by omega)
                          have hfin : runS R (o2, d2, l2) = E := by
                            have hE2' : (o2, d2, l2) = E2 := by
                              by_cases hend : endS (o2, d2, l2) = true
                              · rw [runS_end _ _ hend] at he2; exact he2
                              · have ho1 : o1 = o' := by
                                  rcases HST.out with ⟨-, h, -⟩ | h
                                  · exact h
                                  · omega
                                have hB0 : B = [] := hsm (by simpa using hend) (by rw [ho1]; exact hq)
                                rw [hB0, runS_nil] at he2
                                exact he2
                            rw [hE2']; exact HE3.out
                          have HFIN := Lib.hid hfin
                          clear hfin he2 hsm hs2 HE2 HST FIN hm hm1
                          as_aux_lemma =>
                          go_wp2
                          go_roundg (p.length - (k + 1))
                          case measure => have := Hgi.out; have := HK.out; omega
                          case rel => exact ⟨k + 1, f1, o2, R, d2, l2, OW3, rfl, by have := HK.out; omega, by go_num, by omega, by rw [HPK.out]; exact HRR.out, HFIN.out, HRN3.out, hle, HT3.out⟩
                        · have zq : ((o2.length : Int) == (o'.length : Int)) = false := beq_eq_false_iff_ne.2 (by omega)
                          have hgt : o'.length < o2.length := by
                            rcases HST.out with ⟨-, h, -⟩ | h
                            · rw [← h]; rw [← h] at hq; omega
                            · omega
                          rw [← hm1] at he2
                          have HE4 := Lib.hid he2
                          clear he2 hsm hs2 HE2 HST FIN hm hm1
                          as_aux_lemma =>
                          go_wp2
                          go_roundg (N - (n + 1))
                          case measure => have := Hgn.out; omega
                          case rel => exact ⟨n + 1, o2, d2, l2, OW3, rfl, by omega, by go_num, HE4.out, .inr hgt, HRN3.out, hle, HT3.out⟩
                · have hnN : n = N := by omega
                  have HE4 := Lib.hid (FIN.out w (.inr hnN))
                  subst hnN
                  have i0 : ¬ (n : Int) < (n : Int) := by omega
                  clear FIN HE2 HST
                  as_aux_lemma =>
                  go_wp2
                  go_roundg (p.length - (k + 1))
                  case measure => have := Hgi.out; have := HK.out; omega
                  case rel => exact ⟨k + 1, f1, o1, R, d1, l1, OW1, rfl, by have := HK.out; omega, by go_num, by omega, by rw [HPK.out]; exact HRR.out, HE4.out, HRN.out, hol1, HT.out⟩
            · have hpi : p[i]? = some o := by rw [← List.head?_drop, hp]; rfl
              have hpr : p.drop (i + 1) = r := by rw [← List.drop_drop, hp]; rfl
              have hbw := ((HT0.out.trans HT.out).new_ ow0 [1]).below
              obtain ⟨gp, op, cp, hv, r0, r1, r2, r3⟩ := at4r (HRD.out.new_ hbw) hpi
              obtain ⟨hA, hcc⟩ : A = some ⟨gp, op, none⟩ ∧ c = cp := by
                simp only [Value.slice.injEq] at hv
                exact ⟨hv.1, hv.2.2⟩
              subst hA hcc
              obtain ⟨N, hN⟩ : ∃ N : Nat, o.n = (N : Int) := ⟨o.n.toNat, by have := (HN0.out o (List.mem_of_getElem? hpi)).1; omega⟩
              have hN2 : N ≤ 4096 := by have := (HN0.out o (List.mem_of_getElem? hpi)).2; omega
              have hcell : ∀ W : World, Below w0.heap.size w0 W → W.cell? ⟨gp, op + i * 4 + 2, none⟩ = some (.int .i64 (N : Int)) := fun W hb => by
                have := n_at (HRD.out.new_ hb) hpi
                rwa [hN] at this
              have hE2 : runS (List.replicate N work1 ++ R) (o', false, false) = E := by
                have := HE.out
                rwa [hN, Int.toNat_natCast] at this
              have b10 : (o.kind == 10) = false := beq_eq_false_iff_ne.2 (by omega)
              have b5 : (o.kind == 5) = true := beq_iff_eq.2 h5
              have hwi : IntKind.i64.wrap ((i : Int) + 1) = (i : Int) + 1 := by rw [IntKind.wrap_i64]; omega
              rw [← hpr] at hRr
              have HRR := Lib.hid hRr
              have HE2 := Lib.hid hE2
              have HCELL := Lib.hid hcell
              clear hp hpi hpr hbw hv hRr hE2 hcell hN h5 HE
              go_wp2
              go_loopg [8] N (fun gn a wq => ∃ (n : Nat) (o1 : List Op4) (l1 : Bool) (OW1 : Ow), gn = N - n ∧ n ≤ N ∧ a = .int .i64 (n : Int) ∧ runS (List.replicate (N - n) work1 ++ R) (o1, false, l1) = E ∧ RN wq OW1 g o1 false l1 ∧ o1.length ≤ 4096 ∧ Turn [1] w ow wq OW1)
              case atStart => exact ⟨0, o', false, OW, rfl, Nat.zero_le _, rfl, HE2.out, HRN.out, hol', HT.out⟩
              case round =>
                clear HE2 HRN HT c1 c2 r0 r1 r2 r3
                obtain ⟨n, o1, l1, OW1, hgn, hn, rfl, hE2, hRN, hol1, tt⟩ := hrel
                have Hgn := Lib.hid hgn
                have HE2 := Lib.hid hE2
                have HRN := Lib.hid hRN
                have HT := Lib.hid tt
                have q2 := HCELL.out _ ((HT0.out.trans HT.out).new_ ow0 [1]).below
                obtain ⟨vo1, hc, -⟩ := hRN
                have c2 := hc.get 2 rfl
                simp only [Nat.zero_add] at c2
                clear hgn hE2 tt hc
                by_cases hlt2 : n < N
                · have i0 : (n : Int) < (N : Int) := by omega
                  have hwn : IntKind.i64.wrap ((n : Int) + 1) = (n : Int) + 1 := by rw [IntKind.wrap_i64]; omega
                  cases hl1 : l1 with
                  | true =>
                    subst hl1
                    have hE3 : runS R (o1, false, true) = E := by
                      rw [runS_end _ _ rfl]
                      have := HE2.out
                      rwa [runS_end _ _ rfl] at this
                    have HE3 := Lib.hid hE3
                    clear hE3
                    as_aux_lemma =>
                    go_wp2
                    go_roundg (p.length - (i + 1))
                    case measure => have := Hgi.out; omega
                    case rel => exact ⟨i + 1, f1, o1, R, false, true, OW1, rfl, by omega, by go_num, by omega, HRR.out, HE3.out, HRN.out, hol1, HT.out⟩
                  | false =>
                    subst hl1
                    obtain ⟨m, hm⟩ : ∃ m, N - n = m + 1 := ⟨N - n - 1, by omega⟩
                    have hm1 : N - (n + 1) = m := by omega
                    have he2 := HE2.out
                    rw [hm] at he2
                    by_cases h6 : o1.length = 4096
                    · have hst := step_over wr OW1 g o1 false false work1 HRN.out h6
                      rw [step_w2 o1 false R m h6 rfl] at he2
                      have he3 : runS (List.replicate (N - (n + 1)) work1 ++ R) (o1, false, true) = E := by rw [runS_end _ _ rfl]; exact he2
                      have HST := Lib.hid hst
                      have HE3 := Lib.hid he3
                      clear hst he3 he2 hm hm1 HE2 HRN
                      go_wp2_with fail
                      refine HST.out.mono ?_
                      rintro e3 w3 ⟨OW3, rfl, hrn3, t3⟩
                      have HRN3 := Lib.hid hrn3
                      have HT3 := Lib.hid (HT.out.trans t3)
                      clear HST hrn3 t3 q2 HT c2
                      go_wp2
                      go_roundg (N - (n + 1))
                      case measure => have := Hgn.out; omega
                      case rel => exact ⟨n + 1, o1, true, OW3, rfl, by omega, by go_num, HE3.out, HRN3.out, hol1, HT3.out⟩
                    · have hst := step_on wr OW1 g o1 false false work1 HRN.out (by omega)
                      rw [step_w o1 false R m h6 rfl, ← hm1] at he2
                      have HST := Lib.hid hst
                      have HE3 := Lib.hid he2
                      clear hst he2 hm hm1 HE2 HRN
                      go_wp2_with fail
                      refine HST.out.mono ?_
                      rintro e3 w3 ⟨OW3, rfl, hrn3, t3⟩
                      have HRN3 := Lib.hid hrn3
                      have HT3 := Lib.hid (HT.out.trans t3)
                      clear HST hrn3 t3 q2 HT c2
                      go_wp2
                      go_roundg (N - (n + 1))
                      case measure => have := Hgn.out; omega
                      case rel => exact ⟨n + 1, o1 ++ [work1], false, OW3, rfl, by omega, by go_num, HE3.out, HRN3.out, by rw [List.length_append, List.length_singleton]; omega, HT3.out⟩
                · obtain rfl : n = N := by omega
                  have i0 : ¬ (n : Int) < (n : Int) := by omega
                  have hE3 : runS R (o1, false, l1) = E := by
                    have := HE2.out
                    rw [Nat.sub_self] at this
                    exact this
                  have HE3 := Lib.hid hE3
                  clear hE3
                  as_aux_lemma =>
                  go_wp2
                  go_roundg (p.length - (i + 1))
                  case measure => have := Hgi.out; omega
                  case rel => exact ⟨i + 1, f1, o1, R, false, l1, OW1, rfl, by omega, by go_num, by omega, HRR.out, HE3.out, HRN.out, hol1, HT.out⟩
            · have hpi : p[i]? = some o := by rw [← List.head?_drop, hp]; rfl
              have hpr : p.drop (i + 1) = r := by rw [← List.drop_drop, hp]; rfl
              have hbw := ((HT0.out.trans HT.out).new_ ow0 [1]).below
              obtain ⟨gp, op, cp, hv, r0, r1, r2, r3⟩ := at4r (HRD.out.new_ hbw) hpi
              obtain ⟨hA, hcc⟩ : A = some ⟨gp, op, none⟩ ∧ c = cp := by
                simp only [Value.slice.injEq] at hv
                exact ⟨hv.1, hv.2.2⟩
              subst hA hcc
              have b10 : (o.kind == 10) = false := beq_eq_false_iff_ne.2 h10
              have b5 : (o.kind == 5) = false := beq_eq_false_iff_ne.2 h5
              have hwi : IntKind.i64.wrap ((i : Int) + 1) = (i : Int) + 1 := by rw [IntKind.wrap_i64]; omega
              rw [← hpr] at hRr
              have HRR := Lib.hid hRr
              clear hp hpi hpr hbw hv hRr
              by_cases h6 : o'.length = 4096
              · have hst := step_over wr OW g o' false false o HRN.out h6
                have he : runS R (o', false, true) = E := by
                  have := HE.out
                  rw [runS, if_neg (show ¬ endS (o', false, false) = true from fun h => by cases h)] at this
                  unfold stepS at this
                  simp only at this
                  rw [if_pos h6] at this
                  exact this
                have HST := Lib.hid hst
                have HEE := Lib.hid he
                clear hst he HRN HE
                go_wp2_with fail
                refine HST.out.mono ?_
                rintro e w3 ⟨OW3, rfl, hrn3, t3⟩
                have HRN3 := Lib.hid hrn3
                have HT3 := Lib.hid (HT.out.trans t3)
                clear HST hrn3 t3 r0 r1 r2 r3
                go_wp2
                go_roundg (p.length - (i + 1))
                case measure => have := Hgi.out; omega
                case rel => exact ⟨i + 1, f1, o', R, false, true, OW3, rfl, by omega, by go_num, by omega, HRR.out, HEE.out, HRN3.out, hol', HT3.out⟩
              · have hst := step_on wr OW g o' false false o HRN.out (by omega)
                have he : runS R (o' ++ [o], (o.kind == 9), false) = E := by
                  have := HE.out
                  rw [runS, if_neg (show ¬ endS (o', false, false) = true from fun h => by cases h)] at this
                  unfold stepS at this
                  simp only at this
                  rw [if_neg h6] at this
                  exact this
                have HST := Lib.hid hst
                have HEE := Lib.hid he
                clear hst he HRN HE
                go_wp2_with fail
                refine HST.out.mono ?_
                rintro e w3 ⟨OW3, rfl, hrn3, t3⟩
                have HRN3 := Lib.hid hrn3
                have HT3 := Lib.hid (HT.out.trans t3)
                clear HST hrn3 t3 r0 r1 r2 r3
                go_wp2
                go_roundg (p.length - (i + 1))
                case measure => have := Hgi.out; omega
                case rel => exact ⟨i + 1, f1, o' ++ [o], R, _, false, OW3, rfl, by omega, by go_num, by omega, HRR.out, HEE.out, HRN3.out, by rw [List.length_append, List.length_singleton]; omega, HT3.out⟩
      · obtain rfl : i = p.length := by omega
        have j0 : ¬ (p.length : Int) < (p.length : Int) := by omega
        have hw := HW.out
        rw [List.drop_length] at hw
        have hs := whole_nil hw
        subst hs
        have hEE : (o', d', l') = E := HE.out
        subst hEE
        have hh := HRN.out
        have ht := HT.out
        clear HRN HT HE HW
        as_aux_lemma =>
        go_wp2
        go_end0
        first | exact ⟨_, rfl, hh, ht⟩ | exact ⟨rfl, _, hh, ht⟩
end CR
end Go.Proofs.YtnehiooioodkfaaDoor

/-
  CODE: the document's Steps.
-/
set_option linter.unusedVariables false
set_option linter.unusedSimpArgs false
namespace Go.Proofs.YtnehiooioodkfaaDoor
open Go Go.RowKit
namespace CR
open CD
set_option maxRecDepth 100000 in
set_option maxHeartbeats 4000000 in
theorem rsteps (w : World) (v : Value) (xs : List Op4) (h : Rd4 w v xs) (hn : xs.length ≤ 100000) :
    Calls Tryd.prog 31 #[v] w fun e w' => ∃ v', e = .returned (.tuple #[v', .int .i64 (listB xs).2]) ∧ Reads w' v' (listB xs).1.length (EOq.css (listB xs).1) ∧ Below w.heap.size w w' := by
  have hcheck := rcheck w v xs h (by omega)
  by_cases hck : (checkB xs).2 = 0
  rotate_left
  · have hcb : countB xs = (0, (checkB xs).2) := by unfold countB; rw [if_neg hck]
    have hl : listB xs = ([], (checkB xs).2) := by unfold listB; rw [hcb]; exact if_neg hck
    rw [hl]
    have hb : ((checkB xs).2 != 0) = true := by simp [hck]
    generalize (checkB xs).2 = E at *
    generalize (checkB xs).1 = a at *
    clear hcb hl h hck
    as_aux_lemma =>
    go_enter Tryd.func31, Tryd.ntmps31
    go_wp2_with fail
    refine hcheck.mono ?_
    rintro e w1 ⟨rfl, bd⟩
    go_wp2
    go_ret2
    exact ⟨_, rfl, .inl ⟨rfl, rfl, rfl⟩, bd⟩
  · obtain ⟨-, hcg⟩ := checkB_zero hck
    have hfi := checkG_all xs 0 0 hcg
    have hW := whole_of_check hck
    have hrs := runS_runG (segB xs) [] (by simp)
    have hlen := runG_len (segB xs) 0 (by omega)
    have hmore := runG_more (segB xs) 0
    rw [listB_res hck]
    obtain ⟨T, t, m, hG⟩ : ∃ T t m, runG (segB xs) 0 = (T, t, m) := ⟨_, _, _, rfl⟩
    rw [List.length_nil, hG, List.nil_append] at hrs
    rw [hG] at hlen hmore ⊢
    obtain ⟨R, hR⟩ : ∃ R, res (T, t, m) = R := ⟨_, rfl⟩
    rw [hR]
    have HR := Lib.hid hR
    clear hR
    simp only [Nat.zero_add] at hrs hlen hmore
    have hplay := fun (w1 : World) (ow : Ow) (g : Nat) (ht : Turn [1] w ow0 w1 ow) (hRN : RN w1 ow g [] false false) => play (xs.length + 1) w w1 ow g v xs (segB xs) [] false false hW h hn (fun o ho => ⟨(fieldsB_n (hfi o ho)).2.1, (fieldsB_n (hfi o ho)).1⟩) ht hRN (by simp)
    rw [hrs] at hplay
    have HPL := Lib.hid hplay
    have ZZ : (0 : Int) = (checkB xs).2 := hck.symm
    rw [hck] at hcheck
    generalize (checkB xs).1 = a at *
    clear hplay hrs hW hfi hcg h ZZ hG
    have hm2 : m = true → t = false := fun hm => (hmore hm).2
    clear hmore
    go_enter Tryd.func31, Tryd.ntmps31
    go_wp2_with fail
    refine hcheck.mono ?_
    rintro e w1 ⟨rfl, bd⟩
    obtain ⟨ow2, hX, n2, -⟩ := SH.add_cells w1 ow0 [1, 0] [.slice none 0 0, .bool false, .bool false] 103
    have t2 := ((bd.nw ow0).turn [1]).trans (n2.turn [1])
    have HP2 := Lib.hid (HPL.out _ ow2 _ t2 ⟨_, hX, Row.nil _ _ _ _ _⟩)
    have HT2 := Lib.hid t2
    clear hX n2 t2 HPL bd hcheck
    go_wp2_with fail
    refine HP2.out.mono ?_
    rintro e w3 ⟨OW3, rfl, hrn3, t3⟩
    simp only at hrn3
    have HT3 := Lib.hid (HT2.out.trans t3)
    generalize w1.heap.size = g at *
    have HRN3 := Lib.hid hrn3
    obtain ⟨vo, hc, hr⟩ := hrn3
    obtain ⟨A, c, rfl, -⟩ := hr.slice
    have c0 := hc.get 0 rfl
    have c1 := hc.get 1 rfl
    have c2 := hc.get 2 rfl
    simp only [Nat.zero_add] at c0 c1 c2
    have HR3 := Lib.hid hr.reads
    clear hc hr t3 HP2 HT2
    cases t with
    | true =>
      have hm : m = false := by cases m <;> simp_all
      subst hm
      have hres : R = ([], 5) := by rw [← HR.out]; rfl
      subst hres
      have HB := Lib.hid (HT3.out.new_ ow0 [1]).below
      clear HRN3 HT3 HR3 hm2 HR
      as_aux_lemma =>
      go_wp2
      go_ret2
      exact ⟨_, rfl, .inl ⟨rfl, rfl, rfl⟩, HB.out⟩
    | false =>
      cases m with
      | false =>
        have hres : R = (T, 0) := by rw [← HR.out]; rfl
        subst hres
        have HB := Lib.hid (HT3.out.new_ ow0 [1]).below
        clear HRN3 HT3 hm2 HR
        as_aux_lemma =>
        go_wp2
        go_ret2
        exact ⟨_, rfl, HR3.out, HB.out⟩
      | true =>
        clear hm2
        by_cases h6 : T.length = 4096
        · have hst := step_over w3 OW3 g T false false finO HRN3.out h6
          have hres : R = ([], 5) := by rw [← HR.out]; unfold res; rw [if_pos rfl]; exact if_pos h6
          subst hres
          have HST := Lib.hid hst
          clear hst HRN3 HR h6
          as_aux_lemma =>
          go_wp2_with fail
          refine HST.out.mono ?_
          rintro e w4 ⟨OW4, rfl, hrn4, t4⟩
          have HB := Lib.hid ((HT3.out.trans t4).new_ ow0 [1]).below
          obtain ⟨vo4, hc4, -⟩ := hrn4
          have d2 := hc4.get 2 rfl
          simp only [Nat.zero_add] at d2
          clear HST hc4 t4 c0 c1 c2 HR3
          go_wp2
          go_ret2
          exact ⟨_, rfl, .inl ⟨rfl, rfl, rfl⟩, HB.out⟩
        · have hst := step_on w3 OW3 g T false false finO HRN3.out (by omega)
          have hres : R = (T ++ [finO], 0) := by rw [← HR.out]; unfold res; rw [if_pos rfl]; exact if_neg h6
          obtain ⟨T4, hT4⟩ : ∃ T4, T ++ [finO] = T4 := ⟨_, rfl⟩
          rw [hT4] at hst hres
          subst hres
          have HST := Lib.hid hst
          clear hst HRN3 HR h6 hT4
          as_aux_lemma =>
          go_wp2_with fail
          refine HST.out.mono ?_
          rintro e w4 ⟨OW4, rfl, hrn4, t4⟩
          have HB := Lib.hid ((HT3.out.trans t4).new_ ow0 [1]).below
          obtain ⟨vo4, hc4, hr4⟩ := hrn4
          obtain ⟨A4, cc4, rfl, -⟩ := hr4.slice
          have d0 := hc4.get 0 rfl
          have d2 := hc4.get 2 rfl
          simp only [Nat.zero_add] at d0 d2
          have HR4 := Lib.hid hr4.reads
          clear HST hc4 hr4 t4 c0 c1 c2 HR3
          go_wp2
          go_ret2
          exact ⟨_, rfl, HR4.out, HB.out⟩
end CR
end Go.Proofs.YtnehiooioodkfaaDoor

/-
  CODE: the law CodeSteps.
-/
set_option linter.unusedVariables false
set_option linter.unusedSimpArgs false
namespace Go.Proofs.YtnehiooioodkfaaDoor
open Go Go.RowKit
namespace CR
open CD
/-- What is new gets an owner at will. -/
theorem Row.own_ {w w' : World} {OW : Ow} {s : List Nat} {T sz n : Nat} {v : Value} {cs : List Value} (h : Row w' OW s T sz v n cs) (hs : s ≠ [0]) (ht : Turn [1] w ow0 w' OW) (ow : Ow) (q : List Nat) : ∃ ow', Row w' ow' q T sz v n cs ∧ New w ow w' ow' := by
  refine ⟨fun b o => if b < w.heap.size then ow b o else q, ⟨h.1, ?_⟩, ⟨(ht.new_ ow0 [1]).below, fun b o hb => by simp [hb]⟩⟩
  rcases h.2 with h | ⟨g, off, cap, c, hv, hg, ho, r⟩
  · exact .inl h
  · refine .inr ⟨g, off, cap, c, hv, hg, fun o => ?_, r⟩
    have hge : ¬ g < w.heap.size := fun hlt => hs (by have := (ht.own g o hlt).symm.trans (ho o); simp only [ow0] at this; exact this.symm)
    simp [hge]
theorem list_count (xs : List Op4) : (countB xs).2 = (listB xs).2 ∧ (countB xs).1 = ((listB xs).1.length : Int) := by
  by_cases h : (countB xs).2 = 0
  · have hl : (listB xs).2 = 0 := by unfold listB; rw [if_pos h]
    have := count_len hl
    rw [this]
    exact ⟨hl.symm, rfl⟩
  · have hl : listB xs = ([], (countB xs).2) := by unfold listB; rw [if_neg h]
    rw [hl]
    refine ⟨rfl, ?_⟩
    unfold countB walkN at h ⊢
    split
    · rename_i hc
      rw [if_pos hc] at h
      split
      · rename_i hm
        rw [if_pos hm] at h
        split
        · rfl
        · rename_i hk; rw [if_neg hk] at h; exact absurd rfl h
      · rename_i hm
        rw [if_neg hm] at h
        split
        · rfl
        · rename_i hk; rw [if_neg hk] at h; exact absurd rfl h
    · rfl
theorem list_len (xs : List Op4) : (listB xs).1.length ≤ 4097 := by
  have hl := runG_len (segE xs (endsB xs) (xs.length + 1) 0 xs.length) 0 (by omega)
  change 0 + (allE xs).1.length ≤ 4096 at hl
  unfold listB
  split
  · unfold walkT
    split
    · simp only [List.length_append, List.length_cons, List.length_nil]; omega
    · simp only; omega
  · simp
/-- Steps, its list under a name of our own. -/
theorem stepsO (w : World) (v : Value) (xs : List Op4) (h : Rd4 w v xs) (hn : xs.length ≤ 1000000) (ow : Ow) (q : List Nat) : Calls Tryd.prog 19 #[v] w fun e w' => ∃ v' ow', e = .returned (.tuple #[v', .int .i64 (listB xs).2]) ∧ Row w' ow' q 32 4 v' (listB xs).1.length (EOq.css (listB xs).1) ∧ New w ow w' ow' := by
  refine (steps w v xs h hn fun hc => nested_of_check hc).mono ?_
  rintro e w' ⟨OW, v', rfl, hr, t⟩
  obtain ⟨ow', h1, h2⟩ := Row.own_ hr (by simp) t ow q
  exact ⟨v', ow', rfl, h1, h2⟩
set_option maxRecDepth 100000 in
set_option maxHeartbeats 4000000 in
theorem stepsL (w : World) (hV : VL w) (v0 : Value) (ps0 : List Op4) (h0 : EOq.In w v0 ps0) :
    Calls Tryd.prog 6 #[v0] w fun e w' => e = .returned (.bool true) ∧ Below w.heap.size w w' := by
  have hs1 := EOq.few w v0 ps0 300 h0 (by omega)
  have HS1 := Lib.hid hs1
  have HV := Lib.hid hV
  have HR := Lib.hid (fun (W : World) (b : Below w.heap.size w W) => runs W (HV.out.nb b))
  clear hs1 hV h0
  go_enter Tryd.func6, Tryd.ntmps6
  go_wp2_with fail
  refine HS1.out.mono ?_
  rintro e w1 ⟨v2, rfl, hin1, hw⟩
  subst w1
  have hpl : (ps0.take 300).length ≤ 300 := List.length_take_le _ _
  have hp := rd_of_in hin1
  clear HS1 hin1
  generalize ps0.take 300 = ps at *
  have HP := Lib.hid hp
  obtain ⟨A1, c1, rfl, -⟩ := hp.slice
  clear hp
  obtain ⟨full, hfull⟩ : ∃ full, full = ps ++ List.replicate 80 mkO := ⟨_, rfl⟩
  have hfl : full.length = ps.length + 80 := by rw [hfull, List.length_append, List.length_replicate]
  have hroom := fun (W : World) (h : Rd4 W (.slice A1 ps.length c1) ps) => roomy W _ ps mkO full hfull h (by omega)
  have hint := fun (W : World) (vf : Value) (hf : Rd4 W vf full) (h : Rd4 W (.slice A1 ps.length c1) ps) => intact W vf _ ps mkO (by rw [← hfull]; exact hf) h (by omega)
  have hst := fun (W : World) (v : Value) (h : Rd4 W v ps) (ow : Ow) (q : List Nat) => stepsO W v ps h (by omega) ow q
  have hcn := fun (W : World) (v : Value) (h : Rd4 W v ps) => count W v ps h (by omega) fun hc => nested_of_check hc
  rw [(list_count ps).1, (list_count ps).2] at hcn
  have hrs := fun (W : World) (v : Value) (h : Rd4 W v ps) => rsteps W v ps h (by omega)
  have hsn := fun (W : World) (ow : Ow) (q : List Nat) => stepsO W (.slice none 0 0) [] ⟨none, 0, rfl, Nat.le_refl _, fun h => absurd h (by simp)⟩ (by simp) ow q
  have hll := list_len ps
  have hll2 := list_len []
  have hmk := mark
  have hfr : ∀ (W : World) (g off cap : Nat), Reads W (.slice (some ⟨g, off, none⟩) full.length cap) full.length (EOq.css full) → full.length ≤ cap → Rd4 W (.slice (some ⟨g, off, none⟩) ps.length cap) ps := fun W g off cap h1 h2 => front4 (xs := ps) (ys := List.replicate 80 mkO) (by rw [← hfull]; exact h1) (by rw [← hfull]; exact h2)
  clear hfull
  generalize (listB ps).1 = L at *
  generalize (listB ps).2 = E at *
  generalize (listB []).1 = L0 at *
  generalize (listB []).2 = E0 at *
  have HROOM := Lib.hid hroom
  have HINT := Lib.hid hint
  have HST := Lib.hid hst
  have HCN := Lib.hid hcn
  have HRS := Lib.hid hrs
  have HSN := Lib.hid hsn
  have HMK := Lib.hid hmk
  have HFR := Lib.hid hfr
  clear hroom hint hst hcn hrs hsn hmk hfr
  go_wp2_with fail
  refine (HMK.out w).mono ?_
  rintro e w1 ⟨rfl, b1⟩
  have HP1 := Lib.hid (HP.out.new_ b1)
  have HB1 := Lib.hid b1
  clear b1
  go_wp2_with fail
  refine (HROOM.out w1 HP1.out).mono ?_
  rintro e w2 ⟨v3, rfl, r3, b2⟩
  have HB2 := Lib.hid (HB1.out.trans (b2.mono HB1.out.size))
  have HP2 := Lib.hid (HP1.out.new_ b2)
  obtain ⟨gb, off, cap, rfl, hcap, -⟩ := r3.at (by omega)
  have hfront := HFR.out w2 gb off cap r3 hcap
  have HF2 := Lib.hid hfront
  have HU2 := Lib.hid (rd4 r3)
  have hle : (ps.length : Int) ≤ (cap : Int) := by omega
  clear b2 r3 hfront HP1 HB1 HROOM HFR
  go_wp2_with fail
  refine (HRS.out w2 _ HP2.out).mono ?_
  rintro e w3 ⟨v4, rfl, r4, b3⟩
  have HB3 := Lib.hid (HB2.out.trans (b3.mono HB2.out.size))
  have HP3 := Lib.hid (HP2.out.new_ b3)
  have HF3 := Lib.hid (HF2.out.new_ b3)
  have HU3 := Lib.hid (HU2.out.new_ b3)
  have HW3 := Lib.hid (rd4 r4)
  obtain ⟨A4, c4, rfl, -⟩ := r4.slice
  have hs1 : (E != E) = false := by simp
  have hs2 : ((L.length : Int) != (L.length : Int)) = false := by simp
  obtain ⟨ow4, hX, n4, -⟩ := SH.add_cells w3 ow0 [1, 2, 0] [.slice none 0 0, .slice none 0 0, .int .i64 0, .bool false] 57
  have HBK := Lib.hid (EOq.Book.nil (p := [1, 2]) 0 hX)
  have HT4 := Lib.hid (n4.turn [1])
  clear b3 r4 hX n4 HP2 HF2 HU2 HB2 HRS
  go_wp2
  generalize w3.heap.size = gbx at *
  go_loopg [7] 2 (fun gn i wr => ∃ (k : Nat) (OW : Ow), gn = 2 - k ∧ k ≤ 2 ∧ i = .int .i64 (k : Int) ∧ EOq.Book wr OW [1, 2] gbx 0 (2 * k) ∧ Turn [1] w3 ow0 wr OW)
  case atStart => exact ⟨0, ow4, rfl, by omega, rfl, HBK.out, HT4.out⟩
  case round =>
    clear HBK HT4
    obtain ⟨k, OW, hgk, hk, rfl, hb, tt⟩ := hrel
    have Hgk := Lib.hid hgk
    have HBK := Lib.hid hb
    have HT := Lib.hid tt
    have bd := (tt.new_ ow0 [1]).below
    have HB5 := Lib.hid (HB3.out.trans (bd.mono HB3.out.size))
    have HP5 := Lib.hid (HP3.out.new_ bd)
    have HF5 := Lib.hid (HF3.out.new_ bd)
    have HU5 := Lib.hid (HU3.out.new_ bd)
    have HW5 := Lib.hid (HW3.out.new_ bd)
    clear hgk hb tt bd
    by_cases hlt : k < 2
    · have i0 : (k : Int) < 2 := by omega
      have hwk : IntKind.i64.wrap ((k : Int) + 1) = (k : Int) + 1 := by rw [IntKind.wrap_i64]; omega
      go_wp2_with fail
      refine (HST.out wr _ HF5.out OW [1, 2, 3, 2 * k]).mono ?_
      rintro e w6 ⟨v6, ow6, rfl, hr6, n6⟩
      have HF6 := Lib.hid (HF5.out.new_ n6.below)
      have HW6 := Lib.hid (HW5.out.new_ n6.below)
      have HBK6 := Lib.hid (HBK.out.new_ n6)
      have HT6 := Lib.hid (HT.out.trans (n6.turn [1]))
      have HR6 := Lib.hid hr6
      obtain ⟨A6, c6, rfl, -⟩ := hr6.slice
      clear hr6 n6 HF5 HW5 HBK HT HB5 HP5 HU5
      go_wp2_with fail
      refine (HCN.out w6 _ HF6.out).mono ?_
      rintro e w7 ⟨rfl, b7⟩
      have n7 := b7.nw ow6
      have HW7 := Lib.hid (HW6.out.new_ b7)
      have HBK7 := Lib.hid (HBK6.out.new_ n7)
      have HT7 := Lib.hid (HT6.out.trans (n7.turn [1]))
      have HR7 := Lib.hid (HR6.out.new_ n7)
      have hsm := same_rd w7 _ _ L (by omega) (rd4 HR7.out.reads) HW7.out
      have HSM := Lib.hid hsm
      clear b7 n7 HF6 HW6 HBK6 HT6 HR6 hsm
      go_wp2_with fail
      refine HSM.out.mono ?_
      rintro e w8 ⟨rfl, k8, hw8⟩
      have n8 := (hw8 ▸ drewN_below w7 k8 : Below w7.heap.size w7 w8).nw ow6
      have HBK8 := Lib.hid (HBK7.out.new_ n8)
      have HT8 := Lib.hid (HT7.out.trans (n8.turn [1]))
      have HR8 := Lib.hid (HR7.out.new_ n8)
      have hkp := EOq.bk_keep w8 ow6 [1, 2] gbx 0 (2 * k) _ L HBK8.out HR8.out (by omega)
      have HKP := Lib.hid hkp
      clear hw8 n8 HW7 HBK7 HT7 HR7 HSM hkp
      go_wp2_with fail
      refine HKP.out.mono ?_
      rintro e w9 ⟨ow9, rfl, hb9, t9⟩
      have HBK9 := Lib.hid hb9
      have HT9 := Lib.hid (HT8.out.trans (t9.up (by simp)))
      clear hb9 t9 HKP HBK8 HT8 HR8
      go_wp2_with fail
      refine (HSN.out w9 ow9 [1, 2, 3, 2 * k + 1]).mono ?_
      rintro e w10 ⟨v10, ow10, rfl, hr10, n10⟩
      have HT10 := Lib.hid (HT9.out.trans (n10.turn [1]))
      have hkp := EOq.bk_keep w10 ow10 [1, 2] gbx 0 (2 * k + 1) v10 L0 (HBK9.out.new_ n10) hr10 (by omega)
      have HKP := Lib.hid hkp
      clear hkp hr10 n10 HT9 HBK9
      go_wp2_with fail
      refine HKP.out.mono ?_
      rintro e w11 ⟨ow11, rfl, hb11, t11⟩
      have HBK11 := Lib.hid hb11
      have HT11 := Lib.hid (HT10.out.trans (t11.up (by simp)))
      clear hb11 t11 HKP HT10
      go_wp2
      go_roundg (2 - (k + 1))
      case measure => have := Hgk.out; omega
      case rel => exact ⟨k + 1, ow11, rfl, by omega, by go_num, HBK11.out, HT11.out⟩
    · obtain rfl : k = 2 := by omega
      have i0 : ¬ ((2 : Nat) : Int) < 2 := by omega
      have hap := EOq.bk_apart wr OW [1, 2] gbx 0 (2 * 2) HBK.out
      have HAP := Lib.hid hap
      clear hap HBK HF5 HW5 HP5 HU5
      as_aux_lemma =>
      go_wp2_with fail
      refine HAP.out.mono ?_
      rintro e w5 ⟨ow5, rfl, t5⟩
      have bd := ((HT.out.trans (t5.up (by simp))).new_ ow0 [1]).below
      have HB6 := Lib.hid (HB3.out.trans (bd.mono HB3.out.size))
      have HP6 := Lib.hid (HP3.out.new_ bd)
      have HU6 := Lib.hid (HU3.out.new_ bd)
      clear t5 bd HAP HT HB5
      go_wp2_with fail
      refine (HMK.out w5).mono ?_
      rintro e w6 ⟨rfl, b6⟩
      have HB7 := Lib.hid (HB6.out.trans (b6.mono HB6.out.size))
      have HP7 := Lib.hid (HP6.out.new_ b6)
      have HU7 := Lib.hid (HU6.out.new_ b6)
      clear b6 HB6 HP6 HU6
      have hI := HINT.out w6 _ HU7.out HP7.out
      rw [hfl] at hI
      have HI := Lib.hid hI
      clear hI
      go_wp2_with fail
      refine HI.out.mono ?_
      rintro e w7 ⟨rfl, b7⟩
      have HB8 := Lib.hid (HB7.out.trans (b7.mono HB7.out.size))
      clear b7 HB7 HP7 HU7
      go_wp2_with fail
      refine (HR.out _ HB8.out).mono ?_
      rintro e w9 ⟨rfl, b9⟩
      go_wp2
      go_ret
      exact ⟨rfl, HB8.out.trans (b9.mono HB8.out.size)⟩
end CR
end Go.Proofs.YtnehiooioodkfaaDoor
