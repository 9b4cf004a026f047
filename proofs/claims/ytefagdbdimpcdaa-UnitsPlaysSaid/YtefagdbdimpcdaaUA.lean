/-
  LAW 5: act, made, Clamp.
-/
import Derived.Test.YtefagdbdimpcdaaU8
import Derived.Test.YtefagdbdimpcdaaEOp5P
import Derived.Test.YtefagdbdimpcdaaEIntP
import Derived.Deep.CutRange
import Derived.Deep.CutBlock
set_option linter.unusedVariables false
set_option linter.unusedSimpArgs false
namespace Go.Proofs.Ytefagdbdimpcdaa
open Go Go.RowKit
namespace UN

def cl (n : Int) : Int := if n < 1 then 1 else if 255 < n then 255 else n
theorem cl_ok (n : Int) : okU (cl n) := by unfold cl okU; split <;> (try split) <;> omega

set_option maxHeartbeats 1000000 in
theorem clamp (w : World) (n : Int) : Calls Try.prog 58 #[.int .i64 n, .int .i64 1, .int .i64 255] w fun e w' => e = .returned (.int .i64 (cl n)) ∧ w' = w := by
  unfold cl
  by_cases h1 : n < 1
  · rw [if_pos h1]
    go_enter Try.func58, Try.ntmps58
    go_wp2
    go_ret
    exact ⟨rfl, rfl⟩
  · rw [if_neg h1]
    by_cases h2 : 255 < n
    · rw [if_pos h2]
      go_enter Try.func58, Try.ntmps58
      go_wp2
      go_ret
      exact ⟨rfl, rfl⟩
    · rw [if_neg h2]
      go_enter Try.func58, Try.ntmps58
      go_wp2
      go_ret
      exact ⟨rfl, rfl⟩

/-- What a call of the script leaves. -/
def actC (U C : List Int) (T : List Tk) (o : Op5) : List Int := if o.kind = 4 then storeC U C T o.job o.res o.v else C
def actT (U : List Int) (T : List Tk) (o : Op5) : List Tk := if o.kind = 0 then lockT U T o.job o.res o.n o.need else if o.kind = 1 then unlockT U T o.job o.res else if o.kind = 2 then dropT o.job T else T
/-- .. and what a whole script leaves. -/
def runS (U : List Int) : List Op5 → List Int × List Tk → List Int × List Tk
  | [], s => s
  | o :: os, s => runS U os (actC U s.1 s.2 o, actT U s.2 o)
theorem runS_snoc (U : List Int) (o : Op5) : ∀ (os : List Op5) (s : List Int × List Tk), runS U (os ++ [o]) s = (actC U (runS U os s).1 (runS U os s).2 o, actT U (runS U os s).2 o)
  | [], s => rfl
  | x :: os, s => runS_snoc U o os _

theorem runS_step (U : List Int) (xs : List Op5) (k : Nat) (o : Op5) (s : List Int × List Tk) (ho : xs[k]? = some o) : runS U (xs.take (k + 1)) s = (actC U (runS U (xs.take k) s).1 (runS U (xs.take k) s).2 o, actT U (runS U (xs.take k) s).2 o) := by
  rw [List.take_add_one, ho]; exact runS_snoc U o _ _
set_option maxRecDepth 100000 in
set_option maxHeartbeats 4000000 in
theorem act (w : World) (ow : Ow) (p : List Nat) (g : Nat) (U C : List Int) (T : List Tk) (h : UT w ow p g U C T) (o : Op5) :
    Calls Try.prog 25 #[.pointer (some ⟨g, 0, none⟩), .agg #[.int .i64 o.kind, .int .i64 o.job, .int .i64 o.res, .int .i64 o.n, .int .i64 o.need, .int .i64 o.v]] w fun e w' => ∃ ow', e = .returned (.tuple #[]) ∧ UT w' ow' p g U (actC U C T o) (actT U T o) ∧ Turn p w ow w' ow' := by
  unfold actC actT
  have n1 : New w ow (w.alloc (.cells #[.int .i64 o.kind, .int .i64 o.job, .int .i64 o.res, .int .i64 o.n, .int .i64 o.need, .int .i64 o.v] 43)) ow := ((Below.refl _ _).alloc (Nat.le_refl _) _).nw ow
  have h1 := h.new_ n1
  by_cases k0 : o.kind = 0
  · rw [if_neg (by omega), if_pos k0]
    have b0 : (o.kind == 0) = true := beq_iff_eq.2 k0
    rw [k0] at n1 h1
    go_enter Try.func25, Try.ntmps25
    go_wp2_with fail
    refine (lock _ ow p g U C T h1 o.job o.res o.n o.need).mono ?_
    rintro e w2 ⟨ow2, rfl, h2, t2⟩
    go_wp2
    go_end0
    exact ⟨ow2, rfl, h2, (n1.turn p).trans t2⟩
  · rw [if_neg k0]
    have b0 : (o.kind == 0) = false := beq_eq_false_iff_ne.2 k0
    by_cases k1 : o.kind = 1
    · rw [if_neg (by omega), if_pos k1]
      have b1 : (o.kind == 1) = true := beq_iff_eq.2 k1
      rw [k1] at n1 h1
      go_enter Try.func25, Try.ntmps25
      go_wp2_with fail
      refine (unlock _ ow p g U C T h1 o.job o.res).mono ?_
      rintro e w2 ⟨ow2, rfl, h2, t2⟩
      go_wp2
      go_end0
      exact ⟨ow2, rfl, h2, (n1.turn p).trans t2⟩
    · rw [if_neg k1]
      have b1 : (o.kind == 1) = false := beq_eq_false_iff_ne.2 k1
      by_cases k2 : o.kind = 2
      · rw [if_neg (by omega), if_pos k2]
        have b2 : (o.kind == 2) = true := beq_iff_eq.2 k2
        rw [k2] at n1 h1
        go_enter Try.func25, Try.ntmps25
        go_wp2_with fail
        refine (drop _ ow p g U C T h1 o.job).mono ?_
        rintro e w2 ⟨ow2, rfl, h2, t2⟩
        go_wp2
        go_end0
        exact ⟨ow2, rfl, h2, (n1.turn p).trans t2⟩
      · rw [if_neg k2]
        have b2 : (o.kind == 2) = false := beq_eq_false_iff_ne.2 k2
        by_cases k4 : o.kind = 4
        · rw [if_pos k4]
          have b4 : (o.kind == 4) = true := beq_iff_eq.2 k4
          rw [k4] at n1 h1
          go_enter Try.func25, Try.ntmps25
          go_wp2_with fail
          refine (store _ ow p g U C T h1 o.job o.res o.v).mono ?_
          rintro e w2 ⟨ow2, rfl, h2, t2⟩
          go_wp2
          go_end0
          exact ⟨ow2, rfl, h2, (n1.turn p).trans t2⟩
        · rw [if_neg k4]
          have b4 : (o.kind == 4) = false := beq_eq_false_iff_ne.2 k4
          go_enter Try.func25, Try.ntmps25
          go_wp2
          go_end0
          exact ⟨ow, rfl, h1, n1.turn p⟩

/-- The first k are clamped. -/
def clK (us : List Int) (k : Nat) : List Int := (us.take k).map cl ++ us.drop k
theorem clK_length (us : List Int) (k : Nat) : (clK us k).length = us.length := by simp [clK]; omega
theorem clK_at (us : List Int) (k : Nat) (x : Int) (hx : us[k]? = some x) : (clK us k)[k]? = some x := by
  have hk := (List.getElem?_eq_some_iff.1 hx).1
  unfold clK
  rw [List.getElem?_append_right (by rw [List.length_map, List.length_take]; omega), List.length_map, List.length_take, Nat.min_eq_left (by omega), Nat.sub_self, List.getElem?_drop]
  exact hx
theorem clK_set (us : List Int) (k : Nat) (x : Int) (hx : us[k]? = some x) : (clK us k).set k (cl x) = clK us (k + 1) := by
  have hk := (List.getElem?_eq_some_iff.1 hx).1
  have hl : ((us.take k).map cl).length = k := by rw [List.length_map, List.length_take]; omega
  unfold clK
  have hg : us[k] = x := (List.getElem?_eq_some_iff.1 hx).2
  rw [List.set_append_right _ _ (by omega), hl, Nat.sub_self, List.take_add_one, hx, List.drop_eq_getElem_cons hk, hg, List.set_cons_zero]
  simp
theorem clK_end (us : List Int) : clK us us.length = us.map cl := by simp [clK]
theorem clK_start (us : List Int) : clK us 0 = us := by simp [clK]

/-- What the first loop of made keeps. -/
def md1 (w : World) (ow : Ow) (q : List Nat) (V : Value) (us : List Int) (gn : Nat) (i : Value) (wr : World) : Prop :=
  ∃ (k : Nat) (OW : Ow), gn = us.length - k ∧ k ≤ us.length ∧ i = .int .i64 (k : Int) ∧ Row wr OW q 3 1 V us.length (EInt.css (clK us k)) ∧ Turn q w ow wr OW
def md2 (w : World) (ow : Ow) (p : List Nat) (g : Nat) (U : List Int) (s0 : List Int × List Tk) (xs : List Op5) (gn : Nat) (i : Value) (wr : World) : Prop :=
  ∃ (k : Nat) (OW : Ow), gn = xs.length - k ∧ k ≤ xs.length ∧ i = .int .i64 (k : Int) ∧ UT wr OW p g U (runS U (xs.take k) s0).1 (runS U (xs.take k) s0).2 ∧ Turn p w ow wr OW
/-- What made leaves. -/
def MadeP (w : World) (ow : Ow) (q p : List Nat) (V : Value) (us : List Int) (xs : List Op5) (e : Ending) (w' : World) : Prop :=
  ∃ (g : Nat) (wm : World) (om : Ow) (wn : World) (on_ ow' : Ow), e = .returned (.pointer (some ⟨g, 0, none⟩)) ∧ UT w' ow' p g (us.map cl) (runS (us.map cl) xs (List.replicate us.length 0, [])).1 (runS (us.map cl) xs (List.replicate us.length 0, [])).2 ∧
    Row w' ow' q 3 1 V us.length (EInt.css (us.map cl)) ∧ Turn q w ow wm om ∧ New wm om wn on_ ∧ Turn p wn on_ w' ow'

set_option maxRecDepth 100000 in
set_option maxHeartbeats 4000000 in
theorem made (wb w : World) (ow : Ow) (q p : List Nat) (hb : Turn [1] wb ow0 w ow) (V : Value) (us : List Int) (hl : Row w ow (1 :: q) 3 1 V us.length (EInt.css us)) (hus : us.length ≤ 16) (hpq : ¬ p <+: q)
    (A : Option Addr) (cap : Nat) (xs : List Op5) (hx : EOp.Cov wb A (EOp.css xs)) (hxl : xs.length ≤ 1000000) :
    Calls Try.prog 22 #[V, .slice A xs.length cap] w (MadeP w ow (1 :: q) (1 :: p) V us xs) := by
  obtain ⟨AV, cV, rfl, hcV⟩ := hl.slice
  have Hx := Lib.hid hx
  have Hb := Lib.hid hb
  clear hx hb
  go_enter Try.func22, Try.ntmps22
  go_wp2
  go_loopg [5] us.length (fun gn i wr => md1 w ow (1 :: q) (.slice AV us.length cV) us gn i wr)
  case atStart => exact ⟨0, ow, rfl, Nat.zero_le _, rfl, by rw [clK_start]; exact hl, Turn.refl _ _ _⟩
  case round =>
    clear hl
    obtain ⟨k, OW, hgk, hk, rfl, hl, t⟩ := hrel
    have Hgk := Lib.hid hgk
    clear hgk
    by_cases hlt : k < us.length
    · obtain ⟨x, hx⟩ : ∃ x, us[k]? = some x := ⟨_, List.getElem?_eq_getElem hlt⟩
      obtain ⟨b, off, cap2, hv, lb, e0, hfz⟩ := row_at hl (clK_length us k) k x (clK_at us k x hx)
      simp only [Value.slice.injEq] at hv
      obtain ⟨rfl, -, rfl⟩ := hv
      have f0 := hfz (off + k)
      have i0 : (k : Int) < (us.length : Int) := by omega
      have tk := hl.turn (off + k) (.int .i64 (cl x))
      have h2 := hl.set k (.int .i64 (cl x))
      rw [css_cells1 (clK us k) 0 (cl x) k, clK_set us k x hx] at h2
      have t2 := t.trans tk
      clear hx hl t tk hfz
      go_wp2_with fail
      refine (clamp wr x).mono ?_
      rintro e w3 ⟨rfl, rfl⟩
      go_wp2
      go_roundg (us.length - (k + 1))
      case measure => have := Hgk.out; omega
      case rel => exact ⟨k + 1, OW, rfl, by omega, by go_num, h2, t2⟩
    · obtain rfl : k = us.length := by omega
      rw [clK_end] at hl
      have hml : (us.map cl).length = us.length := List.length_map _
      clear hlt Hgk
      go_wp2_with fail
      refine (new_ok wr (.slice AV us.length cV) (us.map cl) (by rw [hml]; exact hl.reads) OW (1 :: p) (by rw [hml]; exact hus) (fun u hu => by obtain ⟨x, -, rfl⟩ := List.mem_map.1 hu; exact cl_ok x)).mono ?_
      rintro e w2 ⟨g, ow2, rfl, hT, nn, -⟩
      have hl2 := hl.new_ nn
      rw [hml] at hT
      have tb2 := Lib.hid ((Hb.out.trans (t.up (p := [1]) (by simp))).trans (nn.turn [1]))
      have Hl := Lib.hid hl2
      clear hl hl2
      go_wp2
      go_loopg [8] xs.length (fun gn i wr => md2 w2 ow2 (1 :: p) g (us.map cl) (List.replicate us.length 0, []) xs gn i wr)
      case atStart => exact ⟨0, ow2, rfl, Nat.zero_le _, rfl, hT, Turn.refl _ _ _⟩
      case round =>
        clear hT
        obtain ⟨k, OW3, hgk, hk, rfl, hT, t3⟩ := hrel
        have Hgk := Lib.hid hgk
        clear hgk
        by_cases hlt : k < xs.length
        · obtain ⟨o, ho⟩ : ∃ o, xs[k]? = some o := ⟨_, List.getElem?_eq_getElem hlt⟩
          obtain ⟨b, off, rfl, c0, c1, c2, c3, c4, c5⟩ := (Hx.out.new_ ((tb2.out.trans (t3.up (p := [1]) (by simp))).new_ ow0 [1]).below).at k o ho
          have i0 : (k : Int) < (xs.length : Int) := by omega
          have hsn := runS_step (us.map cl) xs k o (List.replicate us.length 0, []) ho
          have Hsn := Lib.hid hsn
          clear ho hsn
          go_wp2_with fail
          refine (act wr OW3 (1 :: p) g (us.map cl) _ _ hT o).mono ?_
          rintro e w4 ⟨ow4, rfl, h4, t4⟩
          have t5 := t3.trans t4
          clear hT t3 t4 c0 c1 c2 c3 c4 c5
          go_wp2
          go_roundg (xs.length - (k + 1))
          case measure => have := Hgk.out; omega
          case rel => exact ⟨k + 1, ow4, rfl, by omega, by go_num, by rw [Hsn.out]; exact h4, t5⟩
        · obtain rfl : k = xs.length := by omega
          rw [List.take_length] at hT
          clear hlt Hgk
          go_wp2
          go_ret
          exact ⟨g, _, OW, _, ow2, OW3, rfl, hT, Hl.out.keep t3 (by simpa using hpq), t, nn, t3⟩
end UN
end Go.Proofs.Ytefagdbdimpcdaa
