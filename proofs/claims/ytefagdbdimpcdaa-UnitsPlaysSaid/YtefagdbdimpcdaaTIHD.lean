/-
  SLICES.INSERT and SLICES.DELETE at the rows of SHELF.TABLE[int, *keel/units.holder].
-/
import Derived.Test.YtefagdbdimpcdaaTIHT
set_option linter.unusedVariables false
set_option linter.unusedSimpArgs false
namespace Go.Proofs.Ytefagdbdimpcdaa
open Go Go.RowKit
namespace TIH

theorem isz : (Try.prog.info? 125).map (·.size) = some 2 := by kernel_rfl
theorem onez : ∀ u ∈ (Value.agg #[.int .i64 0, .pointer none]).cells.toList, u.oneCell' = true := by
  intro u hu
  have : u ∈ ([.int .i64 0, .pointer none] : List Value) := hu
  simp only [List.mem_cons, List.not_mem_nil, or_false] at this
  rcases this with h | h <;> subst h <;> rfl
/-- A row put in at place i. -/
def insR (rows : List R) (i : Nat) (x : R) : List R := rows.take i ++ [x] ++ rows.drop i
theorem insR_length (rows : List R) (i : Nat) (x : R) (hi : i ≤ rows.length) : (insR rows i x).length = rows.length + 1 := by
  simp only [insR, List.length_append, List.length_take, List.length_drop, List.length_singleton]; omega
theorem css_ins (rows : List R) (i : Nat) (x : R) : css (insR rows i x) = css (rows.take i) ++ cs x ++ css (rows.drop i) := by
  rw [insR, css_append, css_snoc]
/-- What Insert and Delete leave. -/
def RowL (w : World) (ow : Ow) (p : List Nat) (rows : List R) (e : Ending) (w' : World) : Prop :=
  ∃ v' ow', e = .returned v' ∧ Row w' ow' p 125 2 v' rows.length (css rows) ∧ Turn p w ow w' ow'

set_option maxRecDepth 100000 in
set_option maxHeartbeats 4000000 in
theorem ins (w : World) (ow : Ow) (p : List Nat) (A : Option Addr) (c : Nat) (rows : List R) (x : R) (i vb : Nat) (hr : Row w ow p 125 2 (.slice A rows.length c) rows.length (css rows)) (hi : i ≤ rows.length) (hn : rows.length ≤ 1099511627776) (hv : Loc w vb (cs x)) (hvp : ow vb 0 ≠ p) :
    Calls Try.prog 76 #[.slice A rows.length c, .int .i64 (i : Int), .slice (some ⟨vb, 0, none⟩) 1 1] w (RowL w ow p (insR rows i x)) := by
  have hsrc : Reads w (.slice (some ⟨vb, 0, none⟩) 1 1) 1 (cs x) := .inr ⟨vb, 0, 1, rfl, Nat.le_refl _, fun j u hj => by rw [Nat.zero_add]; exact hv.get j hj⟩
  have hi0 : (0 : Int) ≤ (i : Int) := by omega
  by_cases hin : i = rows.length
  · subst hin
    have hb : ((rows.length : Int) == (rows.length : Int)) = true := by simp
    have Hr := Lib.hid hr
    clear hv hvp
    have hlc : rows.length ≤ c := by obtain ⟨_, _, h, h2⟩ := hr.slice; simp only [Value.slice.injEq] at h; omega
    go_enter Try.func76, Try.ntmps76
    go_wp2_with (at_builtin; refine wpList_append_row rfl (.tmp 23) (.tmp 24) 82 82 rfl 125 _ 2 16 Try.underlying82 info rfl rfl Hr.out rfl (hsrc.src Try.underlying82 rfl (cs_one x)) (by unfold maxLen; omega) (by omega) ?_)
    all_goals
      intro v2 w2 ow2 hr2 t2
      go_wp2
      go_ret
      refine ⟨v2, ow2, rfl, ?_, t2⟩
      rw [insR_length _ _ _ (Nat.le_refl _), css_ins, List.take_length, List.drop_length, css_nil, List.append_nil]
      exact hr2
  · have hlt : i < rows.length := by omega
    have hb : ((i : Int) == (rows.length : Int)) = false := by simp; omega
    obtain ⟨b, off, cap, hv0, hnc, hm, hbl, ho, hf, hcell⟩ := hr.at (by omega)
    simp only [Value.slice.injEq] at hv0
    obtain ⟨rfl, -, rfl⟩ := hv0
    have hvb : vb ≠ b := by
      rintro rfl
      exact hvp (ho 0)
    have ci : ¬ c = i := by omega
    have hwr1 : IntKind.i64.wrap ((i : Int) + 1) = (i : Int) + 1 := by rw [IntKind.wrap_i64]; omega
    have ht1 : ((i : Int) + 1).toNat = i + 1 := by omega
    have hk0 : (0 : Int) ≤ (i : Int) + 1 := by omega
    have hti : rows.take i ++ rows.drop i = rows := List.take_append_drop i rows
    have hlt' : (i : Int) ≤ (rows.length : Int) := by omega
    have Hti := Lib.hid hti
    clear hti
    by_cases hgr : c < rows.length + 1
    · -- it grows
      have hgr' : (c : Int) < (rows.length : Int) + 1 := by omega
      obtain ⟨m, hm'⟩ : ∃ m : Nat, (rows.length : Int) + 1 - (i : Int) = (m : Int) := ⟨rows.length + 1 - i, by omega⟩
      have hmn : m = rows.length + 1 - i := by omega
      have hic : (i : Int) ≤ (c : Int) := by omega
      obtain ⟨v2, w2, ow2, hrun, hr2, n2, f2⟩ := run_append_zeros_row (P := Try.prog) (w := w) (ow := ow0) (t := 82) (tn := 3) [1] Try.underlying82 Try.underlying3 info rfl (hr.readsTo i (by omega)) (by rw [← css_take, css_length, List.length_take]; omega) m (by omega) (by omega) (by omega) (by unfold maxLen; omega) (by omega)
      obtain ⟨A2, c2, rfl, hc2⟩ := hr2.slice
      obtain ⟨b2, off2, cap2, hv2, -⟩ := hr2.at (by omega)
      simp only [Value.slice.injEq] at hv2
      obtain ⟨rfl, -, rfl⟩ := hv2
      have t2 := n2.turn [1]
      have hz1 : (css (rows.take i)).length = i * 2 := by rw [css_length, List.length_take, Nat.min_eq_left (by omega)]
      have hd1 : (css (rows.drop i)).length = (rows.length - i) * 2 := by rw [css_length, List.length_drop]
      have hx1 : (cs x).length = 2 := rfl
      have c2i : ¬ c2 = i := by omega
      have c2i1 : ¬ c2 = i + 1 := by omega
      have hrun2 := run_copy_row (P := Try.prog) w2 ow2 [1] 82 82 3 125 2 (i + m) c2 b2 off2 _ Try.underlying82 isz hr2 i (by omega) 1 (cs x) (xb := vb) (xo := 0) (xc := 1) (fun j u hj => by rw [Nat.zero_add]; exact (n2.below.cell (p := ⟨vb, j, none⟩) hv.lt).trans (hv.get j hj)) rfl (by omega) (cs_one x) 1 m (Nat.min_eq_left (by omega)) (c2 - i)
      have hr3 := hr2.sets (i * 2) (cs x) (by rw [hr2.1, hx1]; omega)
      have t3 := t2.trans (hr2.setsTurn (off2 + i * 2) (cs x))
      have hr4s := (hr.new_ (t3.new_ ow [1])).open_.2.2.2
      have hrun3 := run_copy_row (P := Try.prog) (w2.setCells b2 (off2 + i * 2) (cs x)).drew ow2 [1] 82 82 3 125 2 (i + m) c2 b2 off2 _ Try.underlying82 isz hr3.drew (i + 1) (by omega) (rows.length - i) (css (rows.drop i)) (xb := b) (xo := off + i * 2) (xc := c - i) (fun j u hj => by
        rw [css_drop, List.getElem?_drop] at hj
        rw [Nat.add_assoc]
        exact hr4s _ u hj) hd1 (by omega) (css_one _) (rows.length - i) (i + m - (i + 1)) (by rw [show i + m - (i + 1) = rows.length - i by omega]; exact Nat.min_self _) (c2 - (i + 1))
      have hr4 := hr3.drew.sets ((i + 1) * 2) (css (rows.drop i)) (by rw [hr3.1, hd1, ← Nat.add_mul]; exact Nat.mul_le_mul_right _ (by omega))
      have t4 := t3.drew.trans (hr3.drew.setsTurn (off2 + (i + 1) * 2) (css (rows.drop i)))
      have hfin : RowL w ow p (insR rows i x) (.returned (.slice (some ⟨b2, off2, none⟩) (i + m) c2)) ((w2.setCells b2 (off2 + i * 2) (cs x)).drew.setCells b2 (off2 + (i + 1) * 2) (css (rows.drop i))) := by
        refine ⟨_, _, rfl, ?_, (t4.new_ ow p).turn p⟩
        have hrf := hr4.ren t4 ow p
        rw [List.append_nil] at hrf
        rw [insR_length _ _ _ hi, css_ins, show rows.length + 1 = i + m by omega]
        have hc := ins_cells (css (rows.take i)) (cs x) (css (rows.drop i)) (Builtin.zeroCells (Value.agg #[.int .i64 0, .pointer none]).cells m).toList (by rw [Array.length_toList, size_zeroCells, hd1, hx1, show (Value.agg #[.int .i64 0, .pointer none]).cells.size = 2 from rfl, hmn]; rw [show rows.length + 1 - i = 1 + (rows.length - i) by omega, Nat.add_mul]) (i * 2) ((i + 1) * 2) ((i + 1) * 2 + (css (rows.drop i)).length) hz1.symm (by rw [hz1, hx1]; omega) (by rw [hz1, hx1]; omega)
        rw [← hc]
        have e1 : i * 2 + (cs x).length = (i + 1) * 2 := by rw [hx1]; omega
        rw [e1, ← css_take] at hrf
        exact hrf
      have Hrun := Lib.hid hrun
      have Hrun2 := Lib.hid hrun2
      have Hrun3 := Lib.hid hrun3
      have Hfin := Lib.hid hfin
      have hmi : i + m - i = m := by omega
      have hle2 : (i : Int) + 1 ≤ (i : Int) + (m : Int) := by omega
      clear hrun hrun2 hrun3 hfin hvp hv hcell ho hf hsrc hmn hr hr2 hr3 hr4 hr4s t2 t3 t4 n2 f2 hz1 hd1 hx1
      go_enter Try.func76, Try.ntmps76
      go_wp2_with (first | (at_builtin; refine wpList_append_zeros rfl (.tmp 34) (.tmp 39) 82 3 rfl _ _ rfl rfl Hrun.out ?_) | (refine wpList_copy_run rfl (.tmp 43) (.tmp 44) 82 82 rfl _ _ rfl rfl Hrun2.out ?_))
      refine plain_regionN (fun _ => True) [] (by kernel_rfl) ?_
      have hS : (fun _ : World => True) (w2.setCells b2 (off2 + i * 2) (cs x)).drew := trivial
      refine anyX_takeN 0 (v := ?_) rfl rfl (by kernel_rfl) (by kernel_rfl) (by kernel_rfl) (by kernel_rfl) (by kernel_rfl) (fun _ _ _ h => h) rfl ?_ hS ?_
      rotate_left
      · intro W' hW'
        obtain hW' := hW'
        all_goals (go_simp; first | done | rfl)
      intro tm' htm
      simp only [List.setIfInBounds_toArray, List.set_cons_succ, List.set_cons_zero] at htm
      subst htm
      refine anyX_takeN 1 (v := ?_) rfl rfl (by kernel_rfl) (by kernel_rfl) (by kernel_rfl) (by kernel_rfl) (by kernel_rfl) (fun _ _ _ h => h) rfl ?_ hS ?_
      rotate_left
      · intro W' hW'
        obtain hW' := hW'
        all_goals (go_simp; first | done | rfl)
      intro tm' htm
      simp only [List.setIfInBounds_toArray, List.set_cons_succ, List.set_cons_zero] at htm
      subst htm
      refine anyX_takeN 2 (v := ?_) rfl rfl (by kernel_rfl) (by kernel_rfl) (by kernel_rfl) (by kernel_rfl) (by kernel_rfl) (fun _ _ _ h => h) rfl ?_ hS ?_
      rotate_left
      · intro W' hW'
        obtain hW' := hW'
        all_goals (go_simp; first | done | rfl)
      intro tm' htm
      simp only [List.setIfInBounds_toArray, List.set_cons_succ, List.set_cons_zero] at htm
      subst htm
      refine anyX_takeN 3 (v := ?_) rfl rfl (by kernel_rfl) (by kernel_rfl) (by kernel_rfl) (by kernel_rfl) (by kernel_rfl) (fun _ _ _ h => h) rfl ?_ hS ?_
      rotate_left
      · intro W' hW'
        obtain hW' := hW'
        all_goals (go_simp; first | done | rfl)
      intro tm' htm
      simp only [List.setIfInBounds_toArray, List.set_cons_succ, List.set_cons_zero] at htm
      subst htm
      refine anyX_takeN 4 (v := ?_) rfl rfl (by kernel_rfl) (by kernel_rfl) (by kernel_rfl) (by kernel_rfl) (by kernel_rfl) (fun _ _ _ h => h) rfl ?_ hS ?_
      rotate_left
      · intro W' hW'
        obtain hW' := hW'
        all_goals (go_simp; first | done | rfl)
      intro tm' htm
      simp only [List.setIfInBounds_toArray, List.set_cons_succ, List.set_cons_zero] at htm
      subst htm
      refine anyX_takeN 5 (v := ?_) rfl rfl (by kernel_rfl) (by kernel_rfl) (by kernel_rfl) (by kernel_rfl) (by kernel_rfl) (fun _ _ _ h => h) rfl ?_ hS ?_
      rotate_left
      · intro W' hW'
        obtain hW' := hW'
        all_goals (go_simp; first | done | rfl)
      intro tm' htm
      simp only [List.setIfInBounds_toArray, List.set_cons_succ, List.set_cons_zero] at htm
      subst htm
      refine anyX_takeN 6 (v := ?_) rfl rfl (by kernel_rfl) (by kernel_rfl) (by kernel_rfl) (by kernel_rfl) (by kernel_rfl) (fun _ _ _ h => h) rfl ?_ hS ?_
      rotate_left
      · intro W' hW'
        obtain hW' := hW'
        all_goals (go_simp; first | done | rfl)
      intro tm' htm
      simp only [List.setIfInBounds_toArray, List.set_cons_succ, List.set_cons_zero] at htm
      subst htm
      refine anyX_takeN 7 (v := ?_) rfl rfl (by kernel_rfl) (by kernel_rfl) (by kernel_rfl) (by kernel_rfl) (by kernel_rfl) (fun _ _ _ h => h) rfl ?_ hS ?_
      rotate_left
      · intro W' hW'
        obtain hW' := hW'
        all_goals (go_simp; first | done | rfl)
      intro tm' htm
      simp only [List.setIfInBounds_toArray, List.set_cons_succ, List.set_cons_zero] at htm
      subst htm
      refine anyX_one (i := 8) (by kernel_rfl) rfl rfl fun K' hK' => ?_
      refine wp_copy_run (.tmp 50) (.tmp 53) 82 82 rfl _ _ rfl rfl Hrun3.out ?_
      change K' (Act.put _ (some 54) _) _
      refine hK' _ _ (fun _ => trivial) (anyX_done (by kernel_rfl) ?_ _)
      refine NoPanic.normal ?_
      clear hK' K' hS
      simp only [Act.put, List.setIfInBounds_toArray, List.set_cons_succ, List.set_cons_zero]
      go_wp2
      go_ret
      exact Hfin.out
    · -- there is room
      have hgr' : ¬ (c : Int) < (rows.length : Int) + 1 := by omega
      obtain ⟨fs, hrF, hfs, -, -⟩ := hr.full
      have hrG := hrF.cut (rows.length + 1) (by omega)
      obtain ⟨gs, hgs⟩ : ∃ gs, fs.take ((rows.length + 1) * 2) = gs := ⟨_, rfl⟩
      rw [hgs] at hrG
      have hgt : gs.take (rows.length * 2) = css rows := by rw [← hgs, List.take_take, Nat.min_eq_left (by omega), hfs]
      have hz1 : (css (rows.take i)).length = i * 2 := by rw [css_length, List.length_take, Nat.min_eq_left (by omega)]
      have hd1 : (css (rows.drop i)).length = (rows.length - i) * 2 := by rw [css_length, List.length_drop]
      have hx1 : (cs x).length = 2 := rfl
      have hgl := hrG.1
      have ci1 : ¬ c = i + 1 := by omega
      have hic1 : (i : Int) + 1 ≤ (rows.length : Int) + 1 := by omega
      have hnc' : (rows.length : Int) + 1 ≤ (c : Int) := by omega
      have hi1 : (i : Int) ≤ (rows.length : Int) + 1 := by omega
      have hov : ∀ lb cb, (callFunc 88 #[.slice (some ⟨vb, 0, none⟩) 1 1, .slice (some ⟨b, off + (i + 1) * 2, none⟩) lb cb]).run Try.prog w = .ok (.value (.bool false)) w := fun lb cb => by
        obtain ⟨ev, hev⟩ := hv
        obtain ⟨ce, hce, -⟩ : ∃ ce : Array Value, w.heap[b]? = some (.cells ce 125 (0, 0)) ∧ True := by
          rcases hr.2 with ⟨hv, _⟩ | ⟨g1, off1, cap1, c1, hv, hg1, -⟩
          · simp at hv
          · simp only [Value.slice.injEq, Option.some.injEq, Addr.mk.injEq, and_true, true_and] at hv
            obtain ⟨⟨rfl, rfl⟩, rfl⟩ := hv
            exact ⟨c1, hg1, trivial⟩
        have hcs0 : ce.size ≠ 0 := by
          have := hcell 0 _ (List.getElem?_eq_getElem (show 0 < (css rows).length by rw [css_length]; omega))
          simp only [World.cell?, hce] at this
          have := (Array.getElem?_eq_some_iff.1 this).1
          omega
        rw [run_callFunc_extern Try.func88 (by kernel_rfl) (by kernel_rfl) (by kernel_rfl) (e := Extern.SlicesOverlaps.overlaps #[82, 82] #[4]) (by kernel_rfl),
          Lib.run_overlaps_apart w 82 4 125 Try.underlying82 2 (by intro w; kernel_rfl) ⟨vb, 0, none⟩ ⟨b, off + (i + 1) * 2, none⟩ 1 1 lb cb hvb ev 125 (cs x).toArray.size ce.size (by simp [World.shape?, hev]) (by simp [World.shape?, hce]) hcs0 (by simp [World.frozen?, hev]) (by simp [World.frozen?, hev])]
        rfl
      have hrun2 := run_copy_row (P := Try.prog) w.drew ow p 82 82 3 125 2 (rows.length + 1) c b off _ Try.underlying82 isz hrG.drew (i + 1) (by omega) (rows.length - i) (css (rows.drop i)) (xb := b) (xo := off + i * 2) (xc := c - i) (fun j u hj => by
        rw [css_drop, List.getElem?_drop] at hj
        rw [Nat.add_assoc]
        exact hcell _ u hj) hd1 (by omega) (css_one _) (rows.length + 1 - i) (rows.length - i) (Nat.min_eq_right (by omega)) (c - (i + 1))
      have hrH := hrG.drew.sets ((i + 1) * 2) (css (rows.drop i)) (by rw [hgl, hd1, ← Nat.add_mul]; exact Nat.mul_le_mul_right _ (by omega))
      have tH := (Turn.refl p w ow).drew.trans (hrG.drew.setsTurn (off + (i + 1) * 2) (css (rows.drop i)))
      have hrun3 := run_copy_row (P := Try.prog) (w.drew.setCells b (off + (i + 1) * 2) (css (rows.drop i))) ow p 82 82 3 125 2 (rows.length + 1) c b off _ Try.underlying82 isz hrH i (by omega) 1 (cs x) (xb := vb) (xo := 0) (xc := 1) (fun j u hj => by
        rw [Nat.zero_add]
        obtain ⟨ev, hev⟩ := hv
        have := setCells_far b (css (rows.drop i)) (off + (i + 1) * 2) w.drew vb hvb
        simp only [World.cell?, this]
        have h2 : w.drew.heap[vb]? = w.heap[vb]? := rfl
        rw [h2, hev]
        simpa using hj) rfl (by omega) (cs_one x) 1 (rows.length + 1 - i) (Nat.min_eq_left (by omega)) (c - i)
      have hrI := hrH.sets (i * 2) (cs x) (by rw [hrH.1, hx1]; omega)
      have tI := tH.trans (hrH.setsTurn (off + i * 2) (cs x))
      have hfin : RowL w ow p (insR rows i x) (.returned (.slice (some ⟨b, off, none⟩) (rows.length + 1) c)) ((w.drew.setCells b (off + (i + 1) * 2) (css (rows.drop i))).setCells b (off + i * 2) (cs x)) := by
        refine ⟨_, ow, rfl, ?_, tI⟩
        rw [insR_length _ _ _ hi, css_ins]
        have hga : gs.take (css (rows.take i)).length = css (rows.take i) := by
          rw [hz1, css_take, ← hgt, List.take_take, Nat.min_eq_left (by omega)]
        have hc := ins_cells2 (css (rows.take i)) (cs x) (css (rows.drop i)) gs (by rw [hgl, hz1, hx1, hd1]; omega) hga (i * 2) ((i + 1) * 2) ((i + 1) * 2 + (css (rows.drop i)).length) hz1.symm (by rw [hz1, hx1]; omega) (by rw [hz1, hx1]; omega)
        rw [← hc]
        have e1 : i * 2 + (cs x).length = (i + 1) * 2 := by rw [hx1]; omega
        rw [e1] at hrI
        exact hrI
      have Hrun2 := Lib.hid hrun2
      have Hrun3 := Lib.hid hrun3
      have Hfin := Lib.hid hfin
      clear hrun2 hrun3 hfin hvp hv hcell ho hf hsrc hr hrF hfs hrG hgt hrH hrI tH tI hz1 hd1 hx1 hgl hgs
      go_enter Try.func76, Try.ntmps76
      go_wp2_with fail
      refine plain_regionN (fun _ => True) [] (by kernel_rfl) ?_
      have hS : (fun _ : World => True) w.drew := trivial
      refine anyX_takeN 0 (v := ?_) rfl rfl (by kernel_rfl) (by kernel_rfl) (by kernel_rfl) (by kernel_rfl) (by kernel_rfl) (fun _ _ _ h => h) rfl ?_ hS ?_
      rotate_left
      · intro W' hW'
        obtain hW' := hW'
        all_goals (go_simp; first | done | rfl)
      intro tm' htm
      simp only [List.setIfInBounds_toArray, List.set_cons_succ, List.set_cons_zero] at htm
      subst htm
      refine anyX_takeN 1 (v := ?_) rfl rfl (by kernel_rfl) (by kernel_rfl) (by kernel_rfl) (by kernel_rfl) (by kernel_rfl) (fun _ _ _ h => h) rfl ?_ hS ?_
      rotate_left
      · intro W' hW'
        obtain hW' := hW'
        all_goals (go_simp; first | done | rfl)
      intro tm' htm
      simp only [List.setIfInBounds_toArray, List.set_cons_succ, List.set_cons_zero] at htm
      subst htm
      refine anyX_takeN 2 (v := ?_) rfl rfl (by kernel_rfl) (by kernel_rfl) (by kernel_rfl) (by kernel_rfl) (by kernel_rfl) (fun _ _ _ h => h) rfl ?_ hS ?_
      rotate_left
      · intro W' hW'
        obtain hW' := hW'
        all_goals (go_simp; first | done | rfl)
      intro tm' htm
      simp only [List.setIfInBounds_toArray, List.set_cons_succ, List.set_cons_zero] at htm
      subst htm
      refine anyX_takeN 3 (v := ?_) rfl rfl (by kernel_rfl) (by kernel_rfl) (by kernel_rfl) (by kernel_rfl) (by kernel_rfl) (fun _ _ _ h => h) rfl ?_ hS ?_
      rotate_left
      · intro W' hW'
        obtain hW' := hW'
        all_goals (go_simp; first | done | rfl)
      intro tm' htm
      simp only [List.setIfInBounds_toArray, List.set_cons_succ, List.set_cons_zero] at htm
      subst htm
      refine anyX_takeN 4 (v := ?_) rfl rfl (by kernel_rfl) (by kernel_rfl) (by kernel_rfl) (by kernel_rfl) (by kernel_rfl) (fun _ _ _ h => h) rfl ?_ hS ?_
      rotate_left
      · intro W' hW'
        obtain hW' := hW'
        all_goals (go_simp; first | done | rfl)
      intro tm' htm
      simp only [List.setIfInBounds_toArray, List.set_cons_succ, List.set_cons_zero] at htm
      subst htm
      refine anyX_takeN 5 (v := ?_) rfl rfl (by kernel_rfl) (by kernel_rfl) (by kernel_rfl) (by kernel_rfl) (by kernel_rfl) (fun _ _ _ h => h) rfl ?_ hS ?_
      rotate_left
      · intro W' hW'
        obtain hW' := hW'
        all_goals (go_simp; first | done | rfl)
      intro tm' htm
      simp only [List.setIfInBounds_toArray, List.set_cons_succ, List.set_cons_zero] at htm
      subst htm
      refine anyX_takeN 6 (v := ?_) rfl rfl (by kernel_rfl) (by kernel_rfl) (by kernel_rfl) (by kernel_rfl) (by kernel_rfl) (fun _ _ _ h => h) rfl ?_ hS ?_
      rotate_left
      · intro W' hW'
        obtain hW' := hW'
        all_goals (go_simp; first | done | rfl)
      intro tm' htm
      simp only [List.setIfInBounds_toArray, List.set_cons_succ, List.set_cons_zero] at htm
      subst htm
      refine anyX_takeN 7 (v := ?_) rfl rfl (by kernel_rfl) (by kernel_rfl) (by kernel_rfl) (by kernel_rfl) (by kernel_rfl) (fun _ _ _ h => h) rfl ?_ hS ?_
      rotate_left
      · intro W' hW'
        obtain hW' := hW'
        all_goals (go_simp; first | done | rfl)
      intro tm' htm
      simp only [List.setIfInBounds_toArray, List.set_cons_succ, List.set_cons_zero] at htm
      subst htm
      refine anyX_one (i := 8) (by kernel_rfl) rfl rfl fun K' hK' => ?_
      refine wp_copy_run (.tmp 73) (.tmp 76) 82 82 rfl _ _ rfl rfl Hrun2.out ?_
      change K' (Act.put _ (some 77) _) _
      refine hK' _ _ (fun _ => trivial) (anyX_done (by kernel_rfl) ?_ _)
      refine NoPanic.normal ?_
      clear hK' K' hS
      simp only [Act.put, List.setIfInBounds_toArray, List.set_cons_succ, List.set_cons_zero]
      go_wp2_with (refine wpList_copy_run rfl (.tmp 80) (.tmp 81) 82 82 rfl _ _ rfl rfl Hrun3.out ?_)
      go_ret
      exact Hfin.out

set_option maxRecDepth 100000 in
set_option maxHeartbeats 4000000 in
theorem del (w : World) (ow : Ow) (p : List Nat) (A : Option Addr) (c n : Nat) (rows : List R) (i : Nat) (hln : rows.length = n + 1) (hr : Row w ow p 125 2 (.slice A (n + 1) c) (n + 1) (css rows)) (hi : i ≤ n) (hn : n ≤ 1099511627776) :
    Calls Try.prog 90 #[.slice A (n + 1) c, .int .i64 (i : Int), .int .i64 ((i : Int) + 1)] w (RowL w ow p (rows.eraseIdx i)) := by
  obtain ⟨b, off, cap, hv0, hnc, hm, hbl, ho, hf, hcell⟩ := hr.at (by omega)
  simp only [Value.slice.injEq] at hv0
  obtain ⟨rfl, -, rfl⟩ := hv0
  obtain ⟨A', hA, hrd⟩ := hr.readsFrom_ (i + 1) (by omega)
  rw [← css_drop, Nat.add_sub_add_right] at hrd
  have hb : ((i : Int) == (i : Int) + 1) = false := by simp; omega
  have b1 : (i : Int) ≤ (i : Int) + 1 := by omega
  have b2 : (i : Int) + 1 ≤ (n : Int) + 1 := by omega
  have b3 : (n : Int) + 1 ≤ (c : Int) := by omega
  have b4 : (0 : Int) ≤ (i : Int) + 1 := by omega
  have b5 : (i : Int) ≤ (n : Int) := by omega
  have b6 : (i : Int) ≤ (c : Int) := by omega
  have ht1 : ((i : Int) + 1).toNat = i + 1 := by omega
  have cn : ¬ c = n := by omega
  have hin : i + (n - i) = n := by omega
  have hdl : (css (rows.drop (i + 1))).length = (n - i) * 2 := by rw [css_length, List.length_drop, hln, Nat.add_sub_add_right]
  have hrun1 : ∀ ty, (Builtin.append_ #[82, 82] ty #[.slice (some ⟨b, off, none⟩) i c, .slice A' (n - i) (c - (i + 1))]).run Try.prog w.drew = .ok (.slice (some ⟨b, off, none⟩) n c) (w.drew.setCells b (off + i * 2) (css (rows.drop (i + 1)))) := fun ty => by
    obtain ⟨it, hit, hz0, hsz, hby⟩ := info_parts info
    have := run_append_room_src (P := Try.prog) w.drew 82 82 ty 125 it Try.underlying82 hit b off i c (.slice A' (n - i) (c - (i + 1))) (n - i) (css (rows.drop (i + 1))) (by rw [hsz]; exact hrd.drew.src Try.underlying82 hdl (css_one _)) (by omega) (fun j hj => by
      rw [hsz, Nat.add_assoc]
      have hlt : i * 2 + j < (css rows).length := by rw [css_length, hln]; omega
      show (w.cell? _).isSome = true
      rw [hcell _ _ (List.getElem?_eq_getElem hlt)]; rfl) (fun j _ => hf _)
    rw [hsz, hin] at this
    exact this
  have hr1 := hr.drew.sets (i * 2) (css (rows.drop (i + 1))) (by rw [hr.1, hdl]; omega)
  have t1 := (Turn.refl p w ow).drew.trans (hr.drew.setsTurn (off + i * 2) (css (rows.drop (i + 1))))
  have hrun2 := run_clear_row (P := Try.prog) Try.underlying82 info rfl onez hr1 n 1 (by omega) (by omega) (c - n)
  have hr2 := hr1.sets (n * 2) (Builtin.zeroCells (Value.agg #[.int .i64 0, .pointer none]).cells 1).toList (by rw [hr1.1, Array.length_toList, size_zeroCells, show (Value.agg #[.int .i64 0, .pointer none]).cells.size = 2 from rfl]; omega)
  have t2 := t1.trans (hr1.setsTurn (off + n * 2) (Builtin.zeroCells (Value.agg #[.int .i64 0, .pointer none]).cells 1).toList)
  have hr3 := hr2.cut n (by omega)
  have hfin : RowL w ow p (rows.eraseIdx i) (.returned (.slice (some ⟨b, off, none⟩) n c)) ((w.drew.setCells b (off + i * 2) (css (rows.drop (i + 1)))).setCells b (off + n * 2) (Builtin.zeroCells (Value.agg #[.int .i64 0, .pointer none]).cells 1).toList) := by
    have hel : (rows.eraseIdx i).length = n := by rw [List.length_eraseIdx, if_pos (by omega)]; omega
    refine ⟨_, ow, rfl, ?_, t2⟩
    rw [hel, List.eraseIdx_eq_take_drop_succ, css_append]
    have hz1 : (css (rows.take i)).length = i * 2 := by rw [css_length, List.length_take, Nat.min_eq_left (by omega)]
    have e1 : (css rows).take (i * 2) = css (rows.take i) := by rw [css_take]
    rw [e1] at hr3
    rw [List.take_append_of_le_length (by rw [List.length_append, List.length_take, List.length_append, List.length_append, hz1, hdl]; omega), List.take_append_of_le_length (by rw [List.length_take, List.length_append, List.length_append, hz1, hdl]; omega), List.take_take, Nat.min_self, List.take_append_of_le_length (by rw [List.length_append, hz1, hdl]; omega), List.take_of_length_le (by rw [List.length_append, hz1, hdl]; omega)] at hr3
    exact hr3
  have Hrun1 := Lib.hid hrun1
  have Hrun2 := Lib.hid hrun2
  have Hfin := Lib.hid hfin
  clear hrun1 hrun2 hfin hr hr1 hr2 hr3 t1 t2 hcell ho hf hrd hdl hln
  go_enter Try.func90, Try.ntmps90
  go_wp2_with fail
  refine plain_regionN (fun _ => True) [] (by kernel_rfl) ?_
  have hS : (fun _ : World => True) w.drew := trivial
  refine anyX_takeN 0 (v := ?_) rfl rfl (by kernel_rfl) (by kernel_rfl) (by kernel_rfl) (by kernel_rfl) (by kernel_rfl) (fun _ _ _ h => h) rfl ?_ hS ?_
  rotate_left
  · intro W' hW'
    obtain hW' := hW'
    all_goals (go_simp; first | done | rfl)
  intro tm' htm
  simp only [List.setIfInBounds_toArray, List.set_cons_succ, List.set_cons_zero] at htm
  subst htm
  refine anyX_takeN 1 (v := ?_) rfl rfl (by kernel_rfl) (by kernel_rfl) (by kernel_rfl) (by kernel_rfl) (by kernel_rfl) (fun _ _ _ h => h) rfl ?_ hS ?_
  rotate_left
  · intro W' hW'
    obtain hW' := hW'
    all_goals (go_simp; first | done | rfl)
  intro tm' htm
  simp only [List.setIfInBounds_toArray, List.set_cons_succ, List.set_cons_zero] at htm
  subst htm
  refine anyX_takeN 2 (v := ?_) rfl rfl (by kernel_rfl) (by kernel_rfl) (by kernel_rfl) (by kernel_rfl) (by kernel_rfl) (fun _ _ _ h => h) rfl ?_ hS ?_
  rotate_left
  · intro W' hW'
    obtain hW' := hW'
    all_goals (go_simp; first | done | rfl)
  intro tm' htm
  simp only [List.setIfInBounds_toArray, List.set_cons_succ, List.set_cons_zero] at htm
  subst htm
  refine anyX_takeN 3 (v := ?_) rfl rfl (by kernel_rfl) (by kernel_rfl) (by kernel_rfl) (by kernel_rfl) (by kernel_rfl) (fun _ _ _ h => h) rfl ?_ hS ?_
  rotate_left
  · intro W' hW'
    obtain hW' := hW'
    all_goals (go_simp; first | done | rfl)
  intro tm' htm
  simp only [List.setIfInBounds_toArray, List.set_cons_succ, List.set_cons_zero] at htm
  subst htm
  refine anyX_takeN 4 (v := ?_) rfl rfl (by kernel_rfl) (by kernel_rfl) (by kernel_rfl) (by kernel_rfl) (by kernel_rfl) (fun _ _ _ h => h) rfl ?_ hS ?_
  rotate_left
  · intro W' hW'
    obtain hW' := hW'
    all_goals (go_simp; first | done | rfl)
  intro tm' htm
  simp only [List.setIfInBounds_toArray, List.set_cons_succ, List.set_cons_zero] at htm
  subst htm
  refine anyX_takeN 5 (v := ?_) rfl rfl (by kernel_rfl) (by kernel_rfl) (by kernel_rfl) (by kernel_rfl) (by kernel_rfl) (fun _ _ _ h => h) rfl ?_ hS ?_
  rotate_left
  · intro W' hW'
    obtain hW' := hW'
    all_goals (go_simp; first | done | rfl)
  intro tm' htm
  simp only [List.setIfInBounds_toArray, List.set_cons_succ, List.set_cons_zero] at htm
  subst htm
  refine anyX_one (i := 6) (by kernel_rfl) rfl rfl fun K' hK' => ?_
  refine wp_append_eq (.tmp 22) (.tmp 25) 82 82 rfl _ _ rfl rfl Hrun1.out ?_
  change K' (Act.put _ (some 26) _) _
  refine hK' _ _ (fun _ => trivial) ?_
  clear hK' K'
  simp only [Act.put, List.setIfInBounds_toArray, List.set_cons_succ, List.set_cons_zero]
  refine anyX_one (i := 7) (by kernel_rfl) rfl rfl fun K' hK' => ?_
  unfold Oper.wp
  go_simp
  refine hK' _ _ (fun _ => trivial) ?_
  clear hK' K'
  refine anyX_done (by kernel_rfl) ?_ _
  refine NoPanic.normal ?_
  clear hS
  go_wp2_with (refine wpList_clear_run rfl (.tmp 31) 82 rfl _ rfl Hrun2.out ?_)
  go_ret
  exact Hfin.out

end TIH
end Go.Proofs.Ytefagdbdimpcdaa
