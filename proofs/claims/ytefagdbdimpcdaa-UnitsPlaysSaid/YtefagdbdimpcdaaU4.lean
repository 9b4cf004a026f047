/-
  UNITS.TABLE: pop: the innermost lock goes.
-/
import Derived.Test.YtefagdbdimpcdaaU3
import Derived.Deep.CutRange
import Derived.Deep.DeepCutAuto
set_option linter.unusedVariables false
set_option linter.unusedSimpArgs false
namespace Go.Proofs.Ytefagdbdimpcdaa
open Go Go.RowKit
namespace UN

theorem locks_mem {U C : List Int} {T : List Tk} (hi : Inv U C T) {job : Int} {l : Lk} (h : l ∈ locksOf T job) : 0 ≤ l.res ∧ l.res < U.length ∧ 1 ≤ l.n := by
  unfold locksOf at h
  obtain ⟨t, ht, rfl⟩ := List.mem_map.1 h
  have := hi.tb t (List.mem_filter.1 ht).1
  exact ⟨this.2.1, this.2.2.1, this.2.2.2⟩

/-- What pop leaves. -/
def PopP (w : World) (ow : Ow) (p : List Nat) (g : Nat) (U C : List Int) (T : List Tk) (job : Int) (n : Int) (more : Prop) (G : Nat) (e : Ending) (w' : World) : Prop :=
  ∃ ow' rows', e = .returned (.int .i64 n) ∧ UTr w' ow' p g U C (popT job T) rows' ∧ Turn p w ow w' ow' ∧ (more → (job, G) ∈ rows')

set_option maxRecDepth 100000 in
set_option maxHeartbeats 4000000 in
theorem pop (w : World) (ow : Ow) (p : List Nat) (g : Nat) (U C : List Int) (T : List Tk) (rows : List (Int × Nat)) (h : UTr w ow p g U C T rows) (job : Int) (ls : List Lk) (l : Lk) (hl : locksOf T job = ls ++ [l]) (G : Nat) (hG : (job, G) ∈ rows) :
    Calls Try.prog 55 #[.pointer (some ⟨g, 0, none⟩), .int .i64 job, .pointer (some ⟨G, 0, none⟩)] w (PopP w ow p g U C T job l.n (ls ≠ []) G) := by
  have hlen := h.len
  obtain ⟨hi, ⟨vu, vf, vc, hc, h2, h3, h4⟩, h5, h6, h7, h8, h9⟩ := h
  have hO : Oth w ow p G T rows := fun r hr _ => h9 r hr
  obtain ⟨hSt, hH⟩ := h9 _ hG
  simp only at hSt hH
  have hm := locks_mem hi (l := l) (job := job) (by rw [hl]; simp)
  have hll : ls.length ≤ 1099511627776 := by
    have h1 := locks_len T job
    have h2 := hi.len
    rw [hl, List.length_append] at h1
    omega
  have hused := pop_used job T ls l hl
  have hi' := hi.pop hl
  have hpl : locksOf (popT job T) job = ls := by rw [pop_locks, hl, List.dropLast_concat]
  have hpo := fun j hj => pop_other job j hj T
  have hheld := hi.held job
  unfold heldT at hheld
  rw [hl] at hSt hH hheld
  obtain ⟨lr, ln⟩ := l
  simp only at hm hused
  obtain ⟨hm0, hm1, hm2⟩ := hm
  obtain ⟨r, rfl⟩ : ∃ r : Nat, lr = r := ⟨lr.toNat, by omega⟩
  have hul := hi.ul
  have hr : r < U.length := by omega
  have hr16 : r < 16 := by omega
  have hb1 := hheld r
  have hb2 := (hi.used r).2
  have hb3 := hi'.free r
  have hb4 := hi.free r
  have hfv : freeT U (popT job T) r = freeT U T r + ln := by
    unfold freeT
    rw [hused r, if_pos rfl]
    omega
  have hfo : ∀ i : Nat, i ≠ r → freeT U (popT job T) i = freeT U T i := fun i hir => by
    unfold freeT
    rw [hused i, if_neg (by omega)]
    omega
  have hset := h16_set (heldL (ls ++ [⟨r, ln⟩])) (heldL ls) r hr16 (heldL (ls ++ [⟨r, ln⟩]) r - ln) (by rw [heldL_snoc]; simp) (fun x hx => by rw [heldL_snoc]; simp only; rw [if_neg (Ne.symm hx)]; omega)
  have hfs := fr_set U T (popT job T) r (freeT U T r + ln) hr hfv hfo
  have hFl := fr_length U T
  have hFa := fr_at U T r hr
  rw [hfv] at hb3
  have Hset := Lib.hid hset
  have Hfs := Lib.hid hfs
  have Hpl := Lib.hid hpl
  have Hpo := Lib.hid hpo
  have H8 := Lib.hid h8
  have H9 := Lib.hid h9
  have Hl := Lib.hid hl
  have Hi := Lib.hid hi
  have Hi' := Lib.hid hi'
  have h16a := h16_at (heldL (ls ++ [⟨r, ln⟩])) r hr16
  have H16 := Lib.hid h16a
  have HFa := Lib.hid hFa
  have HFl := Lib.hid hFl
  have H7 := Lib.hid h7
  have HG := Lib.hid hG
  clear hset hfs hpl hpo h8 h9 hl hi hi' h16a hFa hFl hused hheld hfv hfo h7 hG
  generalize hhv : heldL (ls ++ [⟨r, ln⟩]) r = hv at *
  generalize hfr : freeT U T r = fv at *
  go_enter Try.func55, Try.ntmps55
  go_wp2_with fail
  refine (ELk.s_pop_some w ow (p ++ [5, G]) G 0 ls ⟨r, ln⟩ hSt hll).mono ?_
  rintro e w1 ⟨ow1, rfl, hSt1, tt⟩
  replace hc := hc.keep tt (by simp)
  replace h2 := h2.keep tt (by simp)
  replace h3 := h3.keep tt (by simp)
  replace h4 := h4.keep tt (by simp)
  replace h5 := h5.keep tt (by simp) (by simp)
  replace hO := hO.keep tt (fun k H s hk hne => by rcases hk with rfl | rfl <;> simp [Ne.symm hne])
  have t := tt.up (p := p) (by simp)
  have hH1 : Cells w1 ow1 (p ++ [6, G]) G 1 (h16 (heldL (ls ++ [⟨r, ln⟩]))) := hH.keep tt (by simp)
  clear hSt hH tt
  go_upto_region 2 with fail
  obtain ⟨ow2, hB, nn, -⟩ := SH.add_cells w1 ow1 (p ++ [9]) [.int .i64 (r : Int), .int .i64 ln] 51
  generalize w1.alloc (.cells #[.int .i64 (r : Int), .int .i64 ln] 51) = w2 at *
  have lB : w.heap.size ≤ w1.heap.size := t.size
  generalize w1.heap.size = B at *
  replace hc := hc.new_ nn
  replace h2 := h2.new_ nn
  replace h3 := h3.new_ nn
  replace h4 := h4.new_ nn
  replace h5 := h5.new_ nn
  replace hO := hO.new_ nn
  replace hSt1 := hSt1.new_ nn
  replace hH1 := hH1.new_ nn
  replace t := t.trans (nn.turn p)
  clear nn
  have i16 : (r : Int) < 16 := by omega
  have iU : (r : Int) < (U.length : Int) := by omega
  have n1 : New w2 ow2 w2.drew ow2 := (New.refl _ _).drew
  replace hc := hc.new_ n1
  replace h2 := h2.new_ n1
  replace h3 := h3.new_ n1
  replace h4 := h4.new_ n1
  replace h5 := h5.new_ n1
  replace hO := hO.new_ n1
  replace hSt1 := hSt1.new_ n1
  replace hH1 := hH1.new_ n1
  replace hB := hB.new_ n1
  replace t := t.trans (n1.turn p)
  clear n1
  have b0 := hB.get 0 rfl
  have b1 := hB.get 1 rfl
  have e0 := hH1.get r H16.out
  simp only [Nat.zero_add] at b0 b1
  have lG := hH1.lt
  have fG := hH1.free (1 + r)
  have hwr : IntKind.i64.wrap (hv - ln) = hv - ln := by rw [IntKind.wrap_i64]; omega
  have hwr2 : IntKind.i64.wrap (fv + ln) = fv + ln := by rw [IntKind.wrap_i64]; omega
  refine plain_regionN (fun _ => True) [] (by kernel_rfl) ?_
  have hS : (fun _ : World => True) w2.drew := trivial
  refine anyX_takeNL 0 (v := ?_) rfl rfl (by as_aux_lemma => kernel_rfl) (by as_aux_lemma => kernel_rfl) (by as_aux_lemma => kernel_rfl) (by as_aux_lemma => kernel_rfl) (by as_aux_lemma => kernel_rfl) (fun _ _ _ h => h) rfl ?_ hS ?_
  rotate_left
  · intro W' hW'
    obtain - := hW'
    all_goals (go_simp; first | done | rfl)
  intro l' hl
  dsimp only [List.set_cons_succ, List.set_cons_zero] at hl
  subst hl
  refine anyX_takeNL 10 (v := ?_) rfl rfl (by as_aux_lemma => kernel_rfl) (by as_aux_lemma => kernel_rfl) (by as_aux_lemma => kernel_rfl) (by as_aux_lemma => kernel_rfl) (by as_aux_lemma => kernel_rfl) (fun _ _ _ h => h) rfl ?_ hS ?_
  rotate_left
  · intro W' hW'
    obtain - := hW'
    all_goals (go_simp; first | done | rfl)
  intro l' hl
  dsimp only [List.set_cons_succ, List.set_cons_zero] at hl
  subst hl
  refine anyX_takeNL 11 (v := ?_) rfl rfl (by as_aux_lemma => kernel_rfl) (by as_aux_lemma => kernel_rfl) (by as_aux_lemma => kernel_rfl) (by as_aux_lemma => kernel_rfl) (by as_aux_lemma => kernel_rfl) (fun _ _ _ h => h) rfl ?_ hS ?_
  rotate_left
  · intro W' hW'
    obtain - := hW'
    all_goals (go_simp; first | done | rfl)
  intro l' hl
  dsimp only [List.set_cons_succ, List.set_cons_zero] at hl
  subst hl
  clear hS
  refine anyX_weaken (fun W' : World => W'.cell? ⟨B, 0, none⟩ = some (.int .i64 (r : Int)) ∧ W'.cell? ⟨B, 1, none⟩ = some (.int .i64 ln) ∧ W'.cell? ⟨G, 1 + r, none⟩ = some (.int .i64 hv)) [13] _ _ _ _ ?_
  have hS : (fun W' : World => W'.cell? ⟨B, 0, none⟩ = some (.int .i64 (r : Int)) ∧ W'.cell? ⟨B, 1, none⟩ = some (.int .i64 ln) ∧ W'.cell? ⟨G, 1 + r, none⟩ = some (.int .i64 hv)) w2.drew := ⟨b0, b1, e0⟩
  generalize w2.drew = w3 at *
  refine anyX_takeNL 1 (v := ?_) rfl rfl (by as_aux_lemma => kernel_rfl) (by as_aux_lemma => kernel_rfl) (by as_aux_lemma => kernel_rfl) (by as_aux_lemma => kernel_rfl) (by as_aux_lemma => kernel_rfl) (fun _ _ _ h => h) rfl ?_ hS ?_
  rotate_left
  · intro W' hW'
    obtain ⟨s0, s1, s2⟩ := hW'
    all_goals (go_simp; first | done | rfl)
  intro l' hl
  dsimp only [List.set_cons_succ, List.set_cons_zero] at hl
  subst hl
  refine anyX_takeNL 2 (v := ?_) rfl rfl (by as_aux_lemma => kernel_rfl) (by as_aux_lemma => kernel_rfl) (by as_aux_lemma => kernel_rfl) (by as_aux_lemma => kernel_rfl) (by as_aux_lemma => kernel_rfl) (fun _ _ _ h => h) rfl ?_ hS ?_
  rotate_left
  · intro W' hW'
    obtain ⟨s0, s1, s2⟩ := hW'
    all_goals (go_simp; first | done | rfl)
  intro l' hl
  dsimp only [List.set_cons_succ, List.set_cons_zero] at hl
  subst hl
  refine anyX_takeNL 3 (v := ?_) rfl rfl (by as_aux_lemma => kernel_rfl) (by as_aux_lemma => kernel_rfl) (by as_aux_lemma => kernel_rfl) (by as_aux_lemma => kernel_rfl) (by as_aux_lemma => kernel_rfl) (fun _ _ _ h => h) rfl ?_ hS ?_
  rotate_left
  · intro W' hW'
    obtain ⟨s0, s1, s2⟩ := hW'
    all_goals (go_simp; first | done | rfl)
  intro l' hl
  dsimp only [List.set_cons_succ, List.set_cons_zero] at hl
  subst hl
  refine anyX_takeNL 4 (v := ?_) rfl rfl (by as_aux_lemma => kernel_rfl) (by as_aux_lemma => kernel_rfl) (by as_aux_lemma => kernel_rfl) (by as_aux_lemma => kernel_rfl) (by as_aux_lemma => kernel_rfl) (fun _ _ _ h => h) rfl ?_ hS ?_
  rotate_left
  · intro W' hW'
    obtain ⟨s0, s1, s2⟩ := hW'
    all_goals (go_simp; first | done | rfl)
  intro l' hl
  dsimp only [List.set_cons_succ, List.set_cons_zero] at hl
  subst hl
  refine anyX_takeNL 5 (v := ?_) rfl rfl (by as_aux_lemma => kernel_rfl) (by as_aux_lemma => kernel_rfl) (by as_aux_lemma => kernel_rfl) (by as_aux_lemma => kernel_rfl) (by as_aux_lemma => kernel_rfl) (fun _ _ _ h => h) rfl ?_ hS ?_
  rotate_left
  · intro W' hW'
    obtain ⟨s0, s1, s2⟩ := hW'
    all_goals (go_simp; first | done | rfl)
  intro l' hl
  dsimp only [List.set_cons_succ, List.set_cons_zero] at hl
  subst hl
  refine anyX_takeNL 6 (v := ?_) rfl rfl (by as_aux_lemma => kernel_rfl) (by as_aux_lemma => kernel_rfl) (by as_aux_lemma => kernel_rfl) (by as_aux_lemma => kernel_rfl) (by as_aux_lemma => kernel_rfl) (fun _ _ _ h => h) rfl ?_ hS ?_
  rotate_left
  · intro W' hW'
    obtain ⟨s0, s1, s2⟩ := hW'
    all_goals (go_simp; first | done | rfl)
  intro l' hl
  dsimp only [List.set_cons_succ, List.set_cons_zero] at hl
  subst hl
  refine anyX_takeNL 7 (v := ?_) rfl rfl (by as_aux_lemma => kernel_rfl) (by as_aux_lemma => kernel_rfl) (by as_aux_lemma => kernel_rfl) (by as_aux_lemma => kernel_rfl) (by as_aux_lemma => kernel_rfl) (fun _ _ _ h => h) rfl ?_ hS ?_
  rotate_left
  · intro W' hW'
    obtain ⟨s0, s1, s2⟩ := hW'
    all_goals (go_simp; first | done | rfl)
  intro l' hl
  dsimp only [List.set_cons_succ, List.set_cons_zero] at hl
  subst hl
  refine anyX_takeNL 8 (v := ?_) rfl rfl (by as_aux_lemma => kernel_rfl) (by as_aux_lemma => kernel_rfl) (by as_aux_lemma => kernel_rfl) (by as_aux_lemma => kernel_rfl) (by as_aux_lemma => kernel_rfl) (fun _ _ _ h => h) rfl ?_ hS ?_
  rotate_left
  · intro W' hW'
    obtain ⟨s0, s1, s2⟩ := hW'
    all_goals (go_simp; first | done | rfl)
  intro l' hl
  dsimp only [List.set_cons_succ, List.set_cons_zero] at hl
  subst hl
  refine anyX_takeNL 9 (v := ?_) rfl rfl (by as_aux_lemma => kernel_rfl) (by as_aux_lemma => kernel_rfl) (by as_aux_lemma => kernel_rfl) (by as_aux_lemma => kernel_rfl) (by as_aux_lemma => kernel_rfl) (fun _ _ _ h => h) rfl ?_ hS ?_
  rotate_left
  · intro W' hW'
    obtain ⟨s0, s1, s2⟩ := hW'
    all_goals (go_simp; first | done | rfl)
  intro l' hl
  dsimp only [List.set_cons_succ, List.set_cons_zero] at hl
  subst hl
  refine anyX_takeNL 12 (v := ?_) rfl rfl (by as_aux_lemma => kernel_rfl) (by as_aux_lemma => kernel_rfl) (by as_aux_lemma => kernel_rfl) (by as_aux_lemma => kernel_rfl) (by as_aux_lemma => kernel_rfl) (fun _ _ _ h => h) rfl ?_ hS ?_
  rotate_left
  · intro W' hW'
    obtain ⟨s0, s1, s2⟩ := hW'
    all_goals (go_simp; first | done | rfl)
  intro l' hl
  dsimp only [List.set_cons_succ, List.set_cons_zero] at hl
  subst hl
  refine anyX_one (i := 13) (by kernel_rfl) rfl rfl fun K' hK' => ?_
  unfold Oper.wp
  go_simp
  refine hK' _ _ (fun hf => by cases hf) (anyX_done (by kernel_rfl) ?_ _)
  refine NoPanic.normal ?_
  clear hK' K'
  clear hS b0 b1 e0 fG lG
  have tk := hH1.turn r (.int .i64 (hv - ln)) (by rw [h16_length]; omega)
  have hH2 := hH1.set r (.int .i64 (hv - ln)) (by rw [h16_length]; omega)
  rw [Hset.out] at hH2
  replace hc := hc.keep tk (by simp)
  replace h2 := h2.keep tk (by simp)
  replace h3 := h3.keep tk (by simp)
  replace h4 := h4.keep tk (by simp)
  replace h5 := h5.keep tk (by simp) (by simp)
  replace hO := hO.keep tk (fun k H s hk hne => by rcases hk with rfl | rfl <;> simp [Ne.symm hne])
  replace hSt1 := hSt1.keep tk (by simp) (by simp)
  replace hB := hB.keep tk (by simp)
  replace t := t.trans (tk.up (by simp))
  clear hH1
  have hH1 := hH2
  clear hH2 tk
  generalize w3.setCell ⟨G, 1 + r, none⟩ (.int .i64 (hv - ln)) = w4 at *
  go_upto_region 3 with fail
  obtain ⟨bf, off, cap, rfl, lb, e1, hfz⟩ := row_at h3 HFl.out r fv HFa.out
  have n1 : New w4 ow2 w4.drew ow2 := (New.refl _ _).drew
  replace hc := hc.new_ n1
  replace h2 := h2.new_ n1
  replace h3 := h3.new_ n1
  replace h4 := h4.new_ n1
  replace h5 := h5.new_ n1
  replace hO := hO.new_ n1
  replace hSt1 := hSt1.new_ n1
  replace hH1 := hH1.new_ n1
  replace hB := hB.new_ n1
  replace t := t.trans (n1.turn p)
  clear n1
  have b0 := hB.get 0 rfl
  have b1 := hB.get 1 rfl
  have c1 := hc.get 1 rfl
  simp only [Nat.zero_add] at b0 b1 c1
  have f0 : w4.drew.frozen? ⟨bf, off + r, none⟩ = false := hfz (off + r)
  have lb' : bf < w4.drew.heap.size := lb
  refine plain_regionN (fun W' : World => W'.cell? ⟨B, 0, none⟩ = some (.int .i64 (r : Int)) ∧ W'.cell? ⟨B, 1, none⟩ = some (.int .i64 ln) ∧ W'.cell? ⟨g, 1, none⟩ = some (.slice (some ⟨bf, off, none⟩) U.length cap) ∧ W'.cell? ⟨bf, off + r, none⟩ = some (.int .i64 fv)) [12] (by kernel_rfl) ?_
  have hS : (fun W' : World => W'.cell? ⟨B, 0, none⟩ = some (.int .i64 (r : Int)) ∧ W'.cell? ⟨B, 1, none⟩ = some (.int .i64 ln) ∧ W'.cell? ⟨g, 1, none⟩ = some (.slice (some ⟨bf, off, none⟩) U.length cap) ∧ W'.cell? ⟨bf, off + r, none⟩ = some (.int .i64 fv)) w4.drew := ⟨b0, b1, c1, e1⟩
  generalize w4.drew = w5 at *
  refine anyX_takeNL 0 (v := ?_) rfl rfl (by as_aux_lemma => kernel_rfl) (by as_aux_lemma => kernel_rfl) (by as_aux_lemma => kernel_rfl) (by as_aux_lemma => kernel_rfl) (by as_aux_lemma => kernel_rfl) (fun _ _ _ h => h) rfl ?_ hS ?_
  rotate_left
  · intro W' hW'
    obtain ⟨s0, s1, s2, s3⟩ := hW'
    all_goals (go_simp; first | done | rfl)
  intro l' hl
  dsimp only [List.set_cons_succ, List.set_cons_zero] at hl
  subst hl
  refine anyX_takeNL 1 (v := ?_) rfl rfl (by as_aux_lemma => kernel_rfl) (by as_aux_lemma => kernel_rfl) (by as_aux_lemma => kernel_rfl) (by as_aux_lemma => kernel_rfl) (by as_aux_lemma => kernel_rfl) (fun _ _ _ h => h) rfl ?_ hS ?_
  rotate_left
  · intro W' hW'
    obtain ⟨s0, s1, s2, s3⟩ := hW'
    all_goals (go_simp; first | done | rfl)
  intro l' hl
  dsimp only [List.set_cons_succ, List.set_cons_zero] at hl
  subst hl
  refine anyX_takeNL 2 (v := ?_) rfl rfl (by as_aux_lemma => kernel_rfl) (by as_aux_lemma => kernel_rfl) (by as_aux_lemma => kernel_rfl) (by as_aux_lemma => kernel_rfl) (by as_aux_lemma => kernel_rfl) (fun _ _ _ h => h) rfl ?_ hS ?_
  rotate_left
  · intro W' hW'
    obtain ⟨s0, s1, s2, s3⟩ := hW'
    all_goals (go_simp; first | done | rfl)
  intro l' hl
  dsimp only [List.set_cons_succ, List.set_cons_zero] at hl
  subst hl
  refine anyX_takeNL 3 (v := ?_) rfl rfl (by as_aux_lemma => kernel_rfl) (by as_aux_lemma => kernel_rfl) (by as_aux_lemma => kernel_rfl) (by as_aux_lemma => kernel_rfl) (by as_aux_lemma => kernel_rfl) (fun _ _ _ h => h) rfl ?_ hS ?_
  rotate_left
  · intro W' hW'
    obtain ⟨s0, s1, s2, s3⟩ := hW'
    all_goals (go_simp; first | done | rfl)
  intro l' hl
  dsimp only [List.set_cons_succ, List.set_cons_zero] at hl
  subst hl
  refine anyX_takeNL 4 (v := ?_) rfl rfl (by as_aux_lemma => kernel_rfl) (by as_aux_lemma => kernel_rfl) (by as_aux_lemma => kernel_rfl) (by as_aux_lemma => kernel_rfl) (by as_aux_lemma => kernel_rfl) (fun _ _ _ h => h) rfl ?_ hS ?_
  rotate_left
  · intro W' hW'
    obtain ⟨s0, s1, s2, s3⟩ := hW'
    all_goals (go_simp; first | done | rfl)
  intro l' hl
  dsimp only [List.set_cons_succ, List.set_cons_zero] at hl
  subst hl
  refine anyX_takeNL 5 (v := ?_) rfl rfl (by as_aux_lemma => kernel_rfl) (by as_aux_lemma => kernel_rfl) (by as_aux_lemma => kernel_rfl) (by as_aux_lemma => kernel_rfl) (by as_aux_lemma => kernel_rfl) (fun _ _ _ h => h) rfl ?_ hS ?_
  rotate_left
  · intro W' hW'
    obtain ⟨s0, s1, s2, s3⟩ := hW'
    all_goals (go_simp; first | done | rfl)
  intro l' hl
  dsimp only [List.set_cons_succ, List.set_cons_zero] at hl
  subst hl
  refine anyX_takeNL 6 (v := ?_) rfl rfl (by as_aux_lemma => kernel_rfl) (by as_aux_lemma => kernel_rfl) (by as_aux_lemma => kernel_rfl) (by as_aux_lemma => kernel_rfl) (by as_aux_lemma => kernel_rfl) (fun _ _ _ h => h) rfl ?_ hS ?_
  rotate_left
  · intro W' hW'
    obtain ⟨s0, s1, s2, s3⟩ := hW'
    all_goals (go_simp; first | done | rfl)
  intro l' hl
  dsimp only [List.set_cons_succ, List.set_cons_zero] at hl
  subst hl
  refine anyX_takeNL 7 (v := ?_) rfl rfl (by as_aux_lemma => kernel_rfl) (by as_aux_lemma => kernel_rfl) (by as_aux_lemma => kernel_rfl) (by as_aux_lemma => kernel_rfl) (by as_aux_lemma => kernel_rfl) (fun _ _ _ h => h) rfl ?_ hS ?_
  rotate_left
  · intro W' hW'
    obtain ⟨s0, s1, s2, s3⟩ := hW'
    all_goals (go_simp; first | done | rfl)
  intro l' hl
  dsimp only [List.set_cons_succ, List.set_cons_zero] at hl
  subst hl
  refine anyX_takeNL 8 (v := ?_) rfl rfl (by as_aux_lemma => kernel_rfl) (by as_aux_lemma => kernel_rfl) (by as_aux_lemma => kernel_rfl) (by as_aux_lemma => kernel_rfl) (by as_aux_lemma => kernel_rfl) (fun _ _ _ h => h) rfl ?_ hS ?_
  rotate_left
  · intro W' hW'
    obtain ⟨s0, s1, s2, s3⟩ := hW'
    all_goals (go_simp; first | done | rfl)
  intro l' hl
  dsimp only [List.set_cons_succ, List.set_cons_zero] at hl
  subst hl
  refine anyX_takeNL 9 (v := ?_) rfl rfl (by as_aux_lemma => kernel_rfl) (by as_aux_lemma => kernel_rfl) (by as_aux_lemma => kernel_rfl) (by as_aux_lemma => kernel_rfl) (by as_aux_lemma => kernel_rfl) (fun _ _ _ h => h) rfl ?_ hS ?_
  rotate_left
  · intro W' hW'
    obtain ⟨s0, s1, s2, s3⟩ := hW'
    all_goals (go_simp; first | done | rfl)
  intro l' hl
  dsimp only [List.set_cons_succ, List.set_cons_zero] at hl
  subst hl
  refine anyX_takeNL 10 (v := ?_) rfl rfl (by as_aux_lemma => kernel_rfl) (by as_aux_lemma => kernel_rfl) (by as_aux_lemma => kernel_rfl) (by as_aux_lemma => kernel_rfl) (by as_aux_lemma => kernel_rfl) (fun _ _ _ h => h) rfl ?_ hS ?_
  rotate_left
  · intro W' hW'
    obtain ⟨s0, s1, s2, s3⟩ := hW'
    all_goals (go_simp; first | done | rfl)
  intro l' hl
  dsimp only [List.set_cons_succ, List.set_cons_zero] at hl
  subst hl
  refine anyX_takeNL 11 (v := ?_) rfl rfl (by as_aux_lemma => kernel_rfl) (by as_aux_lemma => kernel_rfl) (by as_aux_lemma => kernel_rfl) (by as_aux_lemma => kernel_rfl) (by as_aux_lemma => kernel_rfl) (fun _ _ _ h => h) rfl ?_ hS ?_
  rotate_left
  · intro W' hW'
    obtain ⟨s0, s1, s2, s3⟩ := hW'
    all_goals (go_simp; first | done | rfl)
  intro l' hl
  dsimp only [List.set_cons_succ, List.set_cons_zero] at hl
  subst hl
  refine anyX_one (i := 12) (by kernel_rfl) rfl rfl fun K' hK' => ?_
  unfold Oper.wp
  go_simp
  refine hK' _ _ (fun hf => by cases hf) (anyX_done (by kernel_rfl) ?_ _)
  refine NoPanic.normal ?_
  clear hK' K'
  clear hS b0 b1 c1 e1 f0
  have tk := h3.turn (off + r) (.int .i64 (fv + ln))
  have h3' := h3.set r (.int .i64 (fv + ln))
  rw [css_cells1 (fr U T) 0 (fv + ln) r, Hfs.out] at h3'
  replace hc := hc.keep tk (by simp)
  replace h2 := h2.keep tk (by simp)
  replace h4 := h4.keep tk (by simp)
  replace h5 := h5.keep tk (by simp) (by simp)
  replace hO := hO.keep tk (fun k H s hk hne => by rcases hk with rfl | rfl <;> simp [Ne.symm hne])
  replace hSt1 := hSt1.keep tk (by simp) (by simp)
  replace hH1 := hH1.keep tk (by simp)
  replace hB := hB.keep tk (by simp)
  replace t := t.trans (tk.up (by simp))
  clear h3 hfz lb lb'
  have h3 := h3'
  clear h3' tk
  generalize w5.setCell ⟨bf, off + r, none⟩ (.int .i64 (fv + ln)) = w6 at *
  go_wp2_with fail
  refine (ELk.s_len w6 ow2 (p ++ [5, G]) G 0 ls hSt1).mono ?_
  rintro e w7 ⟨rfl, kk, hw'⟩
  have n1 : New w6 ow2 w7 ow2 := by rw [hw']; exact (New.refl _ _).drewN kk
  clear hw'
  replace hc := hc.new_ n1
  replace h2 := h2.new_ n1
  replace h3 := h3.new_ n1
  replace h4 := h4.new_ n1
  replace h5 := h5.new_ n1
  replace hO := hO.new_ n1
  replace hSt1 := hSt1.new_ n1
  replace hH1 := hH1.new_ n1
  replace hB := hB.new_ n1
  replace t := t.trans (n1.turn p)
  clear n1
  by_cases hls : ls = []
  · obtain ⟨r0, hr0, hk0⟩ := TIH.foundB_some ((H8.out job).2 (by rw [Hl.out]; simp))
    have er0 : r0 = (job, G) := same_key h6 (List.mem_of_getElem? hr0) HG.out hk0
    subst er0
    have hdel := TIH.t_delete_yes w7 ow2 (p ++ [4]) g 3 rows job _ (job, G) h5 (TIH.posN_pos job rows h6) hr0 rfl (by omega)
    have Hr0 := Lib.hid hr0
    clear hr0 hk0
    have hl0 : ((ls.length : Int) == 0) = true := by rw [hls]; rfl
    go_wp2_with fail
    refine hdel.mono ?_
    rintro e w8 ⟨ow8, rfl, hn', tt⟩
    clear hdel h5
    replace hc := hc.keep tt (by simp)
    replace h2 := h2.keep tt (by simp)
    replace h3 := h3.keep tt (by simp)
    replace h4 := h4.keep tt (by simp)
    replace hO := hO.keep tt (fun k H s hk hne => by rcases hk with rfl | rfl <;> simp)
    replace hB := hB.keep tt (by simp)
    replace t := t.trans (tt.up (by simp))
    have b1 := hB.get 1 rfl
    simp only [Nat.zero_add] at b1
    have Ht := Lib.hid t
    have h6' : TIH.Rise (rows.eraseIdx (TIH.posN job rows)) := h6.sublist (List.eraseIdx_sublist _ _)
    have h7' : ((rows.eraseIdx (TIH.posN job rows)).map (·.2)).Nodup := by
      have := H7.out
      exact this.sublist ((List.eraseIdx_sublist _ _).map _)
    have h8' := has_erase h6 H8.out Hr0.out (T' := popT job T) (by rw [Hpl.out]; exact hls) Hpo.out
    have h9' := hl_erase h6 H7.out Hr0.out hO (T' := popT job T) Hpo.out
    have H6' := Lib.hid h6'
    have H7' := Lib.hid h7'
    have H8' := Lib.hid h8'
    have H9' := Lib.hid h9'
    have Hls := Lib.hid hls
    clear h6' h7' h8' h9' tt hO hls
    go_wp2
    go_ret
    exact ⟨ow8, _, rfl, ⟨Hi'.out, ⟨_, _, _, hc, h2, h3, h4⟩, hn', H6'.out, H7'.out, H8'.out, H9'.out⟩, Ht.out, fun h => absurd Hls.out h⟩
  · have hl0 : ((ls.length : Int) == 0) = false := by
      have := List.length_pos_iff.2 hls
      simp; omega
    have b1 := hB.get 1 rfl
    simp only [Nat.zero_add] at b1
    have h8' := has_all h6 H8.out HG.out (T' := popT job T) (by rw [Hpl.out]; exact hls) Hpo.out
    have h9' := hl_all h6 H7.out HG.out hO (T' := popT job T) (by rw [Hpl.out]; exact ⟨hSt1, hH1⟩) Hpo.out
    have H8' := Lib.hid h8'
    have H9' := Lib.hid h9'
    have Ht := Lib.hid t
    have h1n : ¬ (ls.length : Int) = 0 := by have := List.length_pos_iff.2 hls; omega
    clear h8' h9' hO hls t
    go_wp2
    go_ret
    exact ⟨ow2, rows, rfl, ⟨Hi'.out, ⟨_, _, _, hc, h2, h3, h4⟩, h5, h6, H7.out, H8'.out, H9'.out⟩, Ht.out, fun _ => HG.out⟩
end UN
end Go.Proofs.Ytefagdbdimpcdaa
