/-
  SHELF.TABLE[keel/keellaw1.Tag, keel/keellaw1.Pair]: Get and Set (values of two cells).
-/
import Derived.Test.YtppikbdeopagkaaTXPF
set_option linter.unusedVariables false
set_option linter.unusedSimpArgs false
namespace Go.Proofs.Ytppikbdeopagkaa
open Go Go.RowKit
namespace TXP

set_option maxHeartbeats 1000000 in
theorem t_get_no (w : World) (ow : Ow) (p : List Nat) (g o : Nat) (rows : List R) (k : Int) (i : Nat) (h : TbP w ow p g o rows) (hP : Pos rows k i) (hf : foundB rows k i = false) (hn : rows.length ≤ 1099511627776) (hrg : ∀ r ∈ rows, EInt.Rng r.1) (hkr : EInt.Rng k) :
    Calls Try.prog 81 #[.pointer (some ⟨g, o, none⟩), .string (Tx.tx k)] w fun e w' => e = .returned (.tuple #[.agg #[.int .i64 0, .string ⟨#[]⟩], .bool false]) ∧ Below w.heap.size w w' := by
  have hcall := fun W (hW : Below w.heap.size w W) => t_find W ow p g o rows k i (h.new_ (hW.nw ow)) hP hn hrg hkr
  simp only [hf] at hcall
  have Hcall := Lib.hid hcall
  clear hcall hP hf hrg hkr h
  go_enter Try.func81, Try.ntmps81
  go_wp2_with fail
  refine (Hcall.out _ (by repeat (first | (with_reducible assumption) | (with_reducible exact Below.refl _ _) | (with_reducible refine Below.drew ?_) | (with_reducible refine bdN ?_ _) | ((with_reducible refine bdS ?_ ?_ _); · first | (simp; done) | omega | (simp; omega)) | ((with_reducible refine bdA ?_ ?_ _); · first | (simp; done) | omega | (simp; omega))))).mono ?_
  rintro e w1 ⟨rfl, hb⟩
  have r0 := (Cells.new w ow [9] [.int .i64 0, .string ⟨#[]⟩] 62).new_ (hb.nw _)
  have lz := hb.size
  have hB : Below w.heap.size w w1 := ((Below.refl _ _).alloc (Nat.le_refl _) _).trans (hb.mono (by simp))
  have z0 := r0.get 0 rfl
  have z1 := r0.get 1 rfl
  have f0 := r0.free
  have lr := r0.lt
  simp only [Nat.zero_add] at z0 z1
  simp only [World.size_alloc] at lz
  go_wp2
  refine bodyPost_ret (v := .tuple #[.agg #[.int .i64 0, .string ⟨#[]⟩], .bool false]) (by simp [results, Try.results81, go_sem, lr, z0, z1]) rfl ⟨rfl, ?_⟩
  repeat (first | (with_reducible assumption) | (with_reducible exact Below.refl _ _) | (with_reducible refine Below.drew ?_) | (with_reducible refine bdN ?_ _) | ((with_reducible refine bdS ?_ ?_ _); · first | (simp; done) | omega | (simp; omega)) | ((with_reducible refine bdA ?_ ?_ _); · first | (simp; done) | omega | (simp; omega)))

set_option maxHeartbeats 1000000 in
theorem t_get_yes (w : World) (ow : Ow) (p : List Nat) (g o : Nat) (rows : List R) (k : Int) (i : Nat) (r : R) (h : TbP w ow p g o rows) (hP : Pos rows k i) (hr : rows[i]? = some r) (hk : r.1 = k) (hn : rows.length ≤ 1099511627776) (hrg : ∀ r ∈ rows, EInt.Rng r.1) (hkr : EInt.Rng k) :
    Calls Try.prog 81 #[.pointer (some ⟨g, o, none⟩), .string (Tx.tx k)] w fun e w' => e = .returned (.tuple #[.agg #[.int .i64 r.2.a, .string r.2.b], .bool true]) ∧ Below w.heap.size w w' := by
  have hcall := fun W (hW : Below w.heap.size w W) => t_find W ow p g o rows k i (h.new_ (hW.nw ow)) hP hn hrg hkr
  simp only [foundB_yes hr hk] at hcall
  have hlt : i < rows.length := (List.getElem?_eq_some_iff.1 hr).1
  have Hcall := Lib.hid hcall
  obtain ⟨v, hc, hrow⟩ := h
  obtain ⟨b, off, cap, rfl, hnc, hm, hbl, ho, hf, -⟩ := hrow.at (by omega)
  have i0 : (i : Int) < (rows.length : Int) := by omega
  clear hcall hP hrg hkr
  go_enter Try.func81, Try.ntmps81
  go_wp2_with fail
  refine (Hcall.out _ (by repeat (first | (with_reducible assumption) | (with_reducible exact Below.refl _ _) | (with_reducible refine Below.drew ?_) | (with_reducible refine bdN ?_ _) | ((with_reducible refine bdS ?_ ?_ _); · first | (simp; done) | omega | (simp; omega)) | ((with_reducible refine bdA ?_ ?_ _); · first | (simp; done) | omega | (simp; omega))))).mono ?_
  rintro e w1 ⟨rfl, hb⟩
  have r0 := (Cells.new w ow [9] [.int .i64 0, .string ⟨#[]⟩] 62).new_ (hb.nw _)
  have lz := hb.size
  have hB : Below w.heap.size w w1 := ((Below.refl _ _).alloc (Nat.le_refl _) _).trans (hb.mono (by simp))
  have z0 := r0.get 0 rfl
  have z1 := r0.get 1 rfl
  have f0 := r0.free
  have lr := r0.lt
  simp only [Nat.zero_add] at z0 z1
  simp only [World.size_alloc] at lz
  replace hc := hc.new_ (hB.nw ow)
  replace hrow := hrow.new_ (hB.nw ow)
  obtain ⟨hb1, -, hf1, hcell⟩ := hrow.open_
  have e1 := hcell (i * 3 + 1) _ (css_at rows i r hr 1 _ rfl (by omega))
  have e2 := hcell (i * 3 + 2) _ (css_at rows i r hr 2 _ rfl (by omega))
  simp only [← Nat.add_assoc] at e1 e2
  have c0 := hc.get0
  have lg := hc.lt
  clear hr hk hcell hrow ho hf hf1 hbl
  go_wp2
  refine bodyPost_ret (v := .tuple #[.agg #[.int .i64 r.2.a, .string r.2.b], .bool true]) (by simp [results, Try.results81, go_sem, lr, z0, z1]) rfl ⟨rfl, ?_⟩
  repeat (first | (with_reducible assumption) | (with_reducible exact Below.refl _ _) | (with_reducible refine Below.drew ?_) | (with_reducible refine bdN ?_ _) | ((with_reducible refine bdS ?_ ?_ _); · first | (simp; done) | omega | (simp; omega)) | ((with_reducible refine bdA ?_ ?_ _); · first | (simp; done) | omega | (simp; omega)))

theorem css_upd (rows : List R) (i : Nat) (r : R) (v : Pr) (hr : rows[i]? = some r) : ((css rows).set (i * 3 + 1) (.int .i64 v.a)).set (i * 3 + 1 + 1) (.string v.b) = css (rows.set i (r.1, v)) := by
  have h := css_cells rows i (r.1, v)
  rw [← h]
  congr 2
  exact (set_same _ _ _ (by have := css_at rows i r hr 0 _ rfl (by omega); simpa using this)).symm

set_option maxHeartbeats 1000000 in
theorem t_set_old (w : World) (ow : Ow) (p : List Nat) (g o : Nat) (rows : List R) (k : Int) (v : Pr) (i : Nat) (r : R) (h : TbP w ow p g o rows) (hP : Pos rows k i) (hr : rows[i]? = some r) (hk : r.1 = k) (hn : rows.length ≤ 1099511627776) (hrg : ∀ r ∈ rows, EInt.Rng r.1) (hkr : EInt.Rng k) :
    Calls Try.prog 75 #[.pointer (some ⟨g, o, none⟩), .string (Tx.tx k), .agg #[.int .i64 v.a, .string v.b]] w (TbL w ow p g o (.bool false) (rows.set i (r.1, v))) := by
  have hcall := fun W (hW : Below w.heap.size w W) => t_find W ow p g o rows k i (h.new_ (hW.nw ow)) hP hn hrg hkr
  simp only [foundB_yes hr hk] at hcall
  have hlt : i < rows.length := (List.getElem?_eq_some_iff.1 hr).1
  have hup := css_upd rows i r v hr
  have Hcall := Lib.hid hcall
  have Hup := Lib.hid hup
  clear hcall hP hr hk hup hrg hkr
  go_enter Try.func75, Try.ntmps75
  go_wp2_with fail
  refine (Hcall.out _ (by repeat (first | (with_reducible assumption) | (with_reducible exact Below.refl _ _) | (with_reducible refine Below.drew ?_) | (with_reducible refine bdN ?_ _) | ((with_reducible refine bdS ?_ ?_ _); · first | (simp; done) | omega | (simp; omega)) | ((with_reducible refine bdA ?_ ?_ _); · first | (simp; done) | omega | (simp; omega))))).mono ?_
  rintro e w1 ⟨rfl, hb⟩
  have r0 : Loc w1 w.heap.size [.int .i64 v.a, .string v.b] := Loc.new_ (Loc.make rfl rfl) hb
  have lz := hb.size
  have hB : Below w.heap.size w w1 := ((Below.refl _ _).alloc (Nat.le_refl _) _).trans (hb.mono (by simp))
  have z0 := r0.get 0 rfl
  have z1 := r0.get 1 rfl
  have lr := r0.lt
  simp only [World.size_alloc] at lz
  obtain ⟨v', hc, hrow⟩ := h.new_ (hB.nw ow)
  obtain ⟨b, off, cap, rfl, hnc, hm, hbl, ho, hf, hcell⟩ := hrow.at (by omega)
  have e1 := hcell (i * 3 + 1) _ (List.getElem?_eq_getElem (by rw [css_length]; omega))
  have e2 := hcell (i * 3 + 2) _ (List.getElem?_eq_getElem (by rw [css_length]; omega))
  simp only [← Nat.add_assoc] at e1 e2
  have c0 := hc.get0
  have i0 : (i : Int) < (rows.length : Int) := by omega
  have lg := hc.lt
  have gb : ¬ g = b := hrow.ne hc (by simp) (by simp)
  have gb' : ¬ b = g := fun e => gb e.symm
  have hs := (hrow.set (i * 3 + 1) (.int .i64 v.a)).set (i * 3 + 1 + 1) (.string v.b)
  rw [Hup.out] at hs
  simp only [← Nat.add_assoc] at hs
  have ob : ∀ i, p <+: ow b i := fun i => by rw [ho]; simp
  have T1 := (hB.nw ow).turn p
  have HO := Lib.hid ob
  have Hs := Lib.hid hs
  have Hc := Lib.hid hc
  clear ho hcell hrow h ob hs hc r0
  go_wp2
  go_region
  all_goals
    go_wp2
    go_ret
    refine ⟨ow, rfl, ⟨.slice (some ⟨b, off, none⟩) rows.length cap, ?_, ?_⟩, ?_⟩
    rotate_left
    · rw [List.length_set]
      have hs := Hs.out
      repeat (first | (with_reducible exact hs) | (with_reducible refine Row.drew ?_) | (with_reducible refine Row.drewN ?_ _) | (with_reducible refine Row.alloc_ ?_ _) | ((with_reducible refine Row.far ?_ ?_ _); · first | assumption | omega | (simp; done) | (simp; omega)))
    · have ob := HO.out
      repeat (first | (with_reducible exact T1) | (with_reducible exact Turn.refl _ _ _) | (with_reducible refine Turn.drew ?_) | (with_reducible refine Turn.drewN ?_ _) | (with_reducible refine Turn.alloc_ ?_ _) | ((with_reducible refine Turn.setNew ?_ ?_ _); · first | (simp; done) | omega | (simp; omega)) | ((with_reducible refine Turn.setO ?_ ?_ _); · first | assumption | exact ob _ | (simp [*]; done)))
    · have hc := Hc.out
      repeat (first | (with_reducible exact hc) | (with_reducible refine Cells.drew ?_) | (with_reducible refine Cells.drewN ?_ _) | (with_reducible refine Cells.alloc_ ?_ _) | ((with_reducible refine Cells.far ?_ ?_ _); · first | assumption | omega | (simp; done) | (simp; omega)))

set_option maxHeartbeats 1000000 in
theorem t_set_new (w : World) (ow : Ow) (p : List Nat) (g o : Nat) (rows : List R) (k : Int) (v : Pr) (i : Nat) (h : TbP w ow p g o rows) (hP : Pos rows k i) (hf : foundB rows k i = false) (hn : rows.length ≤ 1099511627776) (hrg : ∀ r ∈ rows, EInt.Rng r.1) (hkr : EInt.Rng k) :
    Calls Try.prog 75 #[.pointer (some ⟨g, o, none⟩), .string (Tx.tx k), .agg #[.int .i64 v.a, .string v.b]] w (TbL w ow p g o (.bool true) (insR rows i (k, v))) := by
  have hcall := fun W (hW : Below w.heap.size w W) => t_find W ow p g o rows k i (h.new_ (hW.nw ow)) hP hn hrg hkr
  simp only [hf] at hcall
  have Hcall := Lib.hid hcall
  have hi := hP.1
  clear hcall hP hf hrg hkr
  go_enter Try.func75, Try.ntmps75
  go_wp2_with fail
  refine (Hcall.out _ (by repeat (first | (with_reducible assumption) | (with_reducible exact Below.refl _ _) | (with_reducible refine Below.drew ?_) | (with_reducible refine bdN ?_ _) | ((with_reducible refine bdS ?_ ?_ _); · first | (simp; done) | omega | (simp; omega)) | ((with_reducible refine bdA ?_ ?_ _); · first | (simp; done) | omega | (simp; omega))))).mono ?_
  rintro e w1 ⟨rfl, hb⟩
  have nn := ((New.refl w ow).alloc (.cells #[.int .i64 v.a, .string v.b] 62) (p ++ [3])).trans (hb.nw _)
  have r0 := (Cells.new w ow (p ++ [3]) [.int .i64 v.a, .string v.b] 62).new_ (hb.nw _)
  have z0 := r0.get 0 rfl
  have z1 := r0.get 1 rfl
  simp only [Nat.zero_add] at z0 z1
  have lr := r0.lt
  have f0 := r0.free 0
  obtain ⟨v', hc, hrow⟩ := h.new_ nn
  obtain ⟨A, c, rfl, hnc⟩ := hrow.slice
  have c0 := hc.get0
  have lg := hc.lt
  generalize ow.set w.heap.size (p ++ [3]) = ow1 at *
  go_wp2
  refine plain_regionN (fun W' : World => W'.cell? ⟨g, o, none⟩ = some (.slice A rows.length c) ∧ W'.cell? ⟨w.heap.size, 0, none⟩ = some (.int .i64 v.a) ∧ W'.cell? ⟨w.heap.size, 1, none⟩ = some (.string v.b)) [13] (by kernel_rfl) ?_
  have hS : (fun W' : World => W'.cell? ⟨g, o, none⟩ = some (.slice A rows.length c) ∧ W'.cell? ⟨w.heap.size, 0, none⟩ = some (.int .i64 v.a) ∧ W'.cell? ⟨w.heap.size, 1, none⟩ = some (.string v.b)) w1.drew := ⟨c0, z0, z1⟩
  refine anyX_takeN 0 (v := ?_) rfl rfl (by kernel_rfl) (by kernel_rfl) (by kernel_rfl) (by kernel_rfl) (by kernel_rfl) (fun _ _ _ h => h) rfl ?_ hS ?_
  rotate_left
  · intro W' hW'
    obtain ⟨s0, s1, s2⟩ := hW'
    all_goals (go_simp; first | done | rfl)
  intro tm' htm
  simp only [List.setIfInBounds_toArray, List.set_cons_succ, List.set_cons_zero] at htm
  subst htm
  refine anyX_takeN 1 (v := ?_) rfl rfl (by kernel_rfl) (by kernel_rfl) (by kernel_rfl) (by kernel_rfl) (by kernel_rfl) (fun _ _ _ h => h) rfl ?_ hS ?_
  rotate_left
  · intro W' hW'
    obtain ⟨s0, s1, s2⟩ := hW'
    all_goals (go_simp; first | done | rfl)
  intro tm' htm
  simp only [List.setIfInBounds_toArray, List.set_cons_succ, List.set_cons_zero] at htm
  subst htm
  refine anyX_takeN 2 (v := ?_) rfl rfl (by kernel_rfl) (by kernel_rfl) (by kernel_rfl) (by kernel_rfl) (by kernel_rfl) (fun _ _ _ h => h) rfl ?_ hS ?_
  rotate_left
  · intro W' hW'
    obtain ⟨s0, s1, s2⟩ := hW'
    all_goals (go_simp; first | done | rfl)
  intro tm' htm
  simp only [List.setIfInBounds_toArray, List.set_cons_succ, List.set_cons_zero] at htm
  subst htm
  refine anyX_takeN 3 (v := ?_) rfl rfl (by kernel_rfl) (by kernel_rfl) (by kernel_rfl) (by kernel_rfl) (by kernel_rfl) (fun _ _ _ h => h) rfl ?_ hS ?_
  rotate_left
  · intro W' hW'
    obtain ⟨s0, s1, s2⟩ := hW'
    all_goals (go_simp; first | done | rfl)
  intro tm' htm
  simp only [List.setIfInBounds_toArray, List.set_cons_succ, List.set_cons_zero] at htm
  subst htm
  refine anyX_takeN 4 (v := ?_) rfl rfl (by kernel_rfl) (by kernel_rfl) (by kernel_rfl) (by kernel_rfl) (by kernel_rfl) (fun _ _ _ h => h) rfl ?_ hS ?_
  rotate_left
  · intro W' hW'
    obtain ⟨s0, s1, s2⟩ := hW'
    all_goals (go_simp; first | done | rfl)
  intro tm' htm
  simp only [List.setIfInBounds_toArray, List.set_cons_succ, List.set_cons_zero] at htm
  subst htm
  refine anyX_takeN 5 (v := ?_) rfl rfl (by kernel_rfl) (by kernel_rfl) (by kernel_rfl) (by kernel_rfl) (by kernel_rfl) (fun _ _ _ h => h) rfl ?_ hS ?_
  rotate_left
  · intro W' hW'
    obtain ⟨s0, s1, s2⟩ := hW'
    all_goals (go_simp; first | done | rfl)
  intro tm' htm
  simp only [List.setIfInBounds_toArray, List.set_cons_succ, List.set_cons_zero] at htm
  subst htm
  refine anyX_takeN 6 (v := ?_) rfl rfl (by kernel_rfl) (by kernel_rfl) (by kernel_rfl) (by kernel_rfl) (by kernel_rfl) (fun _ _ _ h => h) rfl ?_ hS ?_
  rotate_left
  · intro W' hW'
    obtain ⟨s0, s1, s2⟩ := hW'
    all_goals (go_simp; first | done | rfl)
  intro tm' htm
  simp only [List.setIfInBounds_toArray, List.set_cons_succ, List.set_cons_zero] at htm
  subst htm
  refine anyX_takeN 7 (v := ?_) rfl rfl (by kernel_rfl) (by kernel_rfl) (by kernel_rfl) (by kernel_rfl) (by kernel_rfl) (fun _ _ _ h => h) rfl ?_ hS ?_
  rotate_left
  · intro W' hW'
    obtain ⟨s0, s1, s2⟩ := hW'
    all_goals (go_simp; first | done | rfl)
  intro tm' htm
  simp only [List.setIfInBounds_toArray, List.set_cons_succ, List.set_cons_zero] at htm
  subst htm
  refine anyX_takeN 8 (v := ?_) rfl rfl (by kernel_rfl) (by kernel_rfl) (by kernel_rfl) (by kernel_rfl) (by kernel_rfl) (fun _ _ _ h => h) rfl ?_ hS ?_
  rotate_left
  · intro W' hW'
    obtain ⟨s0, s1, s2⟩ := hW'
    all_goals (go_simp; first | done | rfl)
  intro tm' htm
  simp only [List.setIfInBounds_toArray, List.set_cons_succ, List.set_cons_zero] at htm
  subst htm
  refine anyX_one (i := 9) (by kernel_rfl) rfl rfl fun K' hK' => ?_
  unfold Oper.wp
  go_simp
  refine hK' _ _ (fun _ => ⟨cell_alloc hS.1 _, cell_alloc hS.2.1 _, cell_alloc hS.2.2 _⟩) ?_
  clear hK' K'
  have hrow1 := hrow.drew.alloc (Obj.cells (cs (k, v)).toArray 167) (p ++ [2])
  have hX : Loc (w1.drew.alloc (Obj.cells (cs (k, v)).toArray 167)) w1.heap.size (cs (k, v)) := Loc.make rfl rfl
  have hcall2 := ins _ _ (p ++ [1]) A c rows (k, v) i w1.heap.size hrow1 hi hn hX (by rw [show w1.heap.size = w1.drew.heap.size from rfl, Ow.set_same]; simp)
  have hc1 := hc.drew.alloc (Obj.cells (cs (k, v)).toArray 167) (p ++ [2])
  have r1 := r0.drew.alloc (Obj.cells (cs (k, v)).toArray 167) (p ++ [2])
  have t1 := ((nn.turn p).drew).alloc (Obj.cells (cs (k, v)).toArray 167) (p ++ [2])
  have Hcall2 := Lib.hid hcall2
  clear hcall2 hrow1 hX hrow hS c0 z0 z1 lg hc r0 nn
  refine anyX_one (i := 10) (by kernel_rfl) rfl rfl fun K' hK' => ?_
  unfold Oper.wp
  go_simp
  refine Hcall2.out.mono ?_
  rintro e w3 ⟨v3, ow3, rfl, hrow3, t3⟩
  obtain ⟨A3, c3, rfl, -⟩ := hrow3.slice
  have hc3 := hc1.keep t3 (by simp)
  have r3 := r1.keep t3 (by simp)
  have c0 := hc3.get0
  have z0 := r3.get 0 rfl
  have z1 := r3.get 1 rfl
  simp only [Nat.zero_add] at z0 z1
  have f0 := hc3.free o
  have lg := hc3.lt
  have tb := hc3.turn 0 (.slice A3 (insR rows i (k, v)).length c3) (by simp)
  have hr4 := hrow3.keep tb (by simp)
  have hS : (fun W' : World => W'.cell? ⟨g, o, none⟩ = some (.slice A rows.length c) ∧ W'.cell? ⟨w.heap.size, 0, none⟩ = some (.int .i64 v.a) ∧ W'.cell? ⟨w.heap.size, 1, none⟩ = some (.string v.b)) w3 := ⟨c0, z0, z1⟩
  refine hK' _ _ (fun _ => hS) ?_
  clear hK' K'
  refine anyX_one (i := 11) (by kernel_rfl) rfl rfl fun K' hK' => ?_
  unfold Oper.wp
  go_simp
  refine hK' _ _ (fun _ => hS) ?_
  clear hK' K'
  refine anyX_one (i := 12) (by kernel_rfl) rfl rfl fun K' hK' => ?_
  unfold Oper.wp
  go_simp
  refine hK' _ _ (fun _ => hS) ?_
  clear hK' K'
  refine anyX_one (i := 13) (by kernel_rfl) rfl rfl fun K' hK' => ?_
  unfold Oper.wp
  go_simp
  refine hK' _ _ (fun hf => by cases hf) (anyX_done (by kernel_rfl) ?_ _)
  refine NoPanic.normal ?_
  clear hK' K'
  go_wp2
  go_ret
  exact ⟨ow3, rfl, ⟨_, hc3.set0 _, hr4⟩, (t1.trans (t3.up (by simp))).trans (tb.up (by simp))⟩

end TXP
end Go.Proofs.Ytppikbdeopagkaa
