/-
  KEELREF1.LEVELS: Count and All.
-/
import Derived.Test.YtppikbdeopagkaaRL2
set_option linter.unusedVariables false
set_option linter.unusedSimpArgs false
namespace Go.Proofs.Ytppikbdeopagkaa
open Go Go.RowKit
namespace RL
open EInt

/-- What waits at a level. -/
def atLv (ys : List (Int × Int)) (lv : Int) : List (Int × Int) := ys.filter fun y => decide (y.1 = lv)
theorem atLv_step (ys : List (Int × Int)) (lv : Int) (m : Nat) (x : Int × Int) (hx : ys[m]? = some x) : atLv (ys.take (m + 1)) lv = atLv (ys.take m) lv ++ if x.1 = lv then [x] else [] := by
  rw [List.take_add_one, hx, atLv, List.filter_append]
  by_cases h : x.1 = lv <;> simp [atLv, h]
theorem atLv_le (ys : List (Int × Int)) (lv : Int) : (atLv ys lv).length ≤ ys.length := List.length_filter_le _ _

/-- What Count's loop keeps. -/
def cntRel (w : World) (ys : List (Int × Int)) (lv : Int) (n i : Value) (wr : World) : Prop :=
  ∃ m : Nat, m ≤ ys.length ∧ i = .int .i64 (m : Int) ∧ n = .int .i64 ((atLv (ys.take m) lv).length : Int) ∧ Below w.heap.size w wr

set_option maxRecDepth 100000 in
set_option maxHeartbeats 2000000 in
theorem count (w : World) (ow : Ow) (p : List Nat) (g n : Nat) (ys : List (Int × Int)) (lv : Int) (h : Lv w ow p g n ys) (hn : ys.length ≤ 1099511627776) :
    Calls Try.prog 95 #[.pointer (some ⟨g, 0, none⟩), .int .i64 lv] w fun e w' => e = .returned (.int .i64 ((atLv ys lv).length : Int)) ∧ Below w.heap.size w w' := by
  obtain ⟨vl, vx, hc, hr1, hr2⟩ := h
  obtain ⟨A, c, rfl, hnc⟩ := hr1.slice
  have R1 := Lib.hid hr1.reads
  have c1 := hc.get 1 rfl
  have lg := hc.lt
  simp only [Nat.zero_add] at c1
  clear hr1 hr2 hc
  go_enter Try.func95, Try.ntmps95
  go_wp2
  go_loopw [5, 6] (fun n i wr => cntRel w ys lv n i wr) (fun _ i _ => ys.length - (intOf i).toNat)
  case atStart => exact ⟨0, Nat.zero_le _, rfl, by simp [atLv], Below.refl _ _⟩
  case round =>
    obtain ⟨m, hm, rfl, rfl, bd⟩ := hrel
    have c1 := (bd.cell (p := ⟨g, 1, none⟩) lg).trans c1
    by_cases hlt : m < ys.length
    · obtain ⟨x, hx⟩ : ∃ x, ys[m]? = some x := ⟨_, List.getElem?_eq_getElem hlt⟩
      have i0 : (m : Int) < (ys.length : Int) := by omega
      obtain ⟨b8, off8, cap8, hv, -, hcell⟩ := (R1.out.new_ bd).at (by omega)
      simp only [Value.slice.injEq] at hv
      obtain ⟨rfl, -, rfl⟩ := hv
      have e0 := hcell (m * 1 + 0) _ (css_at _ m x.1 (by rw [List.getElem?_map, hx]; rfl) 0 _ rfl (by omega))
      simp only [Nat.mul_one, Nat.add_zero] at e0
      have st := atLv_step ys lv m x hx
      have le := atLv_le (ys.take m) lv
      rw [List.length_take] at le
      have St := Lib.hid st
      clear hcell hx st
      generalize atLv (ys.take m) lv = acc at *
      by_cases hl : x.1 = lv
      · have b0 : (x.1 == lv) = true := beq_iff_eq.2 hl
        have s2 := St.out
        rw [if_pos hl] at s2
        have S2 := Lib.hid s2
        clear hl s2
        go_wp2
        exact ⟨⟨m + 1, by omega, by go_num, by rw [S2.out, List.length_append, List.length_cons, List.length_nil]; go_num, bd⟩, by simp only [intOf]; omega⟩
      · have b0 : (x.1 == lv) = false := beq_eq_false_iff_ne.2 hl
        have s2 := St.out
        rw [if_neg hl, List.append_nil] at s2
        have S2 := Lib.hid s2
        clear hl s2
        go_wp2
        exact ⟨⟨m + 1, by omega, by go_num, by rw [S2.out], bd⟩, by simp only [intOf]; omega⟩
    · obtain rfl : m = ys.length := by omega
      rw [List.take_length] at *
      go_wp2
      go_ret
      exact ⟨rfl, bd⟩

/-- The highest c levels of n, one behind the other. -/
def allTo (ys : List (Int × Int)) (n c : Nat) : List (Int × Int) := (List.range c).flatMap fun (j : Nat) => atLv ys ((n : Int) - (j : Int))
theorem allTo_succ (ys : List (Int × Int)) (n c : Nat) : allTo ys n (c + 1) = allTo ys n c ++ atLv ys ((n : Int) - (c : Int)) := by simp [allTo, List.range_succ]
theorem allTo_le (ys : List (Int × Int)) (n : Nat) : ∀ c, (allTo ys n c).length ≤ c * ys.length
  | 0 => by simp [allTo]
  | c + 1 => by
    rw [allTo_succ, List.length_append, Nat.succ_mul]
    have := allTo_le ys n c
    have := atLv_le ys ((n : Int) - (c : Int))
    omega

/-- What All's loops keep: acc: what has been handed out. -/
def accR (w : World) (acc : List (Int × Int)) (a b : Value) (wr : World) : Prop :=
  ∃ OW, Row wr OW [1, 1] 3 1 a acc.length (css (acc.map (·.1))) ∧ Row wr OW [1, 2] 3 1 b acc.length (css (acc.map (·.2))) ∧ Turn [1] w ow0 wr OW
def outR (w : World) (ys : List (Int × Int)) (n gn : Nat) (lv a b : Value) (wr : World) : Prop :=
  ∃ c : Nat, gn = n - c ∧ c ≤ n ∧ lv = .int .i64 ((n : Int) - (c : Int)) ∧ accR w (allTo ys n c) a b wr
def inR (w : World) (ys : List (Int × Int)) (n c gn : Nat) (i a b : Value) (wr : World) : Prop :=
  ∃ m : Nat, gn = ys.length - m ∧ m ≤ ys.length ∧ i = .int .i64 (m : Int) ∧ accR w (allTo ys n c ++ atLv (ys.take m) ((n : Int) - (c : Int))) a b wr
def AllP (w : World) (n : Nat) (ys : List (Int × Int)) (e : Ending) (w' : World) : Prop :=
  ∃ va vb, e = .returned (.tuple #[va, vb]) ∧ Reads w' va (allTo ys n n).length (css ((allTo ys n n).map (·.1))) ∧ Reads w' vb (allTo ys n n).length (css ((allTo ys n n).map (·.2))) ∧ Below w.heap.size w w'

set_option maxRecDepth 100000 in
set_option maxHeartbeats 4000000 in
theorem all (w : World) (ow : Ow) (p : List Nat) (g n : Nat) (ys : List (Int × Int)) (h : Lv w ow p g n ys) (hn : ys.length ≤ 1000000) (hl : n ≤ 32) :
    Calls Try.prog 96 #[.pointer (some ⟨g, 0, none⟩)] w (AllP w n ys) := by
  obtain ⟨vl, vx, hc, hr1, hr2⟩ := h
  obtain ⟨A, ca, rfl, -⟩ := hr1.slice
  obtain ⟨B, cb, rfl, -⟩ := hr2.slice
  have R1 := Lib.hid hr1.reads
  have R2 := Lib.hid hr2.reads
  have d0 := hc.get0
  have d1 := hc.get 1 rfl
  have d2 := hc.get 2 rfl
  have lg := hc.lt
  simp only [Nat.zero_add] at d1 d2
  clear hr1 hr2 hc
  go_enter Try.func96, Try.ntmps96
  go_wp2
  go_loopg [6, 4, 5] n (fun gn lv a b wr => outR w ys n gn lv a b wr)
  case atStart => exact ⟨0, rfl, Nat.zero_le _, by simp, ow0, Row.nil _ _ _ _ _, Row.nil _ _ _ _ _, Turn.refl _ _ _⟩
  case round =>
    obtain ⟨c, hgc, hcn, rfl, hacc⟩ := hrel
    have Hgc := Lib.hid hgc
    clear hgc
    by_cases hlt : c < n
    · have i0 : (1 : Int) ≤ (n : Int) - (c : Int) := by omega
      go_wp2
      obtain ⟨wo, hwo⟩ : ∃ wo : World, wo = wr := ⟨_, rfl⟩
      subst hwo
      go_loopg [7, 4, 5] ys.length (fun gn i a b wr => inR w ys n c gn i a b wr)
      case atStart => exact ⟨0, rfl, Nat.zero_le _, rfl, by simpa [atLv] using hacc⟩
      case round =>
        clear hacc
        obtain ⟨m, hgm, hm, rfl, OW, ha, hb, t⟩ := hrel
        have Hgm := Lib.hid hgm
        have bd := (t.new_ ow0 [1]).below
        have c1 := (bd.cell (p := ⟨g, 1, none⟩) lg).trans d1
        have c2 := (bd.cell (p := ⟨g, 2, none⟩) lg).trans d2
        clear hgm
        by_cases hlm : m < ys.length
        · obtain ⟨x, hx⟩ : ∃ x, ys[m]? = some x := ⟨_, List.getElem?_eq_getElem hlm⟩
          have j0 : (m : Int) < (ys.length : Int) := by omega
          obtain ⟨b8, off8, cap8, hv, -, hcell⟩ := R1.out.at (by omega)
          simp only [Value.slice.injEq] at hv
          obtain ⟨rfl, -, rfl⟩ := hv
          have e0 := hcell (m * 1 + 0) _ (css_at _ m x.1 (by rw [List.getElem?_map, hx]; rfl) 0 _ rfl (by omega))
          obtain ⟨b9, off9, cap9, hv, -, hcell2⟩ := R2.out.at (by omega)
          simp only [Value.slice.injEq] at hv
          obtain ⟨rfl, -, rfl⟩ := hv
          have e1 := hcell2 (m * 1 + 0) _ (css_at _ m x.2 (by rw [List.getElem?_map, hx]; rfl) 0 _ rfl (by omega))
          simp only [Nat.mul_one, Nat.add_zero] at e0 e1
          have l8 := World.block_lt_of_cell? w _ e0
          have l9 := World.block_lt_of_cell? w _ e1
          simp only at l8 l9
          have E1 := Lib.hid e1
          have e0 := (bd.cell (p := ⟨b8, off8 + m, none⟩) l8).trans e0
          clear e1
          have st := atLv_step ys ((n : Int) - (c : Int)) m x hx
          have le1 := atLv_le (ys.take m) ((n : Int) - (c : Int))
          have le2 := allTo_le ys n c
          have le3 : c * ys.length ≤ 32 * 1000000 := Nat.mul_le_mul (by omega) hn
          rw [List.length_take] at le1
          have hbd : (allTo ys n c ++ atLv (ys.take m) ((n : Int) - (c : Int))).length ≤ 64000000 := by rw [List.length_append]; omega
          have hst : allTo ys n c ++ atLv (ys.take (m + 1)) ((n : Int) - (c : Int)) = (allTo ys n c ++ atLv (ys.take m) ((n : Int) - (c : Int))) ++ if x.1 = (n : Int) - (c : Int) then [x] else [] := by rw [st, List.append_assoc]
          have Hst := Lib.hid hst
          clear hcell hcell2 hx st le1 le2 le3 hst
          generalize allTo ys n c ++ atLv (ys.take m) ((n : Int) - (c : Int)) = acc at *
          by_cases hl : x.1 = (n : Int) - (c : Int)
          · have b0 : (x.1 == (n : Int) - (c : Int)) = true := beq_iff_eq.2 hl
            have s2 := Hst.out
            rw [if_pos hl] at s2
            have S2 := Lib.hid s2
            have hl' := Lib.hid hl
            clear hl s2
            obtain ⟨Aa, caa, rfl, hca⟩ := ha.slice
            obtain ⟨Bb, cbb, rfl, hcb⟩ := hb.slice
            go_wp2_with (at_builtin; refine wpList_append_row rfl (.tmp 34) (.tmp 36) 22 22 rfl 3 _ 1 8 Try.underlying22 info rfl rfl (ha.alloc_ _) rfl ((Reads.new _ (cs ((n : Int) - (c : Int))) _ 1 1 (Nat.le_refl _)).src Try.underlying22 rfl (cs_one ((n : Int) - (c : Int)))) (by unfold maxLen; omega) (by omega) ?_)
            intro v' w1 ow1 hra ht
            obtain ⟨A1, c1', rfl, hnc1⟩ := hra.slice
            have tt := ((Turn.refl [1, 1] wr OW).alloc_ (.cells (cs ((n : Int) - (c : Int))).toArray 3)).trans ht
            have hb1 := hb.keep tt (by simp)
            have t1 := t.trans (tt.up (by simp))
            have bd1 := (t1.new_ ow0 [1]).below
            clear c1 c2 e0 ht tt hb t ha
            have c2 := (bd1.cell (p := ⟨g, 2, none⟩) lg).trans d2
            have e1 := (bd1.cell (p := ⟨b9, off9 + m, none⟩) l9).trans E1.out
            go_wp2_with (at_builtin; refine wpList_append_row rfl (.tmp 38) (.tmp 46) 22 22 rfl 3 _ 1 8 Try.underlying22 info rfl rfl (hb1.alloc_ _) rfl ((Reads.new _ (cs x.2) _ 1 1 (Nat.le_refl _)).src Try.underlying22 rfl (cs_one x.2)) (by unfold maxLen; omega) (by omega) ?_)
            intro v' w2 ow2 hrb ht
            obtain ⟨B1, d1', rfl, hnd1⟩ := hrb.slice
            have tt := ((Turn.refl [1, 2] w1 ow1).alloc_ (.cells (cs x.2).toArray 3)).trans ht
            have ha1 := hra.keep tt (by simp)
            have t2 := t1.trans (tt.up (by simp))
            rw [← css_snoc] at ha1 hrb
            go_wp2
            go_roundg (ys.length - (m + 1))
            case measure => have := Hgm.out; omega
            case rel => exact ⟨m + 1, rfl, by omega, by go_num, by
              rw [S2.out]
              refine ⟨ow2, ?_, ?_, t2⟩
              · rw [List.length_append, List.map_append, List.map_cons, List.map_nil, hl'.out]; exact ha1
              · rw [List.length_append, List.map_append]; exact hrb⟩
          · have b0 : (x.1 == (n : Int) - (c : Int)) = false := beq_eq_false_iff_ne.2 hl
            have s2 := Hst.out
            rw [if_neg hl, List.append_nil] at s2
            have S2 := Lib.hid s2
            clear hl s2
            go_wp2
            go_roundg (ys.length - (m + 1))
            case measure => have := Hgm.out; omega
            case rel => exact ⟨m + 1, rfl, by omega, by go_num, by rw [S2.out]; exact ⟨OW, ha, hb, t⟩⟩
        · obtain rfl : m = ys.length := by omega
          rw [List.take_length, ← allTo_succ] at ha hb
          go_wp2
          go_roundg (n - (c + 1))
          case measure => have := Hgc.out; omega
          case rel => exact ⟨c + 1, rfl, by omega, by go_num, OW, ha, hb, t⟩
    · obtain rfl : c = n := by omega
      obtain ⟨OW, ha, hb, t⟩ := hacc
      have bd := (t.new_ ow0 [1]).below
      go_wp2
      go_ret2
      exact ⟨_, _, rfl, ha.reads, hb.reads, bd⟩
end RL
end Go.Proofs.Ytppikbdeopagkaa
