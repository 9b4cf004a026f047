/-
  KEELREF7: the document's own queue, a list in memory: its functions' contracts, told by the same list of those that wait.
-/
import Derived.Test.YtnpcikghgfbfoaaQC
import Derived.Test.YtnpcikghgfbfoaaEWtS
namespace Go.Proofs.Ytnpcikghgfbfoaa
open Go Go.RowKit
namespace EQ
open EWt

/-- The document's queue in memory. -/
def RQ (w : World) (ow : Ow) (p : List Nat) (g : Nat) (l : List Wt) : Prop :=
  ∃ v, Cells w ow (p ++ [0]) g 0 [v] ∧ Row w ow (p ++ [1]) 27 3 v l.length (css l)
section
variable {w w1 : World} {ow ow1 : Ow} {p q : List Nat} {g : Nat} {l : List Wt}
theorem RQ.keep (h : RQ w ow p g l) (t : Turn q w ow w1 ow1) (hq : ∀ s, ¬ q <+: p ++ s) : RQ w1 ow1 p g l := by
  obtain ⟨v, h1, h2⟩ := h
  exact ⟨v, h1.keep t (hq _), h2.keep t (hq _)⟩
theorem RQ.new_ (h : RQ w ow p g l) (n : New w ow w1 ow1) : RQ w1 ow1 p g l := by
  obtain ⟨v, h1, h2⟩ := h
  exact ⟨v, h1.new_ n, h2.new_ n⟩
theorem RQ.at (h : RQ w ow p g l) : ∃ (A : Option Addr) (c : Nat), w.cell? ⟨g, 0, none⟩ = some (.slice A l.length c) ∧ g < w.heap.size ∧ l.length ≤ c ∧ Row w ow (p ++ [1]) 27 3 (.slice A l.length c) l.length (css l) ∧ Cells w ow (p ++ [0]) g 0 [.slice A l.length c] ∧
    (0 < l.length → ∃ b off, A = some ⟨b, off, none⟩ ∧ ∀ k x, l[k]? = some x → w.cell? ⟨b, off + k * 3, none⟩ = some (.int .i64 x.job) ∧ w.cell? ⟨b, off + k * 3 + 1, none⟩ = some (.int .i64 x.task) ∧ w.cell? ⟨b, off + k * 3 + 2, none⟩ = some (.int .i64 x.level)) := by
  obtain ⟨v, h1, h2⟩ := h
  obtain ⟨A, c, rfl, hc⟩ := h2.slice
  refine ⟨A, c, h1.get0, h1.lt, hc, h2, h1, fun h0 => ?_⟩
  obtain ⟨b, off, cap, hv, -⟩ := h2.at h0
  simp only [Value.slice.injEq] at hv
  obtain ⟨rfl, -, rfl⟩ := hv
  obtain ⟨-, -, -, hcell⟩ := h2.open_
  refine ⟨b, off, rfl, fun k x hx => ?_⟩
  have e0 := hcell (k * 3 + 0) _ (css_at _ k x hx 0 _ rfl (by omega))
  have e1 := hcell (k * 3 + 1) _ (css_at _ k x hx 1 _ rfl (by omega))
  have e2 := hcell (k * 3 + 2) _ (css_at _ k x hx 2 _ rfl (by omega))
  simp only [Nat.add_zero, ← Nat.add_assoc] at e0 e1 e2
  exact ⟨e0, e1, e2⟩
end

theorem cnt_take (l : List Wt) (t : Int) (m : Nat) (x : Wt) (h : l[m]? = some x) : cnt (l.take (m + 1)) t = cnt (l.take m) t + if x.task = t then 1 else 0 := by
  rw [List.take_add_one, h, cnt_append]
  show _ + cnt [x] t = _
  rw [cnt_one]
theorem cnt_le (l : List Wt) (t : Int) : cnt l t ≤ l.length := List.length_filter_le _ _

set_option maxHeartbeats 1000000 in
theorem r_active (w : World) (ow : Ow) (p : List Nat) (g : Nat) (l : List Wt) (h : RQ w ow p g l) (hl : l.length ≤ 512) (t : Int) :
    Calls Try.prog 19 #[.pointer (some ⟨g, 0, none⟩), .int .i64 t] w fun e w' => e = .returned (.int .i64 (cnt l t : Int)) ∧ ∃ k, w' = w.drewN k := by
  obtain ⟨A, c, c0, lg, hc, -, -, hat⟩ := h.at
  have Hat := Lib.hid hat
  clear hat h
  go_enter Try.func19, Try.ntmps19
  go_wp2
  go_loopw [5, 6] (fun n i wr => ∃ m : Nat, m ≤ l.length ∧ i = .int .i64 m ∧ n = .int .i64 (cnt (l.take m) t : Nat) ∧ ∃ k, wr = w.drewN k) (fun _ i _ => l.length - (intOf i).toNat)
  case atStart => exact ⟨0, Nat.zero_le _, rfl, rfl, 0, rfl⟩
  case round =>
    obtain ⟨m, hm, rfl, rfl, k, rfl⟩ := hrel
    by_cases hlt : m < l.length
    · obtain ⟨x, hx⟩ : ∃ x, l[m]? = some x := ⟨_, List.getElem?_eq_getElem hlt⟩
      obtain ⟨b, off, rfl, hcell⟩ := Hat.out (by omega)
      obtain ⟨e0, e1, e2⟩ := hcell m x hx
      have i0 : (m : Int) < (l.length : Int) := by omega
      have Ht := Lib.hid (cnt_take l t m x hx)
      have hb := cnt_le (l.take m) t
      rw [List.length_take] at hb
      clear hcell hx
      by_cases ht : x.task = t
      · have hb1 : (x.task == t) = true := beq_iff_eq.2 ht
        have Ht' := Lib.hid ht
        clear ht
        go_wp2
        refine ⟨⟨m + 1, by omega, by go_num, ?_, _, rfl⟩, by simp only [intOf]; omega⟩
        rw [Ht.out, if_pos Ht'.out]; go_num
      · have hb1 : (x.task == t) = false := beq_eq_false_iff_ne.2 ht
        have Ht' := Lib.hid ht
        clear ht
        go_wp2
        refine ⟨⟨m + 1, by omega, by go_num, ?_, _, rfl⟩, by simp only [intOf]; omega⟩
        rw [Ht.out, if_neg Ht'.out]; rfl
    · obtain rfl : m = l.length := by omega
      go_wp2
      go_ret
      exact ⟨by rw [List.take_length]; rfl, _, rfl⟩

def nxI : Option Nat → Int
  | none => -1
  | some k => (k : Int)
theorem lvAt_of (l : List Wt) (k : Nat) (x : Wt) (h : l[k]? = some x) : lvAt l k = x.level := by simp [lvAt, h]

set_option maxHeartbeats 1000000 in
theorem r_next (w : World) (ow : Ow) (p : List Nat) (g : Nat) (l : List Wt) (h : RQ w ow p g l) (hl : l.length ≤ 512) :
    Calls Try.prog 32 #[.pointer (some ⟨g, 0, none⟩)] w fun e w' => e = .returned (.int .i64 (nxI (first l))) ∧ ∃ k, w' = w.drewN k := by
  obtain ⟨A, c, c0, lg, hc, -, -, hat⟩ := h.at
  have Hat := Lib.hid hat
  clear hat h
  go_enter Try.func32, Try.ntmps32
  go_wp2
  go_loopw [3, 4] (fun n i wr => ∃ m : Nat, m ≤ l.length ∧ i = .int .i64 m ∧ n = .int .i64 (nxI (nx l m)) ∧ ∃ k, wr = w.drewN k) (fun _ i _ => l.length - (intOf i).toNat)
  case atStart => exact ⟨0, Nat.zero_le _, rfl, rfl, 0, rfl⟩
  case round =>
    obtain ⟨m, hm, rfl, rfl, k, rfl⟩ := hrel
    by_cases hlt : m < l.length
    · obtain ⟨x, hx⟩ : ∃ x, l[m]? = some x := ⟨_, List.getElem?_eq_getElem hlt⟩
      obtain ⟨b, off, rfl, hcell⟩ := Hat.out (by omega)
      obtain ⟨e0, e1, e2⟩ := hcell m x hx
      have i0 : (m : Int) < (l.length : Int) := by omega
      have hvx := lvAt_of l m x hx
      cases hn : nx l m with
      | none =>
        have Hs := Lib.hid (show nx l (m + 1) = some m by unfold nx; rw [hn])
        clear hcell hx hvx hn e0 e1
        simp only [nxI]
        go_wp2
        go_quiet (fail)
        go_wp2
        exact ⟨⟨m + 1, by omega, rfl, by rw [Hs.out] <;> rfl, _, rfl⟩, by simp only [intOf]; omega⟩
      | some j =>
        obtain ⟨hj, -, -⟩ := nx_some l m j hn
        obtain ⟨y, hy⟩ : ∃ y, l[j]? = some y := ⟨_, List.getElem?_eq_getElem (by omega)⟩
        obtain ⟨d0, d1, d2⟩ := hcell j y hy
        have hvy := lvAt_of l j y hy
        have j0 : (j : Int) < (l.length : Int) := by omega
        have j1 : ¬ (j : Int) < 0 := by omega
        have j2 : decide ((j : Int) < 0) = false := decide_eq_false j1
        by_cases hlv : y.level < x.level
        · have Hs := Lib.hid (show nx l (m + 1) = some m by unfold nx; rw [hn]; simp only [hvx, hvy, hlv, if_true])
          have hb1 : decide (y.level < x.level) = true := decide_eq_true hlv
          clear hcell hx hvx hvy hn hy e0 e1 d0 d1
          simp only [nxI]
          go_wp2
          go_quiet (fail)
          go_wp2
          exact ⟨⟨m + 1, by omega, rfl, by rw [Hs.out] <;> rfl, _, rfl⟩, by simp only [intOf]; omega⟩
        · have Hs := Lib.hid (show nx l (m + 1) = some j by unfold nx; rw [hn]; simp only [hvx, hvy, hlv, if_false])
          have hb1 : decide (y.level < x.level) = false := decide_eq_false hlv
          clear hcell hx hvx hvy hn hy e0 e1 d0 d1
          simp only [nxI]
          go_wp2
          go_quiet (fail)
          go_wp2
          exact ⟨⟨m + 1, by omega, rfl, by rw [Hs.out] <;> rfl, _, rfl⟩, by simp only [intOf]; omega⟩
    · obtain rfl : m = l.length := by omega
      go_wp2
      go_ret
      exact ⟨rfl, _, rfl⟩

set_option maxHeartbeats 1000000 in
theorem r_Next (w : World) (ow : Ow) (p : List Nat) (g : Nat) (l : List Wt) (h : RQ w ow p g l) (hl : l.length ≤ 512) :
    Calls Try.prog 18 #[.pointer (some ⟨g, 0, none⟩)] w (Asked w (firstV l)) := by
  have hcall := fun W (hW : Below w.heap.size w W) => r_next W ow p g l (h.new_ (hW.nw ow)) hl
  obtain ⟨A, c, c0, lg, hc, -, -, hat⟩ := h.at
  cases hf : first l with
  | none =>
    rw [hf] at hcall
    have Hcall := Lib.hid hcall
    have hv : firstV l = .tuple #[.agg #[.int .i64 0, .int .i64 0, .int .i64 0], .bool false] := by simp [firstV, hf, wt]
    rw [hv]
    clear hat h hcall hf hv
    go_enter Try.func18, Try.ntmps18
    go_wp2_with fail
    refine (Hcall.out _ (by repeat (first | (with_reducible assumption) | (with_reducible exact Below.refl _ _) | (with_reducible refine Below.drew ?_) | (with_reducible refine bdN ?_ _) | ((with_reducible refine bdS ?_ ?_ _); · first | (simp; done) | omega | (simp; omega)) | ((with_reducible refine bdA ?_ ?_ _); · first | (simp; done) | omega | (simp; omega))))).mono ?_
    rintro e w1 ⟨rfl, k, rfl⟩
    simp only [nxI]
    go_wp2
    refine bodyPost_ret (v := .tuple #[.agg #[.int .i64 0, .int .i64 0, .int .i64 0], .bool false]) (by simp [results, Try.results18, go_sem]) rfl ⟨rfl, ?_⟩
    repeat (first | (with_reducible assumption) | (with_reducible exact Below.refl _ _) | (with_reducible refine Below.drew ?_) | (with_reducible refine bdN ?_ _) | ((with_reducible refine bdS ?_ ?_ _); · first | (simp; done) | omega | (simp; omega)) | ((with_reducible refine bdA ?_ ?_ _); · first | (simp; done) | omega | (simp; omega)))
  | some j =>
    rw [hf] at hcall
    have Hcall := Lib.hid hcall
    obtain ⟨hj, -, -⟩ := nx_some l l.length j hf
    obtain ⟨y, hy⟩ : ∃ y, l[j]? = some y := ⟨_, List.getElem?_eq_getElem (by omega)⟩
    obtain ⟨b, off, rfl, hcell⟩ := hat (by omega)
    obtain ⟨d0, d1, d2⟩ := hcell j y hy
    have j0 : (j : Int) < (l.length : Int) := by omega
    have j1 : ¬ (j : Int) < 0 := by omega
    have lb := World.block_lt_of_cell? w _ d0
    simp only at lb
    have hv : firstV l = .tuple #[.agg #[.int .i64 y.job, .int .i64 y.task, .int .i64 y.level], .bool true] := by simp [firstV, hf, hy, wt]
    rw [hv]
    clear hat h hcall hf hv hcell hy
    go_enter Try.func18, Try.ntmps18
    go_wp2_with fail
    refine (Hcall.out _ (by repeat (first | (with_reducible assumption) | (with_reducible exact Below.refl _ _) | (with_reducible refine Below.drew ?_) | (with_reducible refine bdN ?_ _) | ((with_reducible refine bdS ?_ ?_ _); · first | (simp; done) | omega | (simp; omega)) | ((with_reducible refine bdA ?_ ?_ _); · first | (simp; done) | omega | (simp; omega))))).mono ?_
    rintro e w1 ⟨rfl, k, rfl⟩
    simp only [nxI]
    go_wp2
    refine bodyPost_ret (v := .tuple #[.agg #[.int .i64 y.job, .int .i64 y.task, .int .i64 y.level], .bool true]) (by simp [results, Try.results18, go_sem]) rfl ⟨rfl, ?_⟩
    repeat (first | (with_reducible assumption) | (with_reducible exact Below.refl _ _) | (with_reducible refine Below.drew ?_) | (with_reducible refine bdN ?_ _) | ((with_reducible refine bdS ?_ ?_ _); · first | (simp; done) | omega | (simp; omega)) | ((with_reducible refine bdA ?_ ?_ _); · first | (simp; done) | omega | (simp; omega)))

/-- What a call that may turn the document's queue leaves. -/
def LeftR (w : World) (ow : Ow) (p : List Nat) (g : Nat) (v : Value) (l : List Wt) (e : Ending) (w' : World) : Prop :=
  ∃ ow', e = .returned v ∧ RQ w' ow' p g l ∧ Turn p w ow w' ow'

set_option maxHeartbeats 1000000 in
theorem r_put (w : World) (ow : Ow) (p : List Nat) (g : Nat) (l : List Wt) (h : RQ w ow p g l) (hl : l.length ≤ 512) (t lv j : Int) :
    Calls Try.prog 16 #[.pointer (some ⟨g, 0, none⟩), .int .i64 t, .int .i64 lv, .int .i64 j] w (LeftR w ow p g (.int .i64 (putA l t lv j).1) (putA l t lv j).2) := by
  have hcall := fun W (hW : Below w.heap.size w W) => r_active W ow p g l (h.new_ (hW.nw ow)) hl t
  have Hcall := Lib.hid hcall
  have H := Lib.hid h
  clear hcall h
  unfold putA
  by_cases h1 : t < 0 ∨ 64 ≤ t ∨ lv < 1 ∨ 32 < lv ∨ j < 0
  · rw [if_pos h1]
    go_enter Try.func16, Try.ntmps16
    by_cases k0 : t < 0
    · go_wp2
      go_ret
      exact ⟨ow, rfl, H.out, Turn.refl _ _ _⟩
    by_cases k1 : 63 < t
    · go_wp2
      go_ret
      exact ⟨ow, rfl, H.out, Turn.refl _ _ _⟩
    by_cases k2 : lv < 1
    · go_wp2
      go_ret
      exact ⟨ow, rfl, H.out, Turn.refl _ _ _⟩
    by_cases k3 : 32 < lv
    · go_wp2
      go_ret
      exact ⟨ow, rfl, H.out, Turn.refl _ _ _⟩
    have k4 : j < 0 := by omega
    go_wp2
    go_ret
    exact ⟨ow, rfl, H.out, Turn.refl _ _ _⟩
  · rw [if_neg h1]
    have k0 : ¬ t < 0 := by omega
    have k1 : ¬ 63 < t := by omega
    have k2 : ¬ lv < 1 := by omega
    have k3 : ¬ 32 < lv := by omega
    have k4 : ¬ j < 0 := by omega
    clear h1
    by_cases h8 : 8 ≤ cnt l t
    · rw [if_pos h8]
      have h8' : (8 : Int) ≤ (cnt l t : Int) := by omega
      clear h8
      go_enter Try.func16, Try.ntmps16
      go_wp2_with fail
      refine (Hcall.out _ (by repeat (first | (with_reducible assumption) | (with_reducible exact Below.refl _ _) | (with_reducible refine Below.drew ?_) | (with_reducible refine bdN ?_ _) | ((with_reducible refine bdS ?_ ?_ _); · first | (simp; done) | omega | (simp; omega)) | ((with_reducible refine bdA ?_ ?_ _); · first | (simp; done) | omega | (simp; omega))))).mono ?_
      rintro e w1 ⟨rfl, k, rfl⟩
      go_wp2
      go_ret
      exact ⟨ow, rfl, (H.out).new_ ((drewN_below w k).nw ow), (Turn.refl _ _ _).drewN k⟩
    · rw [if_neg h8]
      have h8' : ¬ (8 : Int) ≤ (cnt l t : Int) := by omega
      clear h8
      go_enter Try.func16, Try.ntmps16
      go_wp2_with fail
      refine (Hcall.out _ (by repeat (first | (with_reducible assumption) | (with_reducible exact Below.refl _ _) | (with_reducible refine Below.drew ?_) | (with_reducible refine bdN ?_ _) | ((with_reducible refine bdS ?_ ?_ _); · first | (simp; done) | omega | (simp; omega)) | ((with_reducible refine bdA ?_ ?_ _); · first | (simp; done) | omega | (simp; omega))))).mono ?_
      rintro e w1 ⟨rfl, k, rfl⟩
      have h1 := (H.out).new_ ((drewN_below w k).nw ow)
      have t1 := (Turn.refl p w ow).drewN k
      generalize w.drewN k = w1 at *
      obtain ⟨A, c, c0, lg, hc, hr, hce, -⟩ := h1.at
      clear Hcall H
      go_wp2_with (at_builtin; refine wpList_append_row rfl (.tmp 35) (.tmp 40) 30 30 rfl 27 _ 3 24 Try.underlying30 info rfl rfl (hr.alloc_ _) rfl ((Reads.new _ (cs ⟨j, t, lv⟩) _ 1 1 (Nat.le_refl _)).src Try.underlying30 rfl (cs_one _)) (by unfold maxLen; omega) (by omega) ?_)
      intro v2 w2 ow2 hr2 t2
      obtain ⟨A2, c2, rfl, -⟩ := hr2.slice
      have t2' := ((Turn.refl (p ++ [1]) w1 ow).alloc_ (Obj.cells (cs ⟨j, t, lv⟩).toArray 27)).trans t2
      have hc2 := hce.keep t2' (by simp)
      have c0 := hc2.get0
      have f0 := hc2.free 0
      have lg := hc2.lt
      have tb := hc2.turn 0 (.slice A2 (l.length + 1) c2) (by simp)
      go_wp2
      go_ret
      refine ⟨ow2, rfl, ⟨_, hc2.set0 _, ?_⟩, (t1.trans (t2'.up (by simp))).trans (tb.up (by simp))⟩
      rw [css_snoc, List.length_append]
      exact hr2.keep tb (by simp)

end EQ
end Go.Proofs.Ytnpcikghgfbfoaa
