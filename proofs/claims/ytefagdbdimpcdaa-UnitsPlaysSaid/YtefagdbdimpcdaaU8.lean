/-
  UNITS.TABLE: Holders.
-/
import Derived.Test.YtefagdbdimpcdaaU7
import Derived.Test.YtefagdbdimpcdaaTIHI
import Derived.Test.YtefagdbdimpcdaaPre
import Derived.Test.YtefagdbdimpcdaaFn
import Derived.Shelf.Abstract
set_option linter.unusedVariables false
set_option linter.unusedSimpArgs false
namespace Go.Proofs.Ytefagdbdimpcdaa
open Go Go.RowKit
attribute [local go_sem] Oper.semAt_some
theorem Row_cut {w : World} {ow : Ow} {p : List Nat} {T sz n cap : Nat} {A : Option Addr} {cs : List Value} (h : Row w ow p T sz (.slice A n cap) n cs) : Row w ow p T sz (.slice A n n) n cs := by
  refine ⟨h.1, ?_⟩
  rcases h.2 with ⟨hv, h0⟩ | ⟨g, off, cap', c, hv, hg, ho, hn, hm, hs, hc⟩
  · simp only [Value.slice.injEq] at hv
    exact .inl ⟨by rw [hv.1, h0], h0⟩
  · simp only [Value.slice.injEq] at hv
    obtain ⟨rfl, -, rfl⟩ := hv
    exact .inr ⟨g, off, n, c, rfl, hg, ho, Nat.le_refl _, by omega, Nat.le_trans (Nat.add_le_add_left (Nat.mul_le_mul_right _ hn) _) hs, hc⟩
theorem TIH.TbP.pre {w : World} {ow : Ow} {p : List Nat} {g o : Nat} {rows : List TIH.R} (h : TIH.TbP w ow p g o rows) : TIH.TbP w (Go.Proofs.Ytefagdbdimpcdaa.pre ow) (0 :: p) g o rows := by
  obtain ⟨v, hc, hr⟩ := h
  exact ⟨v, hc.pre, hr.pre⟩
theorem ELk.St.pre {w : World} {ow : Ow} {p : List Nat} {g o : Nat} {xs : List Lk} (h : ELk.St w ow p g o xs) : ELk.St w (Go.Proofs.Ytefagdbdimpcdaa.pre ow) (0 :: p) g o xs := by
  obtain ⟨v, hc, hr⟩ := h
  exact ⟨v, hc.pre, hr.pre⟩
namespace UN
theorem UTr.pre {w : World} {ow : Ow} {p : List Nat} {g : Nat} {U C : List Int} {T : List Tk} {rows : List (Int × Nat)} (h : UTr w ow p g U C T rows) : UTr w (Go.Proofs.Ytefagdbdimpcdaa.pre ow) (0 :: p) g U C T rows := by
  obtain ⟨hi, ⟨vu, vf, vc, h1, h2, h3, h4⟩, h5, h6, h7, h8, h9⟩ := h
  exact ⟨hi, ⟨vu, vf, vc, h1.pre, h2.pre, h3.pre, h4.pre⟩, h5.pre, h6, h7, h8, fun r hr => ⟨(h9 r hr).1.pre, (h9 r hr).2.pre⟩⟩

/-- Who holds some units, rising. -/
def IsH (T : List Tk) (res : Int) (hs : List Hd) : Prop := hs.Pairwise (fun a b => a.job < b.job) ∧ ∀ h, h ∈ hs ↔ h.n = heldT T h.job res ∧ 0 < h.n
def hsOf (T : List Tk) (res : Int) (rows : List (Int × Nat)) : List Hd := rows.filterMap fun x => if 0 < heldT T x.1 res then some ⟨x.1, heldT T x.1 res⟩ else none
theorem hsOf_snoc (T : List Tk) (res : Int) (rows : List (Int × Nat)) (k : Nat) (x : Int × Nat) (hx : rows[k]? = some x) : hsOf T res (rows.take (k + 1)) = hsOf T res (rows.take k) ++ if 0 < heldT T x.1 res then [⟨x.1, heldT T x.1 res⟩] else [] := by
  unfold hsOf
  rw [List.take_add_one, hx, List.filterMap_append]
  congr 1
  simp only [Option.toList, List.filterMap_cons, List.filterMap_nil]
  split <;> simp_all
theorem hsOf_le (T : List Tk) (res : Int) (rows : List (Int × Nat)) : (hsOf T res rows).length ≤ rows.length := List.length_filterMap_le _ _
theorem hsOf_is {T : List Tk} {rows : List (Int × Nat)} (h6 : TIH.Rise rows) (h8 : ∀ j, TIH.has rows j = true ↔ locksOf T j ≠ []) (res : Int) : IsH T res (hsOf T res rows) := by
  constructor
  · unfold hsOf
    rw [List.pairwise_filterMap]
    refine h6.imp ?_
    intro a b hab x hx y hy
    split at hx
    · split at hy
      · simp at hx hy; subst hx; subst hy; exact hab
      · simp at hy
    · simp at hx
  · intro h
    unfold hsOf
    rw [List.mem_filterMap]
    constructor
    · rintro ⟨x, hx, hh⟩
      split at hh
      · rename_i hp
        obtain rfl := Option.some.inj hh
        exact ⟨rfl, hp⟩
      · simp at hh
    · rintro ⟨h1, h2⟩
      have hn : locksOf T h.job ≠ [] := fun e => by
        have : heldT T h.job res = 0 := by unfold heldT; rw [e]; rfl
        omega
      obtain ⟨x, hx, hk⟩ := (TIH.has_iff rows h6 h.job).1 ((h8 h.job).2 hn)
      refine ⟨x, hx, ?_⟩
      rw [hk, ← h1, if_pos h2]
theorem IsH.uniq {T : List Tk} {res : Int} : ∀ {a b : List Hd}, a.Pairwise (fun a b => a.job < b.job) → b.Pairwise (fun a b => a.job < b.job) → (∀ h, h ∈ a ↔ h ∈ b) → a = b
  | [], [], _, _, _ => rfl
  | [], y :: b, _, _, h => by have := (h y).2 List.mem_cons_self; cases this
  | x :: a, [], _, _, h => by have := (h x).1 List.mem_cons_self; cases this
  | x :: a, y :: b, ha, hb, h => by
    obtain ⟨ha1, ha2⟩ := List.pairwise_cons.1 ha
    obtain ⟨hb1, hb2⟩ := List.pairwise_cons.1 hb
    have hxy : x = y := by
      rcases List.mem_cons.1 ((h x).1 List.mem_cons_self) with e | hx
      · exact e
      · rcases List.mem_cons.1 ((h y).2 List.mem_cons_self) with e | hy
        · exact e.symm
        · have h1 := hb1 x hx
          have h2 := ha1 y hy
          omega
    subst hxy
    rw [IsH.uniq (T := T) (res := res) ha2 hb2 fun z => ⟨fun hz => by
      rcases List.mem_cons.1 ((h z).1 (List.mem_cons_of_mem _ hz)) with rfl | hz2
      · exact absurd (ha1 z hz) (Int.lt_irrefl _)
      · exact hz2, fun hz => by
      rcases List.mem_cons.1 ((h z).2 (List.mem_cons_of_mem _ hz)) with rfl | hz2
      · exact absurd (hb1 z hz) (Int.lt_irrefl _)
      · exact hz2⟩]
theorem IsH.same {T : List Tk} {res : Int} {a b : List Hd} (ha : IsH T res a) (hb : IsH T res b) : a = b := IsH.uniq (T := T) (res := res) ha.1 hb.1 fun h => (ha.2 h).trans (hb.2 h).symm

theorem heldL_zero {r : Int} : ∀ {ls : List Lk}, (∀ l ∈ ls, l.res ≠ r) → heldL ls r = 0
  | [], _ => rfl
  | l :: ls, h => by rw [heldL_cons, if_neg (h l List.mem_cons_self), heldL_zero fun x hx => h x (List.mem_cons_of_mem _ hx)]; rfl
theorem heldT_unknown {U C : List Int} {T : List Tk} (hi : Inv U C T) {res : Int} (hk : known U res = false) (job : Int) : heldT T job res = 0 :=
  heldL_zero fun l hl e => by
    have := locks_mem hi hl
    exact known_no hk (by omega)
set_option maxHeartbeats 1000000 in
theorem clip (w : World) (A : Option Addr) (n c : Nat) (hnc : n ≤ c) (hA : A = none → c = 0) : Calls Try.prog 53 #[.slice A n c] w fun e w' => e = .returned (.slice A n n) ∧ ∃ k, w' = w.drewN k := by
  cases A with
  | none =>
    obtain rfl := hA rfl
    obtain rfl : n = 0 := by omega
    go_enter Try.func53, Try.ntmps53
    go_wp2
    go_ret
    exact ⟨rfl, 0, rfl⟩
  | some a =>
    have h1 : (n : Int) ≤ (c : Int) := by omega
    have h2 : ¬ (c : Int) < (n : Int) := by omega
    go_enter Try.func53, Try.ntmps53
    go_wp2
    go_ret
    exact ⟨rfl, 0, rfl⟩

/-- What the range keeps. -/
def holI (w : World) (ow : Ow) (P R r : Nat) (T : List Tk) (rows : List (Int × Nat)) (k : Nat) (W : World) (OW : Ow) : Prop :=
  ∃ v, Cells W OW [1, 1, 1] R 0 [v] ∧ Row W OW [1, 1, 2] 31 2 v (hsOf T r (rows.take k)).length (EHd.css (hsOf T r (rows.take k))) ∧ Turn [1] w (pre ow) W OW ∧ Cells W OW [1, 1, 4] P 0 [.int .i64 (r : Int)]
theorem holI.keep (w : World) (ow : Ow) (P R r : Nat) (T : List Tk) (rows : List (Int × Nat)) (k : Nat) (q : List Nat) (h1 : ¬ q <+: [1, 1, 1]) (h2 : ¬ q <+: [1, 1, 2]) (h3 : [1] <+: q) (h4 : ¬ q <+: [1, 1, 4]) : Stab q (holI w ow P R r T rows k) := by
  rintro W OW W' OW' ⟨v, c, rr, t, d⟩ tt
  exact ⟨v, c.keep tt h1, rr.keep tt h2, t.trans (tt.up h3), d.keep tt h4⟩
/-- The two blocks that are laid first. -/
def twoH (w : World) (ow : Ow) (res : Int) (W : World) : Prop := ∃ OW : Ow, Cells W OW [1, 1, 4] w.heap.size 0 [.int .i64 res] ∧ Cells W OW [1, 1, 1] (w.heap.size + 1) 0 [.slice none 0 0] ∧ Turn [1] w (pre ow) W OW
theorem two_h (w : World) (ow : Ow) (res : Int) (a b : TypeId) : twoH w ow res ((w.alloc (.cells #[.int .i64 res] a)).alloc (.cells #[.slice none 0 0] b)) := by
  obtain ⟨o0, c0, n0, z0⟩ := SH.add_cells w (pre ow) [1, 1, 4] [.int .i64 res] a
  generalize w.alloc (.cells #[.int .i64 res] a) = w0 at *
  obtain ⟨o1, c1, n1, z1⟩ := SH.add_cells w0 o0 [1, 1, 1] [.slice none 0 0] b
  generalize w0.alloc (.cells #[.slice none 0 0] b) = w1 at *
  rw [z0] at c1
  exact ⟨o1, c0.new_ n1, c1, (n0.turn [1]).trans (n1.turn [1])⟩

/-- What Holders leaves. -/
def HolP (w : World) (ow : Ow) (q : List Nat) (T : List Tk) (res : Int) (e : Ending) (w' : World) : Prop :=
  ∃ (v : Value) (ow' : Ow) (hs : List Hd), e = .returned v ∧ IsH T res hs ∧ hs.length ≤ 4080 ∧ Row w' ow' q 31 2 v hs.length (EHd.css hs) ∧ New w ow w' ow' ∧ Fresh w.heap.size v

set_option maxRecDepth 100000 in
set_option maxHeartbeats 4000000 in
theorem holders (w : World) (ow : Ow) (p q : List Nat) (g : Nat) (U C : List Int) (T : List Tk) (h : UT w ow p g U C T) (res : Int) :
    Calls Try.prog 16 #[.pointer (some ⟨g, 0, none⟩), .int .i64 res] w (HolP w ow q T res) := by
  obtain ⟨rows, h⟩ := h
  have hp := h.pre
  have hhas := fun W OW (ht : Turn [1] w (pre ow) W OW) => has W OW (0 :: p) g U C T rows (hp.keep ht (by simp)) res
  change ∀ W OW, _ → Calls _ _ _ _ fun e w' => e = .returned (.bool (known U res)) ∧ _ at hhas
  have Hhas := Lib.hid hhas
  have HP := Lib.hid hp
  have hil := h.1
  have hlen := h.len
  have h6 := h.2.2.2.1
  have h8 := h.2.2.2.2.2.1
  clear hhas hp h
  refine calls_marks (fn := Try.f16) Try.func16 rfl ?_
  simp only [Try.ntmps16, List.size_toArray, List.length_cons, List.length_nil, Nat.reduceAdd, Nat.reduceSub, Array.replicate_succ, Array.replicate_zero, List.push_toArray, List.append_toArray, List.nil_append, List.cons_append]
  cases hk : known U res with
  | false =>
    have his : IsH T res [] := by
      refine ⟨List.Pairwise.nil, fun h => ⟨fun hh => ?_, fun h12 => ?_⟩⟩
      · cases hh
      · have := heldT_unknown hil hk h.job
        have := h12.1
        have := h12.2
        omega
    have Hk := Lib.hid hk
    have His := Lib.hid his
    clear hk his
    go_wp2_with fail
    refine SH.gen_calls (twoH w ow res) (two_h w ow res _ _) ?_
    rintro w1 ⟨ow1, c1, c2, t⟩
    generalize hg1 : w.heap.size + 1 = R at *
    generalize hg0 : w.heap.size = Pb at *
    have hcall := Hhas.out w1 ow1 t
    rw [Hk.out] at hcall
    refine hcall.mono ?_
    rintro e w2 ⟨rfl, k, hw'⟩
    have n1 : New w1 ow1 w2 ow1 := by rw [hw']; exact (New.refl _ _).drewN k
    have e2 := (c2.new_ n1).get0
    have tt := t.trans (n1.turn [1])
    clear hcall hw' c1 c2 t n1
    subst hg0
    go_wp2
    refine bodyM_ret (ok := fun _ => False) (OW := ow1) [1, 1, 0] (fun x hx => hx.elim) trivial fun W' t' => ⟨_, results_tmp rfl _ _ _, ?_⟩
    refine ⟨.slice none 0 0, _, [], rfl, His.out, Nat.zero_le _, Row.nil _ _ _ _ _, (tt.trans (t'.up (by simp))).allP q, fun k hk => by simp [Value.ownBlock] at hk⟩
  | true =>
    obtain ⟨r, rfl, hr, -⟩ := known_yes hk
    have hr16 : r < 16 := by have := hil.ul; omega
    have Hk := Lib.hid hk
    have H8 := Lib.hid h8
    have H6 := Lib.hid h6
    clear hk h8 h6
    go_wp2_with fail
    refine SH.gen_calls (twoH w ow r) (two_h w ow r _ _) ?_
    rintro w1 ⟨ow1, c1, c2, t⟩
    generalize hg1 : w.heap.size + 1 = R at *
    generalize hg0 : w.heap.size = Pb at *
    clear hg1
    subst hg0
    have hcall := Hhas.out w1 ow1 t
    rw [Hk.out] at hcall
    have e1 := c1.get0
    refine hcall.mono ?_
    rintro e w2 ⟨rfl, k, hw'⟩
    have n1 : New w1 ow1 w2 ow1 := by rw [hw']; exact (New.refl _ _).drewN k
    replace c1 := c1.new_ n1
    replace c2 := c2.new_ n1
    replace t := t.trans (n1.turn [1])
    clear hcall hw' n1 Hhas e1
    have hN := HP.out.keep t (by simp)
    go_wp2_with fail
    refine (TIH.t_all w2 g 3).mono ?_
    rintro e w3 ⟨rfl, hw3⟩
    obtain ⟨ow3, cC, nn, -⟩ := SH.add_cells w2 ow1 [1, 2] [.pointer (some ⟨g, 3, none⟩)] 121
    rw [← hw3] at cC nn
    clear hw3
    generalize w2.heap.size = B at *
    replace c1 := c1.new_ nn
    replace c2 := c2.new_ nn
    replace t := t.trans (nn.turn [1])
    have hT := hN.2.2.1.new_ nn
    clear nn hN
    go_wp2
    refine wp_range (gf := 77) (lb := #[.pointer (some ⟨B, 0, none⟩)]) rfl (enters_of Try.func77 (by kernel_rfl) rfl) (TIH.targs rows) [1, 0] [1, 1] [1, 1, 0] w3 ow3
      (TIH.t_iter w3 ow3 (0 :: p ++ [4]) [1, 2] [1, 0] [1, 1] g 3 B rows hT (by omega) cC (by simp) (by simp) (by simp) (by simp)) (Turn.refl _ _ _) (by simp) (by simp) ?_
      (holI w ow w.heap.size R r T rows) (fun _ _ _ _ => False) ?_ ?_ ?_ ?_ ?_ ?_ ?_ ?_
    · intro i args hi
      obtain ⟨x, -, rfl⟩ := TIH.targs_at rows i args hi
      rfl
    · exact fun j => holI.keep _ _ _ _ _ _ _ _ _ (by simp) (by simp) (by simp) (by simp)
    · intro c j W1 OW1 W2 OW2 hf; exact hf.elim
    · exact fun j => holI.keep _ _ _ _ _ _ _ _ _ (by simp) (by simp) (by simp) (by simp)
    · intro c j W1 OW1 W2 OW2 hf; exact hf.elim
    · exact ⟨_, c2, Row.nil w3 ow3 [1, 1, 2] 31 2, t, c1⟩
    · intro l' D j rr rb args W4 OW4 hxj hI hBk
      clear c1 c2 t hT cC
      obtain ⟨v, d1, d2, d3, d4⟩ := hI
      obtain ⟨y, hy, rfl⟩ := TIH.targs_at rows j args hxj
      rw [foldl2]
      simp only [List.setIfInBounds_toArray, List.set_cons_succ, List.set_cons_zero]
      gi_wp2
      refine ⟨OW4, Turn.refl _ _ _, hBk, fun W5 ht5 hBk5 => ?_⟩
      replace d1 := d1.keep ht5 (by simp)
      replace d2 := d2.keep ht5 (by simp)
      replace d3 := d3.trans (ht5.up (by simp))
      replace d4 := d4.keep ht5 (by simp)
      have hjx : j < rows.length := (List.getElem?_eq_some_iff.1 hy).1
      have hH := ((HP.out.keep d3 (by simp)).2.2.2.2.2.2 y (List.mem_of_getElem? hy)).2
      have eH := hH.get r (h16_at _ r hr16)
      have hsn := hsOf_snoc T r rows j y hy
      have hle := hsOf_le T r (rows.take j)
      rw [List.length_take] at hle
      have e4 := d4.get0
      have i16 : (r : Int) < 16 := by omega
      obtain ⟨job, G⟩ := y
      simp only at eH hsn
      change W5.cell? ⟨G, 1 + r, none⟩ = some (.int .i64 (heldT T job r)) at eH
      generalize heldT T job r = hv at *
      clear hy hH hxj ht5 hBk
      gi_wp2
      refine wpIn_mono ?_ NoPanic.imp
      refine round_region (fun W' => W'.cell? ⟨w.heap.size, 0, none⟩ = some (.int .i64 (r : Int)) ∧ W'.cell? ⟨G, 1 + r, none⟩ = some (.int .i64 hv)) [] (by kernel_rfl) (by kernel_rfl) (by rintro ⟨a, w, hf⟩; exact hf) ?_
      have hS : (fun W' : World => W'.cell? ⟨w.heap.size, 0, none⟩ = some (.int .i64 (r : Int)) ∧ W'.cell? ⟨G, 1 + r, none⟩ = some (.int .i64 hv)) W5.drew := ⟨e4, eH⟩
      have nd : New W5 OW4 W5.drew OW4 := (New.refl _ _).drew
      replace d1 := d1.new_ nd
      replace d2 := d2.new_ nd
      replace d3 := d3.trans (nd.turn [1])
      replace d4 := d4.new_ nd
      replace hBk5 := hBk5.new_ nd
      have td := nd.turn [1, 1]
      clear nd
      generalize W5.drew = W6 at *
      refine anyX_takeN 0 (v := ?_) rfl rfl (by kernel_rfl) (by kernel_rfl) (by kernel_rfl) (by kernel_rfl) (by kernel_rfl) (fun _ _ _ h => h) rfl ?_ hS ?_
      rotate_left
      · intro W' hW'
        obtain ⟨s0, s1⟩ := hW'
        all_goals (go_simp; first | done | rfl)
      intro tm' htm
      simp only [List.setIfInBounds_toArray, List.set_cons_succ, List.set_cons_zero] at htm
      subst htm
      refine anyX_takeN 1 (v := ?_) rfl rfl (by kernel_rfl) (by kernel_rfl) (by kernel_rfl) (by kernel_rfl) (by kernel_rfl) (fun _ _ _ h => h) rfl ?_ hS ?_
      rotate_left
      · intro W' hW'
        obtain ⟨s0, s1⟩ := hW'
        all_goals (go_simp; first | done | rfl)
      intro tm' htm
      simp only [List.setIfInBounds_toArray, List.set_cons_succ, List.set_cons_zero] at htm
      subst htm
      refine anyX_takeN 2 (v := ?_) rfl rfl (by kernel_rfl) (by kernel_rfl) (by kernel_rfl) (by kernel_rfl) (by kernel_rfl) (fun _ _ _ h => h) rfl ?_ hS ?_
      rotate_left
      · intro W' hW'
        obtain ⟨s0, s1⟩ := hW'
        all_goals (go_simp; first | done | rfl)
      intro tm' htm
      simp only [List.setIfInBounds_toArray, List.set_cons_succ, List.set_cons_zero] at htm
      subst htm
      refine anyX_takeN 3 (v := ?_) rfl rfl (by kernel_rfl) (by kernel_rfl) (by kernel_rfl) (by kernel_rfl) (by kernel_rfl) (fun _ _ _ h => h) rfl ?_ hS ?_
      rotate_left
      · intro W' hW'
        obtain ⟨s0, s1⟩ := hW'
        all_goals (go_simp; first | done | rfl)
      intro tm' htm
      simp only [List.setIfInBounds_toArray, List.set_cons_succ, List.set_cons_zero] at htm
      subst htm
      refine anyX_takeN 4 (v := ?_) rfl rfl (by kernel_rfl) (by kernel_rfl) (by kernel_rfl) (by kernel_rfl) (by kernel_rfl) (fun _ _ _ h => h) rfl ?_ hS ?_
      rotate_left
      · intro W' hW'
        obtain ⟨s0, s1⟩ := hW'
        all_goals (go_simp; first | done | rfl)
      intro tm' htm
      simp only [List.setIfInBounds_toArray, List.set_cons_succ, List.set_cons_zero] at htm
      subst htm
      refine anyX_takeN 5 (v := ?_) rfl rfl (by kernel_rfl) (by kernel_rfl) (by kernel_rfl) (by kernel_rfl) (by kernel_rfl) (fun _ _ _ h => h) rfl ?_ hS ?_
      rotate_left
      · intro W' hW'
        obtain ⟨s0, s1⟩ := hW'
        all_goals (go_simp; first | done | rfl)
      intro tm' htm
      simp only [List.setIfInBounds_toArray, List.set_cons_succ, List.set_cons_zero] at htm
      subst htm
      refine anyX_takeN 6 (v := ?_) rfl rfl (by kernel_rfl) (by kernel_rfl) (by kernel_rfl) (by kernel_rfl) (by kernel_rfl) (fun _ _ _ h => h) rfl ?_ hS ?_
      rotate_left
      · intro W' hW'
        obtain ⟨s0, s1⟩ := hW'
        all_goals (go_simp; first | done | rfl)
      intro tm' htm
      simp only [List.setIfInBounds_toArray, List.set_cons_succ, List.set_cons_zero] at htm
      subst htm
      refine anyX_done (by kernel_rfl) ?_ _
      refine NoPanic.normal ?_
      clear hS e4 eH
      obtain ⟨Av, cv, rfl, hcv⟩ := d2.slice
      have e1 := d1.get0
      have f1 := d1.free 0
      have lR := d1.lt
      by_cases hpos : 0 < hv
      · rw [if_pos hpos] at hsn
        gi_wp2_with (refine wpListIn_round rfl (by intro c hc; cases hc) fun K hK => ?_; refine wp_append_row (.tmp 28) (.tmp 32) 32 32 rfl 31 _ 2 16 Try.underlying32 EHd.info rfl rfl (d2.alloc_ (Obj.cells #[Value.int .i64 job, Value.int .i64 hv] 31)) rfl ((Reads.new _ (EHd.cs ⟨job, hv⟩) _ 1 1 (Nat.le_refl _)).src Try.underlying32 rfl (EHd.cs_one ⟨job, hv⟩)) (by unfold maxLen; omega) (by omega) ?_; intro v6 w6 ow6 r6 t6; obtain ⟨A6, c6, rfl, hc6⟩ := r6.slice; have d6 := (d1.alloc_ (Obj.cells #[Value.int .i64 job, Value.int .i64 hv] 31)).keep t6 (by simp); have d7 := (d4.alloc_ (Obj.cells #[Value.int .i64 job, Value.int .i64 hv] 31)).keep t6 (by simp); have e6 := d6.get0; have f6 := d6.free 0; refine hK _ _ ?_)
        have hs6 := d6.turn 0 (.slice A6 ((hsOf T r (rows.take j)).length + 1) c6) (by simp)
        have tb : Turn [1, 1, 2] W6 OW4 w6 ow6 := ((Turn.refl [1, 1, 2] W6 OW4).alloc_ _).trans t6
        have tk := (td.trans (tb.up (p := [1, 1]) (by simp))).trans (hs6.up (p := [1, 1]) (by simp))
        refine ⟨ow6, tk, (hBk5.turn tb (by simp)).setCell _ _, _, d6.set0 _, ?_, (d3.trans (tb.up (by simp))).trans (hs6.up (by simp)), d7.keep hs6 (by simp)⟩
        rw [hsn, List.length_append, EHd.css_snoc]
        exact r6.keep hs6 (by simp)
      · rw [if_neg hpos, List.append_nil] at hsn
        gi_wp2
        exact ⟨OW4, td, hBk5, _, d1, by rw [hsn]; exact d2, d3, d4⟩
    · clear c1 c2 t hT cC
      intro D W4 OW4 hI hD oD hDs
      obtain ⟨v, d1, d2, d3, d4⟩ := hI
      rw [TIH.targs_length, List.take_length] at d2
      have hle := hsOf_le T r rows
      have his := hsOf_is H6.out H8.out r
      generalize hsOf T r rows = hs at *
      obtain ⟨Av, cv, rfl, hcv⟩ := d2.slice
      have hA : Av = none → cv = 0 := fun e => by
        rcases d2.2 with ⟨hv, -⟩ | ⟨g1, off1, cap1, c1, hv, -⟩
        · simp only [Value.slice.injEq] at hv; exact hv.2.2
        · simp only [Value.slice.injEq] at hv; rw [e] at hv; exact absurd hv.1 (by simp)
      have e1 := d1.get0
      have hM : Marks (fun x => x = [1, 1, 0]) W4 OW4 [{ target := .collected D, args := #[] }] := ⟨⟨D, rfl, hD, oD, by simp⟩, trivial⟩
      have His := Lib.hid his
      clear hD oD hDs his
      go_wp2_with fail
      refine (clip W4 Av hs.length cv hcv hA).mono ?_
      rintro e W5 ⟨rfl, k, hw'⟩
      have n1 : New W4 OW4 W5 OW4 := by rw [hw']; exact (New.refl _ _).drewN k
      have hM := hM.new_ n1
      have d2 := d2.new_ n1
      have d3 := d3.trans (n1.turn [1])
      clear hw' n1 d1 d4 e1
      go_wp2
      refine bodyM_ret (ok := fun x => x = [1, 1, 0]) [1, 1, 0] (fun x hx => hx ▸ List.prefix_refl _) hM fun W' t' => ⟨_, results_tmp rfl _ _ _, _, _, hs, rfl, His.out, by omega, Row.allP (Row_cut (d2.keep t' (by simp))) (d3.trans (t'.up (by simp))) q, (d3.trans (t'.up (by simp))).allP q, Row.freshP (Row_cut (d2.keep t' (by simp))) (d3.trans (t'.up (by simp)))⟩
    · intro D c j W1 OW1 hj hf; exact hf.elim
end UN
end Go.Proofs.Ytefagdbdimpcdaa
