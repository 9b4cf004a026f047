/-
  KEELBOOK.BOOK of int: Stays, Apart.
-/
import Derived.Test.YtefagdbdimpcdaaEIntB2
set_option linter.unusedVariables false
set_option linter.unusedSimpArgs false
namespace Go.Proofs.Ytefagdbdimpcdaa
open Go Go.RowKit
namespace EInt

/-- The mark of place j of list i. -/
def mk (i j : Nat) : Int := -1000 - (i : Int)
set_option maxHeartbeats 400000 in
theorem mk_mark (w : World) (i j : Nat) (hi : i < 4001) : Calls Try.prog 38 #[.int .i64 (i : Int), .int .i64 (j : Int)] w fun e w' => e = .returned (.int .i64 (mk i j)) ∧ Below w.heap.size w w' := by
  go_enter Try.func38, Try.ntmps38
  go_wp2
  go_ret; exact ⟨rfl, Below.refl _ _⟩
def mks (i n : Nat) : List Int := (List.range n).map (mk i)
theorem mks_length (i n : Nat) : (mks i n).length = n := by simp [mks]
theorem mks_succ (i n : Nat) : mks i (n + 1) = mks i n ++ [mk i n] := by simp [mks, List.range_succ]
theorem mks_get (i n j : Nat) (h : j < n) : (mks i n)[j]? = some (mk i j) := by simp [mks, h]

/-- What the loop of Stays keeps. -/
def stayRel (w : World) (ow : Ow) (p : List Nat) (g o n : Nat) (us : List Value) (i : Value) (wr : World) : Prop :=
  ∃ M : Nat, M ≤ n ∧ i = .int .i64 (M : Int) ∧ Cells wr ow (p ++ [0]) g o us ∧ Turn (p ++ [0]) w ow wr ow

set_option maxRecDepth 100000 in
set_option maxHeartbeats 4000000 in
theorem bk_stays (w : World) (ow : Ow) (p : List Nat) (g o : Nat) (ls : List (Nat × Value × List Int)) (vl vw : Value) (ws : List Value) (held : Int) (hln : ls.length ≤ 4000) (hc : Cells w ow (p ++ [0]) g o [vl, vw, .int .i64 held, .bool false])
    (hl : Row w ow (p ++ [1]) 38 1 vl ls.length (ls.map (·.2.1))) (hw : Row w ow (p ++ [2]) 38 1 vw ls.length ws) (hi : Its w ow p ls ws) :
    Calls Try.prog 62 #[.pointer (some ⟨g, o, none⟩)] w fun e w' => e = .returned (.bool true) ∧ Turn (p ++ [0]) w ow w' ow ∧ Cells w' ow (p ++ [0]) g o [vl, vw, .int .i64 held, .bool false] := by
  obtain ⟨A, c, rfl, -⟩ := hl.slice
  obtain ⟨Aw, cw, rfl, -⟩ := hw.slice
  have Hi := Lib.hid hi
  clear hi
  go_enter Try.func62, Try.ntmps62
  go_wp2
  go_loopw [3] (fun i wr => stayRel w ow p g o ls.length [.slice A ls.length c, .slice Aw ls.length cw, .int .i64 held, .bool false] i wr) (fun i _ => ls.length - (intOf i).toNat)
  case atStart => exact ⟨0, Nat.zero_le _, rfl, hc, Turn.refl _ _ _⟩
  case round =>
    clear hc
    obtain ⟨M, hM, rfl, kc, kt⟩ := hrel
    have c0 := kc.get0
    have c1 := kc.get 1 rfl
    have c3 := kc.get 3 rfl
    have f3 := kc.free (o + 3)
    have lg := kc.lt
    by_cases hlt : M < ls.length
    · obtain ⟨⟨k1, v1, xs1⟩, hx⟩ : ∃ y, ls[M]? = some y := ⟨_, List.getElem?_eq_getElem hlt⟩
      obtain ⟨r1, b1, u1, hu1, r2⟩ := Hi.out M k1 v1 xs1 hx
      have kl := hl.keep kt (by simp)
      have kw := hw.keep kt (by simp)
      have r1 := r1.keep kt (by simp)
      have r2 := r2.keep kt (by simp)
      obtain ⟨bl, ol, capl, hvl, -⟩ := kl.at (by omega)
      simp only [Value.slice.injEq] at hvl
      obtain ⟨rfl, -, rfl⟩ := hvl
      obtain ⟨bw, ow_, capw, hvw, -⟩ := kw.at (by omega)
      simp only [Value.slice.injEq] at hvw
      obtain ⟨rfl, -, rfl⟩ := hvw
      obtain ⟨-, -, -, hcl⟩ := kl.open_
      obtain ⟨-, -, -, hcw⟩ := kw.open_
      have e0 := hcl M v1 (by rw [List.getElem?_map, hx]; rfl)
      have e1 := hcw M u1 hu1
      have gl : ¬ g = bl := kl.ne kc (by simp) (by simp)
      have gw : ¬ g = bw := kw.ne kc (by simp) (by simp)
      have i0 : (M : Int) < (ls.length : Int) := by omega
      have hsame := fun W (hW : Below wr.heap.size wr W) => same_yes W _ _ xs1 b1 (r1.reads.new_ hW) (r2.reads.new_ hW)
      have Hsame := Lib.hid hsame
      clear hcl hcw hx hu1 r1 r2 hsame
      go_wp2_with fail
      refine plain_regionN (fun W' : World => ∃ k, W' = wr.drewN k ∨ W' = (wr.drewN k).setCell ⟨g, o + 3, none⟩ (.bool false)) [] (by kernel_rfl) ?_
      have hS : (fun W' : World => ∃ k, W' = wr.drewN k ∨ W' = (wr.drewN k).setCell ⟨g, o + 3, none⟩ (.bool false)) wr.drew := ⟨1, .inl rfl⟩
      refine anyX_takeN 0 (v := ?_) rfl rfl (by kernel_rfl) (by kernel_rfl) (by kernel_rfl) (by kernel_rfl) (by kernel_rfl) (fun _ _ _ h => h) rfl ?_ hS ?_
      rotate_left
      · intro W' hW'
        obtain ⟨kq, rfl | rfl⟩ := hW'
        all_goals (go_simp; first | done | rfl)
      intro tm' htm
      simp only [List.setIfInBounds_toArray, List.set_cons_succ, List.set_cons_zero] at htm
      subst htm
      refine anyX_takeN 1 (v := ?_) rfl rfl (by kernel_rfl) (by kernel_rfl) (by kernel_rfl) (by kernel_rfl) (by kernel_rfl) (fun _ _ _ h => h) rfl ?_ hS ?_
      rotate_left
      · intro W' hW'
        obtain ⟨kq, rfl | rfl⟩ := hW'
        all_goals (go_simp; first | done | rfl)
      intro tm' htm
      simp only [List.setIfInBounds_toArray, List.set_cons_succ, List.set_cons_zero] at htm
      subst htm
      refine anyX_takeN 2 (v := ?_) rfl rfl (by kernel_rfl) (by kernel_rfl) (by kernel_rfl) (by kernel_rfl) (by kernel_rfl) (fun _ _ _ h => h) rfl ?_ hS ?_
      rotate_left
      · intro W' hW'
        obtain ⟨kq, rfl | rfl⟩ := hW'
        all_goals (go_simp; first | done | rfl)
      intro tm' htm
      simp only [List.setIfInBounds_toArray, List.set_cons_succ, List.set_cons_zero] at htm
      subst htm
      refine anyX_takeN 3 (v := ?_) rfl rfl (by kernel_rfl) (by kernel_rfl) (by kernel_rfl) (by kernel_rfl) (by kernel_rfl) (fun _ _ _ h => h) rfl ?_ hS ?_
      rotate_left
      · intro W' hW'
        obtain ⟨kq, rfl | rfl⟩ := hW'
        all_goals (go_simp; first | done | rfl)
      intro tm' htm
      simp only [List.setIfInBounds_toArray, List.set_cons_succ, List.set_cons_zero] at htm
      subst htm
      refine anyX_takeN 4 (v := ?_) rfl rfl (by kernel_rfl) (by kernel_rfl) (by kernel_rfl) (by kernel_rfl) (by kernel_rfl) (fun _ _ _ h => h) rfl ?_ hS ?_
      rotate_left
      · intro W' hW'
        obtain ⟨kq, rfl | rfl⟩ := hW'
        all_goals (go_simp; first | done | rfl)
      intro tm' htm
      simp only [List.setIfInBounds_toArray, List.set_cons_succ, List.set_cons_zero] at htm
      subst htm
      refine anyX_takeN 5 (v := ?_) rfl rfl (by kernel_rfl) (by kernel_rfl) (by kernel_rfl) (by kernel_rfl) (by kernel_rfl) (fun _ _ _ h => h) rfl ?_ hS ?_
      rotate_left
      · intro W' hW'
        obtain ⟨kq, rfl | rfl⟩ := hW'
        all_goals (go_simp; first | done | rfl)
      intro tm' htm
      simp only [List.setIfInBounds_toArray, List.set_cons_succ, List.set_cons_zero] at htm
      subst htm
      refine anyX_takeW 6 (v := ?_) rfl rfl (by kernel_rfl) (by kernel_rfl) (by kernel_rfl) (by kernel_rfl) (by kernel_rfl) (fun _ _ _ h => h) (by rfl) ?_ hS ?_
      rotate_left
      · intro W' hW'
        obtain ⟨kq, rfl | rfl⟩ := hW'
        all_goals (go_simp; first | done | rfl)
      intro tm' htm
      simp only [List.setIfInBounds_toArray, List.set_cons_succ, List.set_cons_zero] at htm
      subst htm
      refine anyX_takeW 7 (v := ?_) rfl rfl (by kernel_rfl) (by kernel_rfl) (by kernel_rfl) (by kernel_rfl) (by kernel_rfl) (fun _ _ _ h => h) (by rfl) ?_ hS ?_
      rotate_left
      · intro W' hW'
        obtain ⟨kq, rfl | rfl⟩ := hW'
        all_goals (go_simp; first | done | rfl)
      intro tm' htm
      simp only [List.setIfInBounds_toArray, List.set_cons_succ, List.set_cons_zero] at htm
      subst htm
      refine anyX_takeW 8 (v := ?_) rfl rfl (by kernel_rfl) (by kernel_rfl) (by kernel_rfl) (by kernel_rfl) (by kernel_rfl) (fun _ _ _ h => h) (by rfl) ?_ hS ?_
      rotate_left
      · intro W' hW'
        obtain ⟨kq, rfl | rfl⟩ := hW'
        all_goals (go_simp; first | done | rfl)
      intro tm' htm
      simp only [List.setIfInBounds_toArray, List.set_cons_succ, List.set_cons_zero] at htm
      subst htm
      refine anyX_takeW 9 (v := ?_) rfl rfl (by kernel_rfl) (by kernel_rfl) (by kernel_rfl) (by kernel_rfl) (by kernel_rfl) (fun _ _ _ h => h) (by rfl) ?_ hS ?_
      rotate_left
      · intro W' hW'
        obtain ⟨kq, rfl | rfl⟩ := hW'
        all_goals (go_simp; first | done | rfl)
      intro tm' htm
      simp only [List.setIfInBounds_toArray, List.set_cons_succ, List.set_cons_zero] at htm
      subst htm
      refine anyX_takeW 10 (v := ?_) rfl rfl (by kernel_rfl) (by kernel_rfl) (by kernel_rfl) (by kernel_rfl) (by kernel_rfl) (fun _ _ _ h => h) (by rfl) ?_ hS ?_
      rotate_left
      · intro W' hW'
        obtain ⟨kq, rfl | rfl⟩ := hW'
        all_goals (go_simp; first | done | rfl)
      intro tm' htm
      simp only [List.setIfInBounds_toArray, List.set_cons_succ, List.set_cons_zero] at htm
      subst htm
      refine anyX_takeW 11 (v := ?_) rfl rfl (by kernel_rfl) (by kernel_rfl) (by kernel_rfl) (by kernel_rfl) (by kernel_rfl) (fun _ _ _ h => h) (by rfl) ?_ hS ?_
      rotate_left
      · intro W' hW'
        obtain ⟨kq, rfl | rfl⟩ := hW'
        all_goals (go_simp; first | done | rfl)
      intro tm' htm
      simp only [List.setIfInBounds_toArray, List.set_cons_succ, List.set_cons_zero] at htm
      subst htm
      refine anyX_takeW 12 (v := ?_) rfl rfl (by kernel_rfl) (by kernel_rfl) (by kernel_rfl) (by kernel_rfl) (by kernel_rfl) (fun _ _ _ h => h) (by rfl) ?_ hS ?_
      rotate_left
      · intro W' hW'
        obtain ⟨kq, rfl | rfl⟩ := hW'
        all_goals (go_simp; first | done | rfl)
      intro tm' htm
      simp only [List.setIfInBounds_toArray, List.set_cons_succ, List.set_cons_zero] at htm
      subst htm
      refine anyX_takeW 13 (v := ?_) rfl rfl (by kernel_rfl) (by kernel_rfl) (by kernel_rfl) (by kernel_rfl) (by kernel_rfl) (fun _ _ _ h => h) (by rfl) ?_ hS ?_
      rotate_left
      · intro W' hW'
        obtain ⟨kq, rfl | rfl⟩ := hW'
        all_goals (go_simp; first | done | rfl)
      intro tm' htm
      simp only [List.setIfInBounds_toArray, List.set_cons_succ, List.set_cons_zero] at htm
      subst htm
      refine anyX_takeW 14 (v := ?_) rfl rfl (by kernel_rfl) (by kernel_rfl) (by kernel_rfl) (by kernel_rfl) (by kernel_rfl) (fun _ _ _ h => h) (by rfl) ?_ hS ?_
      rotate_left
      · intro W' hW'
        obtain ⟨kq, rfl | rfl⟩ := hW'
        all_goals (go_simp; first | done | rfl)
      intro tm' htm
      simp only [List.setIfInBounds_toArray, List.set_cons_succ, List.set_cons_zero] at htm
      subst htm
      refine anyX_takeW 15 (v := ?_) rfl rfl (by kernel_rfl) (by kernel_rfl) (by kernel_rfl) (by kernel_rfl) (by kernel_rfl) (fun _ _ _ h => h) (by rfl) ?_ hS ?_
      rotate_left
      · intro W' hW'
        obtain ⟨kq, rfl | rfl⟩ := hW'
        all_goals (go_simp; first | done | rfl)
      intro tm' htm
      simp only [List.setIfInBounds_toArray, List.set_cons_succ, List.set_cons_zero] at htm
      subst htm
      refine anyX_takeW 16 (v := ?_) rfl rfl (by kernel_rfl) (by kernel_rfl) (by kernel_rfl) (by kernel_rfl) (by kernel_rfl) (fun _ _ _ h => h) (by rfl) ?_ hS ?_
      rotate_left
      · intro W' hW'
        obtain ⟨kq, rfl | rfl⟩ := hW'
        all_goals (go_simp; first | done | rfl)
      intro tm' htm
      simp only [List.setIfInBounds_toArray, List.set_cons_succ, List.set_cons_zero] at htm
      subst htm
      refine anyX_takeW 17 (v := ?_) rfl rfl (by kernel_rfl) (by kernel_rfl) (by kernel_rfl) (by kernel_rfl) (by kernel_rfl) (fun _ _ _ h => h) (by rfl) ?_ hS ?_
      rotate_left
      · intro W' hW'
        obtain ⟨kq, rfl | rfl⟩ := hW'
        all_goals (go_simp; first | done | rfl)
      intro tm' htm
      simp only [List.setIfInBounds_toArray, List.set_cons_succ, List.set_cons_zero] at htm
      subst htm
      refine anyX_takeW 18 (v := ?_) rfl rfl (by kernel_rfl) (by kernel_rfl) (by kernel_rfl) (by kernel_rfl) (by kernel_rfl) (fun _ _ _ h => h) (by rfl) ?_ hS ?_
      rotate_left
      · intro W' hW'
        obtain ⟨kq, rfl | rfl⟩ := hW'
        all_goals (go_simp; first | done | rfl)
      intro tm' htm
      simp only [List.setIfInBounds_toArray, List.set_cons_succ, List.set_cons_zero] at htm
      subst htm
      refine anyX_takeW 19 (v := ?_) rfl rfl (by kernel_rfl) (by kernel_rfl) (by kernel_rfl) (by kernel_rfl) (by kernel_rfl) (fun _ _ _ h => h) (by rfl) ?_ hS ?_
      rotate_left
      · intro W' hW'
        obtain ⟨kq, rfl | rfl⟩ := hW'
        all_goals (go_simp; first | done | rfl)
      intro tm' htm
      simp only [List.setIfInBounds_toArray, List.set_cons_succ, List.set_cons_zero] at htm
      subst htm
      refine anyX_oneW (i := 20) (by kernel_rfl) rfl (by rfl) fun K' hK' => ?_
      unfold Oper.wp
      go_simp
      refine (Hsame.out _ (by repeat (first | (with_reducible assumption) | (with_reducible exact Below.refl _ _) | (with_reducible refine Below.drew ?_) | (with_reducible refine bdN ?_ _) | ((with_reducible refine bdS ?_ ?_ _); · first | (simp; done) | omega | (simp; omega)) | ((with_reducible refine bdA ?_ ?_ _); · first | (simp; done) | omega | (simp; omega))))).mono ?_
      rintro e w6 ⟨rfl, k6, rfl⟩
      refine hK' _ _ (fun _ => ⟨1 + k6, .inl (World.drewN_drewN (w := wr) (n := 1) (m := k6))⟩) ?_
      clear hK' K'
      have hS : (fun W' : World => ∃ k, W' = wr.drewN k ∨ W' = (wr.drewN k).setCell ⟨g, o + 3, none⟩ (.bool false)) (wr.drew.drewN k6) := ⟨1 + k6, .inl (World.drewN_drewN (w := wr) (n := 1) (m := k6))⟩
      refine anyX_takeW 21 (v := ?_) rfl rfl (by kernel_rfl) (by kernel_rfl) (by kernel_rfl) (by kernel_rfl) (by kernel_rfl) (fun _ _ _ h => h) (by rfl) ?_ hS ?_
      rotate_left
      · intro W' hW'
        obtain ⟨kq, rfl | rfl⟩ := hW'
        all_goals (go_simp; first | done | rfl)
      intro tm' htm
      simp only [List.setIfInBounds_toArray, List.set_cons_succ, List.set_cons_zero] at htm
      subst htm
      refine anyX_takeN 22 (v := ?_) rfl rfl (by kernel_rfl) (by kernel_rfl) (by kernel_rfl) (by kernel_rfl) (by kernel_rfl) (fun _ _ _ h => h) rfl ?_ hS ?_
      rotate_left
      · intro W' hW'
        obtain ⟨kq, rfl | rfl⟩ := hW'
        all_goals (go_simp; first | done | rfl)
      intro tm' htm
      simp only [List.setIfInBounds_toArray, List.set_cons_succ, List.set_cons_zero] at htm
      subst htm
      refine anyX_takeN 23 (v := ?_) rfl rfl (by kernel_rfl) (by kernel_rfl) (by kernel_rfl) (by kernel_rfl) (by kernel_rfl) (fun _ _ _ h => h) rfl ?_ hS ?_
      rotate_left
      · intro W' hW'
        obtain ⟨kq, rfl | rfl⟩ := hW'
        all_goals (go_simp; first | done | rfl)
      intro tm' htm
      simp only [List.setIfInBounds_toArray, List.set_cons_succ, List.set_cons_zero] at htm
      subst htm
      refine anyX_takeN 24 (v := ?_) rfl rfl (by kernel_rfl) (by kernel_rfl) (by kernel_rfl) (by kernel_rfl) (by kernel_rfl) (fun _ _ _ h => h) rfl ?_ hS ?_
      rotate_left
      · intro W' hW'
        obtain ⟨kq, rfl | rfl⟩ := hW'
        all_goals (go_simp; first | done | rfl)
      intro tm' htm
      simp only [List.setIfInBounds_toArray, List.set_cons_succ, List.set_cons_zero] at htm
      subst htm
      refine anyX_one (i := 25) (by kernel_rfl) rfl rfl fun K' hK' => ?_
      unfold Oper.wp
      go_simp
      refine hK' _ _ (fun _ => ⟨1 + k6, .inr rfl⟩) (anyX_done (by kernel_rfl) ?_ _)
      refine NoPanic.normal ?_
      clear hK' K'
      go_wp2
      refine ⟨⟨M + 1, by omega, by go_num, kc.set 3 _ (by simp), kt.trans ?_⟩, by simp only [intOf]; omega⟩
      have og3 : p ++ [0] <+: ow g (o + 3) := kc.under 3 (by simp) (List.prefix_refl _)
      repeat (first | (with_reducible exact Turn.refl _ _ _) | (with_reducible refine Turn.drew ?_) | (with_reducible refine Turn.drewN ?_ _) | (with_reducible refine Turn.alloc_ ?_ _) | ((with_reducible refine Turn.setNew ?_ ?_ _); · first | (simp; done) | omega | (simp; omega)) | ((with_reducible refine Turn.setO ?_ ?_ _); · first | assumption | exact ob _ | (simp [*]; done)))
    · obtain rfl : M = ls.length := by omega
      go_wp2
      go_ret
      exact ⟨rfl, kt, kc⟩

theorem row_full {w : World} {ow : Ow} {p : List Nat} {T sz n : Nat} {v : Value} {cs : List Value} (h : Row w ow p T sz v n cs) : ∃ A c cs', v = .slice A n c ∧ n ≤ c ∧ c ≤ maxLen ∧ Row w ow p T sz (.slice A c c) c cs' := by
  rcases h.2 with ⟨rfl, rfl⟩ | ⟨g, off, cap, c, rfl, hg, ho, hn, hm, hs, hc⟩
  · exact ⟨none, 0, [], rfl, Nat.le_refl _, Nat.zero_le _, Row.nil _ _ _ _ _⟩
  · refine ⟨_, cap, (c.toList.drop off).take (cap * sz), rfl, hn, hm, ?_, .inr ⟨g, off, cap, c, rfl, hg, ho, Nat.le_refl _, hm, hs, fun j u hj => ?_⟩⟩
    · rw [List.length_take, List.length_drop, Array.length_toList]; omega
    · rw [List.getElem?_take] at hj
      split at hj
      · rw [List.getElem?_drop, Array.getElem?_toList] at hj; exact hj
      · cases hj

/-- The lists, each to the end of its room; the first M hold their marks. -/
def Wrt (w : World) (ow : Ow) (p : List Nat) (ls : List (Nat × Value × List Int)) (M : Nat) : Prop :=
  ∀ (i k : Nat) (v : Value) (xs : List Int), ls[i]? = some (k, v, xs) → ∃ (A : Option Addr) (n c : Nat) (cs : List Value), v = .slice A n c ∧ n ≤ c ∧ c ≤ maxLen ∧ Row w ow (p ++ [3, k]) 3 1 (.slice A c c) c cs ∧ (i < M → cs = css (mks i c))
theorem Wrt.new_ {w w1 : World} {ow ow1 : Ow} {p : List Nat} {ls : List (Nat × Value × List Int)} {M : Nat} (h : Wrt w ow p ls M) (t : New w ow w1 ow1) : Wrt w1 ow1 p ls M := fun i k v xs hi => by
  obtain ⟨A, n, c, cs, h1, h2, h3, h4, h5⟩ := h i k v xs hi
  exact ⟨A, n, c, cs, h1, h2, h3, h4.new_ t, h5⟩
theorem Wrt.step {w w1 : World} {ow : Ow} {p : List Nat} {ls : List (Nat × Value × List Int)} {M k n c : Nat} {A : Option Addr} {xs : List Int} (h : Wrt w ow p ls M) (hp : ls.Pairwise (fun a b => a.1 < b.1)) (hM : ls[M]? = some (k, .slice A n c, xs)) (hn : n ≤ c) (hm : c ≤ maxLen) (t : Turn (p ++ [3, k]) w ow w1 ow)
    (hr : Row w1 ow (p ++ [3, k]) 3 1 (.slice A c c) c (css (mks M c))) : Wrt w1 ow p ls (M + 1) := fun i k' v xs' hi => by
  by_cases e : i = M
  · subst e
    rw [hM] at hi
    simp only [Option.some.injEq, Prod.mk.injEq] at hi
    obtain ⟨rfl, rfl, rfl⟩ := hi
    exact ⟨A, n, c, _, rfl, hn, hm, hr, fun _ => rfl⟩
  · obtain ⟨A', n', c', cs, h1, h2, h3, h4, h5⟩ := h i k' v xs' hi
    have hk : ¬ k = k' := by
      obtain ⟨li, hi'⟩ := List.getElem?_eq_some_iff.1 hi
      obtain ⟨lM, hM'⟩ := List.getElem?_eq_some_iff.1 hM
      rcases Nat.lt_or_gt_of_ne e with hlt | hlt
      · have := List.pairwise_iff_getElem.1 hp i M li lM hlt
        rw [hi', hM'] at this
        simp only at this; omega
      · have := List.pairwise_iff_getElem.1 hp M i lM li hlt
        rw [hi', hM'] at this
        simp only at this; omega
    exact ⟨A', n', c', cs, h1, h2, h3, h4.keep t (by simpa using hk), fun hlt => h5 (by omega)⟩

/-- What the marking of one list keeps. -/
def markRel (W : World) (ow : Ow) (q : List Nat) (A : Option Addr) (c M : Nat) (j : Value) (wr : World) : Prop :=
  ∃ (m : Nat) (rest : List Value), m ≤ c ∧ j = .int .i64 (m : Int) ∧ Row wr ow q 3 1 (.slice A c c) c (css (mks M m) ++ rest) ∧ Turn q W ow wr ow
/-- What the marking of all keeps. -/
def marksRel (w : World) (ow : Ow) (p : List Nat) (g o : Nat) (ls : List (Nat × Value × List Int)) (us : List Value) (vl : Value) (i : Value) (wr : World) : Prop :=
  ∃ M : Nat, M ≤ ls.length ∧ i = .int .i64 (M : Int) ∧ Cells wr ow (p ++ [0]) g o us ∧ Row wr ow (p ++ [1]) 38 1 vl ls.length (ls.map (·.2.1)) ∧ Wrt wr ow p ls M ∧ Turn p w ow wr ow
/-- What the looks keep. -/
def seeRel (W : World) (n : Nat) (i : Value) (wr : World) : Prop := ∃ M : Nat, M ≤ n ∧ i = .int .i64 (M : Int) ∧ Below W.heap.size W wr
/-- What Apart leaves. -/
def ApartB (w : World) (ow : Ow) (p : List Nat) (e : Ending) (w' : World) : Prop := ∃ ow', e = .returned (.bool true) ∧ Turn p w ow w' ow'

set_option maxRecDepth 100000 in
set_option maxHeartbeats 8000000 in
theorem bk_apart (w : World) (ow : Ow) (p : List Nat) (g o N : Nat) (h : Book w ow p g o N) : Calls Try.prog 37 #[.pointer (some ⟨g, o, none⟩), .func (.func 38) #[] #[]] w (ApartB w ow p) := by
  obtain ⟨ls, hln, vl, vw, ws, held, hc, hl, hw, hi, hp, hN⟩ := h
  have hst := bk_stays w ow p g o ls vl vw ws held hln hc hl hw hi
  have hwrt : Wrt w ow p ls 0 := fun i k v xs hx => by
    obtain ⟨r, -⟩ := hi i k v xs hx
    obtain ⟨A, c, cs', h1, h2, h3, h4⟩ := row_full r
    exact ⟨A, _, c, cs', h1, h2, h3, h4, fun hlt => by omega⟩
  obtain ⟨A, c, rfl, -⟩ := hl.slice
  have Hst := Lib.hid hst
  have Hi := Lib.hid hwrt
  have Hp := Lib.hid hp
  clear hst hi hN hp hwrt
  go_enter Try.func37, Try.ntmps37
  go_wp2_with fail
  refine Hst.out.mono ?_
  rintro e w1 ⟨rfl, t1, hc1⟩
  have hl1 := hl.keep t1 (by simp)
  have hw1 : Wrt w1 ow p ls 0 := fun i k v xs hx => by
    obtain ⟨A, n, c, cs, h1, h2, h3, h4, h5⟩ := Hi.out i k v xs hx
    exact ⟨A, n, c, cs, h1, h2, h3, h4.keep t1 (by simp), h5⟩
  have t1 := t1.up (p := p) (by simp)
  clear hc hl hw Hi Hst
  go_wp2
  go_loopw [5] (fun i wr => marksRel w ow p g o ls [.slice A ls.length c, vw, .int .i64 held, .bool false] (.slice A ls.length c) i wr) (fun i _ => ls.length - (intOf i).toNat)
  case atStart => exact ⟨0, Nat.zero_le _, rfl, hc1, hl1, hw1, t1⟩
  case round =>
    clear hc1 hl1 hw1 t1
    obtain ⟨wo, rfl⟩ : ∃ wo : World, wo = wr := ⟨_, rfl⟩
    obtain ⟨M, hM, rfl, kc, kl, kw, kt⟩ := hrel
    have c0 := kc.get0
    have lg := kc.lt
    have Kw := Lib.hid kw
    clear kw
    by_cases hlt : M < ls.length
    · obtain ⟨⟨k1, v1, xs1⟩, hx⟩ : ∃ y, ls[M]? = some y := ⟨_, List.getElem?_eq_getElem hlt⟩
      obtain ⟨A1, n1, c1, cs1, rfl, hn1, hm1, r1, -⟩ := Kw.out M k1 v1 xs1 hx
      obtain ⟨bl, ol, capl, hvl, -⟩ := kl.at (by omega)
      simp only [Value.slice.injEq] at hvl
      obtain ⟨rfl, -, rfl⟩ := hvl
      obtain ⟨-, -, -, hcl⟩ := kl.open_
      have e0 := hcl M (.slice A1 n1 c1) (by rw [List.getElem?_map, hx]; rfl)
      have gl : ¬ g = bl := kl.ne kc (by simp) (by simp)
      have i0 : (M : Int) < (ls.length : Int) := by omega
      have hM4 : M < 4001 := by omega
      have hc63 : c1 ≤ 9223372036854775807 := by unfold maxLen at hm1; exact hm1
      have Hx := Lib.hid hx
      clear hcl hx
      go_wp2
      go_region
      go_wp2
      go_loopw [7] (fun j wr => markRel wo ow (p ++ [3, k1]) A1 c1 M j wr) (fun j _ => c1 - (intOf j).toNat)
      case atStart => exact ⟨0, cs1, Nat.zero_le _, rfl, r1, (Turn.refl _ _ _).drew⟩
      case round =>
        obtain ⟨m, rest, hm, rfl, rz, tz⟩ := hrel
        by_cases hmc : m < c1
        · obtain ⟨b, off, cap, hv, -⟩ := rz.at (by omega)
          simp only [Value.slice.injEq] at hv
          obtain ⟨rfl, -, rfl⟩ := hv
          have i1 : (m : Int) < (c1 : Int) := by omega
          clear e0 gl c0 lg
          go_wp2_with fail
          refine (mk_mark _ M m hM4).mono ?_
          rintro e w4 ⟨rfl, hb4⟩
          have row2 := rz.new_ (hb4.nw ow)
          have tz2 := tz.trans ((hb4.nw ow).turn _)
          obtain ⟨hb, hpo, hf, hcell⟩ := row2.open_
          have hpx : ∀ i, p ++ [3, k1] <+: ow b i := fun i => by rw [hpo]; exact List.prefix_refl _
          have hcl := rz.1
          rw [List.length_append, css_length, mks_length] at hcl
          have hrl : 1 ≤ rest.length := by
            have h1 : m * 1 + 1 ≤ c1 * 1 := by omega
            omega
          obtain ⟨r0, rest0, rfl⟩ : ∃ y r, rest = y :: r := List.exists_cons_of_length_pos (by omega)
          have e0 := hcell (m * 1) r0 (by rw [List.getElem?_append_right (by rw [css_length, mks_length]; omega), css_length, mks_length, show m * 1 - m * 1 = 0 by omega]; rfl)
          simp only [← Nat.add_assoc, Nat.mul_one] at e0
          have row3 := (row2.set (m * 1) (.int .i64 (mk M m)))
          have tz3 := tz2.trans (Turn.setCell (g := b) (o := off + (m * 1)) (Turn.refl (p ++ [3, k1]) w4 ow) (.int .i64 (mk M m)) (hpx _))
          have hcss : ((css (mks M m) ++ r0 :: rest0).set (m * 1) (.int .i64 (mk M m))) = css (mks M (m + 1)) ++ rest0 := by
            have hlc : (css (mks M m)).length = m * 1 := by rw [css_length, mks_length]
            rw [mks_succ, css_snoc, ← hlc]
            simp [set_behind, cs, List.append_assoc]
          rw [hcss] at row3
          simp only [← Nat.add_assoc, Nat.mul_one] at row3 tz3
          have fin : markRel wo ow (p ++ [3, k1]) (some ⟨b, off, none⟩) c1 M (.int .i64 ((m : Int) + 1)) ((w4.setCell ⟨b, off + m, none⟩ (.int .i64 (mk M m)))) := ⟨m + 1, rest0, by omega, by go_num, row3, tz3⟩
          have Fin := Lib.hid fin
          clear row3 tz3 hcss fin hcell hpx hcl hpo
          go_wp2
          exact ⟨Fin.out, by simp only [intOf]; omega⟩
        · obtain rfl : m = c1 := by omega
          have hre : rest = [] := by
            have := rz.1
            rw [List.length_append, css_length, mks_length] at this
            exact List.eq_nil_of_length_eq_zero (by omega)
          rw [hre, List.append_nil] at rz
          go_wp2
          refine ⟨⟨M + 1, by omega, by go_num, kc.keep tz (by simp), kl.keep tz (by simp), Kw.out.step Hp.out Hx.out hn1 hm1 tz rz, kt.trans (tz.up (by simp))⟩, by simp only [intOf]; omega⟩
    · obtain rfl : M = ls.length := by omega
      go_wp2
      go_loopw [8] (fun i wr => seeRel wo ls.length i wr) (fun i _ => ls.length - (intOf i).toNat)
      case atStart => exact ⟨0, Nat.zero_le _, rfl, Below.refl _ _⟩
      case round =>
        obtain ⟨wz, rfl⟩ : ∃ wz : World, wz = wr := ⟨_, rfl⟩
        obtain ⟨M, hM, rfl, hbz⟩ := hrel
        have kc := kc.new_ (hbz.nw ow)
        have kl := kl.new_ (hbz.nw ow)
        have c0 := kc.get0
        have lg := kc.lt
        by_cases hlt : M < ls.length
        · obtain ⟨⟨k1, v1, xs1⟩, hx⟩ : ∃ y, ls[M]? = some y := ⟨_, List.getElem?_eq_getElem hlt⟩
          obtain ⟨A1, n1, c1, cs1, rfl, hn1, hm1, r1, hcs⟩ := Kw.out M k1 v1 xs1 hx
          rw [hcs hlt] at r1
          have r1 := r1.new_ (hbz.nw ow)
          obtain ⟨bl, ol, capl, hvl, -⟩ := kl.at (by omega)
          simp only [Value.slice.injEq] at hvl
          obtain ⟨rfl, -, rfl⟩ := hvl
          obtain ⟨-, -, -, hcl⟩ := kl.open_
          have e0 := hcl M (.slice A1 n1 c1) (by rw [List.getElem?_map, hx]; rfl)
          have i0 : (M : Int) < (ls.length : Int) := by omega
          have hM4 : M < 4001 := by omega
          have hc63 : c1 ≤ 9223372036854775807 := by unfold maxLen at hm1; exact hm1
          clear hcl hx hcs
          go_wp2
          go_region
          go_wp2
          go_loopw [10] (fun j wr => seeRel wz c1 j wr) (fun j _ => c1 - (intOf j).toNat)
          case atStart => exact ⟨0, Nat.zero_le _, rfl, (Below.refl _ _).drew⟩
          case round =>
            obtain ⟨wy, rfl⟩ : ∃ wy : World, wy = wr := ⟨_, rfl⟩
            obtain ⟨m, hm, rfl, hby⟩ := hrel
            clear e0 c0 lg kc kl
            by_cases hmc : m < c1
            · have rz := r1.new_ (hby.nw ow)
              obtain ⟨b, off, cap, hv, -⟩ := rz.at (by omega)
              simp only [Value.slice.injEq] at hv
              obtain ⟨rfl, -, rfl⟩ := hv
              obtain ⟨hbW, hpo, hf, hcell⟩ := rz.open_
              have hx := mks_get M c1 m hmc
              have e0 := hcell (m * 1 + 0) _ (css_at _ m _ hx 0 _ rfl (by omega))
              simp only [Nat.add_zero, Nat.mul_one, ← Nat.add_assoc] at e0
              have i1 : (m : Int) < (c1 : Int) := by omega
              clear hcell hx hpo hf
              go_wp2
              refine plain_regionN (fun W' => W'.cell? ⟨b, off + m, none⟩ = some (.int .i64 (mk M m))) [] (by kernel_rfl) ?_
              have hS : (fun W' : World => W'.cell? ⟨b, off + m, none⟩ = some (.int .i64 (mk M m))) wy.drew := e0
              refine anyX_takeN 0 (v := ?_) rfl rfl (by kernel_rfl) (by kernel_rfl) (by kernel_rfl) (by kernel_rfl) (by kernel_rfl) (fun _ _ _ h => h) rfl ?_ hS ?_
              rotate_left
              · intro W' hW'
                obtain s0 := hW'
                all_goals (go_simp; first | done | rfl)
              intro tm' htm
              simp only [List.setIfInBounds_toArray, List.set_cons_succ, List.set_cons_zero] at htm
              subst htm
              refine anyX_takeN 1 (v := ?_) rfl rfl (by kernel_rfl) (by kernel_rfl) (by kernel_rfl) (by kernel_rfl) (by kernel_rfl) (fun _ _ _ h => h) rfl ?_ hS ?_
              rotate_left
              · intro W' hW'
                obtain s0 := hW'
                all_goals (go_simp; first | done | rfl)
              intro tm' htm
              simp only [List.setIfInBounds_toArray, List.set_cons_succ, List.set_cons_zero] at htm
              subst htm
              refine anyX_takeN 2 (v := ?_) rfl rfl (by kernel_rfl) (by kernel_rfl) (by kernel_rfl) (by kernel_rfl) (by kernel_rfl) (fun _ _ _ h => h) rfl ?_ hS ?_
              rotate_left
              · intro W' hW'
                obtain s0 := hW'
                all_goals (go_simp; first | done | rfl)
              intro tm' htm
              simp only [List.setIfInBounds_toArray, List.set_cons_succ, List.set_cons_zero] at htm
              subst htm
              refine anyX_takeN 3 (v := ?_) rfl rfl (by kernel_rfl) (by kernel_rfl) (by kernel_rfl) (by kernel_rfl) (by kernel_rfl) (fun _ _ _ h => h) rfl ?_ hS ?_
              rotate_left
              · intro W' hW'
                obtain s0 := hW'
                all_goals (go_simp; first | done | rfl)
              intro tm' htm
              simp only [List.setIfInBounds_toArray, List.set_cons_succ, List.set_cons_zero] at htm
              subst htm
              refine anyX_takeN 4 (v := ?_) rfl rfl (by kernel_rfl) (by kernel_rfl) (by kernel_rfl) (by kernel_rfl) (by kernel_rfl) (fun _ _ _ h => h) rfl ?_ hS ?_
              rotate_left
              · intro W' hW'
                obtain s0 := hW'
                all_goals (go_simp; first | done | rfl)
              intro tm' htm
              simp only [List.setIfInBounds_toArray, List.set_cons_succ, List.set_cons_zero] at htm
              subst htm
              refine anyX_takeN 5 (v := ?_) rfl rfl (by kernel_rfl) (by kernel_rfl) (by kernel_rfl) (by kernel_rfl) (by kernel_rfl) (fun _ _ _ h => h) rfl ?_ hS ?_
              rotate_left
              · intro W' hW'
                obtain s0 := hW'
                all_goals (go_simp; first | done | rfl)
              intro tm' htm
              simp only [List.setIfInBounds_toArray, List.set_cons_succ, List.set_cons_zero] at htm
              subst htm
              refine anyX_takeN 6 (v := ?_) rfl rfl (by kernel_rfl) (by kernel_rfl) (by kernel_rfl) (by kernel_rfl) (by kernel_rfl) (fun _ _ _ h => h) rfl ?_ hS ?_
              rotate_left
              · intro W' hW'
                obtain s0 := hW'
                all_goals (go_simp; first | done | rfl)
              intro tm' htm
              simp only [List.setIfInBounds_toArray, List.set_cons_succ, List.set_cons_zero] at htm
              subst htm
              refine anyX_one (i := 7) (by kernel_rfl) rfl rfl fun K' hK' => ?_
              unfold Oper.wp
              go_simp
              refine (mk_mark _ M m hM4).mono ?_
              rintro e w4 ⟨rfl, hb4⟩
              have hb4' : Below wy.heap.size wy w4 := ⟨hb4.os, hb4.tape, hb4.output, hb4.size, hb4.block⟩
              have hS : (fun W' : World => W'.cell? ⟨b, off + m, none⟩ = some (.int .i64 (mk M m))) w4 := (hb4.cell hbW).trans e0
              refine hK' _ _ (fun _ => hS) ?_
              clear hK' K'
              refine anyX_one (i := 8) (by kernel_rfl) rfl rfl fun K' hK' => ?_
              unfold Oper.wp
              go_simp
              refine hK' _ _ (fun _ => hS) (anyX_done (by kernel_rfl) ?_ _)
              refine NoPanic.normal ?_
              clear hK' K' hS
              go_wp2
              exact ⟨⟨m + 1, by omega, by go_num, hby.trans (hb4'.mono hby.size)⟩, by simp only [intOf]; omega⟩
            · obtain rfl : m = c1 := by omega
              go_wp2
              exact ⟨⟨M + 1, by omega, by go_num, hbz.trans (hby.mono hbz.size)⟩, by simp only [intOf]; omega⟩
        · obtain rfl : M = ls.length := by omega
          have f0 := kc.free o
          have f1 := kc.free (o + 1)
          have f2 := kc.free (o + 2)
          have c1 := kc.get 1 rfl
          have c2 := kc.get 2 rfl
          have og0 : p <+: ow g o := kc.under0 (by simp)
          have og1 : p <+: ow g (o + 1) := kc.under 1 (by simp) (by simp)
          have og2 : p <+: ow g (o + 2) := kc.under 2 (by simp) (by simp)
          have tfin := kt.trans ((hbz.nw ow).turn p)
          go_wp2
          go_ret
          refine ⟨ow, rfl, ?_⟩
          repeat (first | (with_reducible exact tfin) | (with_reducible exact Turn.refl _ _ _) | (with_reducible refine Turn.drew ?_) | (with_reducible refine Turn.drewN ?_ _) | (with_reducible refine Turn.alloc_ ?_ _) | ((with_reducible refine Turn.setNew ?_ ?_ _); · first | (simp; done) | omega | (simp; omega)) | ((with_reducible refine Turn.setO ?_ ?_ _); · first | assumption | exact ob _ | (simp [*]; done)))

end EInt
end Go.Proofs.Ytefagdbdimpcdaa
