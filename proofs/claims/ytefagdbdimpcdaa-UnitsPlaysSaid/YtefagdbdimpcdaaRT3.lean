/-
  KEELREF5: a lock, an unlock.
-/
import Derived.Test.YtefagdbdimpcdaaRT2
import Derived.Test.YtefagdbdimpcdaaUNp
set_option linter.unusedVariables false
set_option linter.unusedSimpArgs false
namespace Go.Proofs.Ytefagdbdimpcdaa
open Go Go.RowKit

namespace RT5
open UN
section
variable {U C : List Int} {T : List Tk}
theorem pop_at {job : Int} {t : Tk} (ht : t.job = job) {B : List Tk} (hB : locksOf B job = []) : ∀ A : List Tk, popT job (A ++ t :: B) = A ++ B
  | [] => by
    show (if (locksOf B job).isEmpty then (if t.job = job then B else t :: B) else t :: popT job B) = B
    rw [hB, if_pos (show ([] : List Lk).isEmpty = true from rfl), if_pos ht]
  | a :: A => by
    show (if (locksOf (A ++ t :: B) job).isEmpty then (if a.job = job then A ++ t :: B else a :: (A ++ t :: B)) else a :: popT job (A ++ t :: B)) = a :: (A ++ B)
    rw [pop_at ht hB A, locksOf_append, locksOf_cons, if_pos ht, if_neg (by simp)]
theorem inner_split {job : Int} {m : Nat} {t : Tk} (hx : T[m]? = some t) (ht : t.job = job) (hB : locksOf (T.drop (m + 1)) job = []) :
    locksOf T job = locksOf (T.take m) job ++ [⟨t.res, t.n⟩] ∧ popT job T = T.take m ++ T.drop (m + 1) := by
  have hm := (List.getElem?_eq_some_iff.1 hx)
  obtain ⟨h1, h2⟩ := hm
  have hs : T = T.take m ++ t :: T.drop (m + 1) := by rw [← h2, List.getElem_cons_drop, List.take_append_drop]
  refine ⟨?_, ?_⟩
  · conv => lhs; rw [hs]
    rw [locksOf_append, locksOf_cons, if_pos ht, hB]
  · conv => lhs; rw [hs]
    exact pop_at ht hB _
theorem un_none {job res : Int} (hj : ¬ job < 0) (hk : known U res = true) (hn : locksOf T job = []) : unlockE U T job res = 21 ∧ unlockN U T job res = 0 ∧ unlockT U T job res = T := by
  have hE : unlockE U T job res = 21 := by unfold unlockE; rw [if_neg (by rw [hk]; simp; omega), hn]; rfl
  obtain ⟨h1, h2⟩ := unlock_not (U := U) (T := T) (job := job) (res := res) (by rw [hE]; decide)
  exact ⟨hE, h1, h2⟩
theorem un_no {job res : Int} {ls : List Lk} {l : Lk} (hj : ¬ job < 0) (hk : known U res = true) (hn : locksOf T job = ls ++ [l]) (hr : ¬ l.res = res) : unlockE U T job res = 21 ∧ unlockN U T job res = 0 ∧ unlockT U T job res = T := by
  have hE : unlockE U T job res = 21 := by
    unfold unlockE
    rw [if_neg (by rw [hk]; simp; omega), hn, List.getLast?_append, List.getLast?_singleton, Option.some_or]
    exact if_neg hr
  obtain ⟨h1, h2⟩ := unlock_not (U := U) (T := T) (job := job) (res := res) (by rw [hE]; decide)
  exact ⟨hE, h1, h2⟩
theorem un_yes {job res : Int} {ls : List Lk} {l : Lk} (hj : ¬ job < 0) (hk : known U res = true) (hn : locksOf T job = ls ++ [l]) (hr : l.res = res) : unlockE U T job res = 0 ∧ unlockN U T job res = l.n ∧ unlockT U T job res = popT job T := by
  have hE : unlockE U T job res = 0 := (unlockE_iff job res).2 ⟨by omega, hk, ls, l, hn, hr⟩
  exact ⟨hE, (unlock_yes hE hn).1, by unfold unlockT; rw [if_pos hE]⟩
end

section
variable (w : World) (ow : Ow) (p : List Nat) (g : Nat) (U C : List Int) (T : List Tk)

/-- What a call leaves. -/
def RL (w : World) (ow : Ow) (p : List Nat) (g : Nat) (U C : List Int) (v : Value) (T : List Tk) (e : Ending) (w' : World) : Prop := ∃ ow', e = .returned v ∧ RT w' ow' p g U C T ∧ Turn p w ow w' ow'

set_option maxRecDepth 100000 in
set_option maxHeartbeats 4000000 in
theorem rlock (h : RT w ow p g U C T) (job res n need : Int) : Calls Try.prog 63 #[.pointer (some ⟨g, 0, none⟩), .int .i64 job, .int .i64 res, .int .i64 n, .int .i64 need] w (RL w ow p g U C (.int .i64 (lockE U T job res n need)) (lockT U T job res n need)) := by
  by_cases q0 : job < 0
  · have hE : lockE U T job res n need = 1 := by unfold lockE; rw [if_pos (.inl q0)]
    unfold lockT
    rw [hE, if_neg (by omega)]
    clear hE
    go_enter Try.func63, Try.ntmps63
    go_wp2
    go_ret
    exact ⟨ow, rfl, h, Turn.refl _ _ _⟩
  have hk := rknown w ow p g U C T h res
  cases hkn : known U res with
  | false =>
    have hE : lockE U T job res n need = 1 := by unfold lockE; rw [if_pos (.inr (.inl hkn))]
    unfold lockT
    rw [hE, if_neg (by omega)]
    rw [hkn] at hk
    clear hE hkn
    go_enter Try.func63, Try.ntmps63
    go_wp2_with fail
    refine hk.mono ?_
    rintro e w' ⟨rfl, rfl⟩
    go_wp2
    go_ret
    exact ⟨ow, rfl, h, Turn.refl _ _ _⟩
  | true =>
    rw [hkn] at hk
    by_cases q1 : n < 1
    · have hE : lockE U T job res n need = 1 := by unfold lockE; rw [if_pos (.inr (.inr (.inl q1)))]
      unfold lockT
      rw [hE, if_neg (by omega)]
      clear hE hkn
      go_enter Try.func63, Try.ntmps63
      go_wp2_with fail
      refine hk.mono ?_
      rintro e w' ⟨rfl, rfl⟩
      go_wp2
      go_ret
      exact ⟨ow, rfl, h, Turn.refl _ _ _⟩
    obtain ⟨r, rfl, hr, u, hu⟩ := known_yes hkn
    have hub : 1 ≤ u ∧ u ≤ 255 := h.1.ub u (List.mem_of_getElem? hu)
    have huo : unitsOf U r = u := unitsOf_at hu
    obtain ⟨hi, VU, VL, VC, h1, h2, h3, h4⟩ := id h
    obtain ⟨b, off, cap, rfl, lb, eu, -⟩ := row_at h2 rfl r u hu
    have c0 := h1.get0
    have lg := h1.lt
    have i0 : (r : Int) < (U.length : Int) := by omega
    by_cases q2 : u < n
    · have hE : lockE U T job r n need = 1 := by unfold lockE; rw [if_pos (.inr (.inr (.inr (by omega))))]
      unfold lockT
      rw [hE, if_neg (by omega)]
      clear hE hkn h1 h2 h3 h4 hi hu huo
      go_enter Try.func63, Try.ntmps63
      go_wp2_with fail
      refine hk.mono ?_
      rintro e w' ⟨rfl, rfl⟩
      go_wp2
      go_ret
      exact ⟨ow, rfl, h, Turn.refl _ _ _⟩
    have hno : ¬ (job < 0 ∨ known U r = false ∨ n < 1 ∨ unitsOf U r < n) := by rw [hkn, huo]; simp; omega
    have hh := rheld w ow p g U C T h job r
    have hf := rfree w ow p g U C T h r
    have hhq := h.1.heldQ_le job r
    rw [heldQ_eq h.1] at hh hhq
    have hfq : freeQ U T r = freeT U T r := by unfold freeQ; rw [if_pos hkn]
    rw [hfq] at hf
    have hE0 : lockE U T job r n need = if need < n + heldT T job r then 22 else if freeT U T r < n then 20 else 0 := by unfold lockE; rw [if_neg hno]
    have hInv := fun (h5 : n ≤ freeT U T r) => hi.lock (job := job) (res := r) (n := n) (by omega) (by omega) (by omega) (by omega) h5
    unfold lockT
    rw [hE0]
    have HI := Lib.hid hInv
    clear hE0 hno hfq hu huo hkn hInv
    generalize heldT T job r = hv at *
    generalize freeT U T r = fv at *
    have wr1 : IntKind.i64.wrap (n + hv) = n + hv := by rw [IntKind.wrap_i64]; omega
    by_cases q3 : need < n + hv
    · rw [if_pos q3, if_neg (by omega)]
      clear h1 h2 h3 h4 hi
      go_enter Try.func63, Try.ntmps63
      go_wp2_with fail
      refine hk.mono ?_
      rintro e w' ⟨rfl, rfl⟩
      go_wp2_with fail
      refine hh.mono ?_
      rintro e w' ⟨rfl, rfl⟩
      go_wp2
      go_ret
      exact ⟨ow, rfl, h, Turn.refl _ _ _⟩
    · rw [if_neg q3]
      by_cases q4 : fv < n
      · rw [if_pos q4, if_neg (by omega)]
        clear h1 h2 h3 h4 hi
        go_enter Try.func63, Try.ntmps63
        go_wp2_with fail
        refine hk.mono ?_
        rintro e w' ⟨rfl, rfl⟩
        go_wp2_with fail
        refine hh.mono ?_
        rintro e w' ⟨rfl, rfl⟩
        go_wp2_with fail
        refine hf.mono ?_
        rintro e w' ⟨rfl, rfl⟩
        go_wp2
        go_ret
        exact ⟨ow, rfl, h, Turn.refl _ _ _⟩
      · rw [if_neg q4, if_pos rfl]
        have hi2 := HI.out (by omega)
        have hl := hi.len
        obtain ⟨AL, cL, rfl, hcL⟩ := h3.slice
        have c1 := h1.get 1 rfl
        simp only [Nat.zero_add] at c1
        have Hi2 := Lib.hid hi2
        clear h hi HI hi2
        go_enter Try.func63, Try.ntmps63
        go_wp2_with fail
        refine hk.mono ?_
        rintro e w' ⟨rfl, rfl⟩
        go_wp2_with fail
        refine hh.mono ?_
        rintro e w' ⟨rfl, rfl⟩
        go_wp2_with fail
        refine hf.mono ?_
        rintro e w' ⟨rfl, rfl⟩
        clear hk hh hf
        go_wp2_with (at_builtin; refine wpList_append_row (m := 1) rfl (.tmp 51) (.tmp 56) 114 114 rfl 132 _ 3 24 Try.underlying114 ETk.info rfl rfl (h3.alloc_ (Obj.cells #[Value.int .i64 job, Value.int .i64 r, Value.int .i64 n] 132)) rfl ((Reads.new w' (ETk.cs ⟨job, r, n⟩) 132 1 1 (Nat.le_refl _)).src Try.underlying114 rfl (ETk.cs_one ⟨job, r, n⟩)) (by unfold maxLen; omega) (by omega) ?_)
        intro v3 w3 ow3 hr3 t3
        have n0 : New w' ow (w'.alloc (Obj.cells #[Value.int .i64 job, Value.int .i64 r, Value.int .i64 n] 132)) ow := ((Below.refl _ _).alloc (Nat.le_refl _) _).nw ow
        have g1 := (h1.new_ n0).keep t3 (by simp)
        have g2 := (h2.new_ n0).keep t3 (by simp)
        have g4 := (h4.new_ n0).keep t3 (by simp)
        have t5 := (n0.turn p).trans (t3.up (by simp))
        obtain ⟨A3, c3, rfl, hnc3⟩ := hr3.slice
        have c1' := g1.get 1 rfl
        simp only [Nat.zero_add] at c1'
        have f0 := g1.free 1
        have lg3 := g1.lt
        have tk := g1.turn 1 (.slice A3 (T.length + 1) c3) (by simp)
        have g1' := g1.set 1 (.slice A3 (T.length + 1) c3) (by simp)
        have g2' := g2.keep tk (by simp)
        have g3' := hr3.keep tk (by simp)
        have g4' := g4.keep tk (by simp)
        have fin := t5.trans (tk.up (by simp))
        simp only [Nat.zero_add] at g1' g2' g3' g4' fin
        clear h1 h2 h3 h4 c0 c1 eu lb lg t3 n0 g1 g2 g4 t5 tk hr3
        go_wp2
        go_ret
        exact ⟨ow3, rfl, ⟨Hi2.out, _, _, _, g1', g2', by rw [List.length_append, ETk.css_snoc]; exact g3', g4'⟩, fin⟩

set_option maxRecDepth 100000 in
set_option maxHeartbeats 4000000 in
theorem runlock (h : RT w ow p g U C T) (job res : Int) : Calls Try.prog 64 #[.pointer (some ⟨g, 0, none⟩), .int .i64 job, .int .i64 res] w (RL w ow p g U C (.tuple #[.int .i64 (unlockN U T job res), .int .i64 (unlockE U T job res)]) (unlockT U T job res)) := by
  by_cases q0 : job < 0
  · have hE : unlockE U T job res = 1 := by unfold unlockE; rw [if_pos (.inl q0)]
    unfold unlockT unlockN
    rw [hE, if_neg (by omega), if_neg (by omega)]
    clear hE
    go_enter Try.func64, Try.ntmps64
    go_wp2
    go_ret2
    exact ⟨ow, rfl, h, Turn.refl _ _ _⟩
  have hk := rknown w ow p g U C T h res
  cases hkn : known U res with
  | false =>
    have hE : unlockE U T job res = 1 := by unfold unlockE; rw [if_pos (.inr hkn)]
    unfold unlockT unlockN
    rw [hE, if_neg (by omega), if_neg (by omega)]
    rw [hkn] at hk
    clear hE hkn
    go_enter Try.func64, Try.ntmps64
    go_wp2_with fail
    refine hk.mono ?_
    rintro e w' ⟨rfl, rfl⟩
    go_wp2
    go_ret2
    exact ⟨ow, rfl, h, Turn.refl _ _ _⟩
  | true =>
    rw [hkn] at hk
    have hin := rinner w ow p g U C T h job
    have HNO := fun hn => un_none (U := U) (T := T) (job := job) (res := res) q0 hkn hn
    have HN := fun (ls : List Lk) (l : Lk) hn hr => un_no (U := U) (T := T) (job := job) (res := res) (ls := ls) (l := l) q0 hkn hn hr
    have HY := fun (ls : List Lk) (l : Lk) hn hr => un_yes (U := U) (T := T) (job := job) (res := res) (ls := ls) (l := l) q0 hkn hn hr
    generalize unlockE U T job res = E at *
    generalize unlockN U T job res = N at *
    generalize unlockT U T job res = T' at *
    have HNO := Lib.hid HNO
    have HN1 := Lib.hid HN
    have HY1 := Lib.hid HY
    clear hkn HN HY
    have H := Lib.hid h
    have hl := h.1.len
    obtain ⟨A0, c0, c1, lg, hat⟩ := h.at_
    have Hat := Lib.hid hat
    clear h hat
    unfold RL
    go_enter Try.func64, Try.ntmps64
    go_wp2_with fail
    refine hk.mono ?_
    rintro e w' ⟨rfl, rfl⟩
    clear hk
    go_wp2_with fail
    refine hin.mono ?_
    rintro e w' ⟨j, rfl, hIn, rfl⟩
    clear hin
    rcases hIn with ⟨rfl, hn⟩ | ⟨m, t, rfl, hx, ht, hB⟩
    · have Hn := Lib.hid hn
      clear hn
      go_wp2
      go_ret2
      obtain ⟨r1, r2, r3⟩ := HNO.out Hn.out
      exact ⟨ow, by rw [r1, r2]; rfl, by rw [r3]; exact H.out, Turn.refl _ _ _⟩
    · obtain ⟨hls, hpp⟩ := inner_split hx ht hB
      obtain ⟨b, off, rfl, lb, e0, e1, e2⟩ := Hat.out m t hx
      have hml := (List.getElem?_eq_some_iff.1 hx).1
      have i0 : (m : Int) < (T.length : Int) := by omega
      have i1 : ¬ (m : Int) < 0 := by omega
      have Hls := Lib.hid hls
      have Hpp := Lib.hid hpp
      clear hls hpp hx ht hB
      by_cases q1 : t.res = res
      · have b1 : (t.res == res) = true := beq_iff_eq.2 q1
        have b2 : (t.res != res) = false := by simp [bne, b1]
        have Hq := Lib.hid q1
        clear q1
        go_upto_region 7 with fail
        clear c1 e0 e1 e2
        obtain ⟨hi, VU, VL, VC, h1, h2, hr1, h4⟩ := H.out
        have hc := h1
        obtain ⟨g1, off1, cap1, rfl, hcl1, hcm1, hbl1, -⟩ := hr1.at (by omega)
        have hk1 : (m : Int) + 1 ≤ (T.length : Int) := by omega
        have hk2 : (0 : Int) ≤ (m : Int) + 1 := by omega
        have hj1 : (m : Int) ≤ (cap1 : Int) := by omega
        have ht1 : ((m : Int) + 1).toNat = m + 1 := by omega
        have hwr : IntKind.i64.wrap ((m : Int) + 1) = (m : Int) + 1 := by rw [IntKind.wrap_i64]; omega
        obtain ⟨A', hA, hrd⟩ := hr1.readsFrom_ (m + 1) (by omega)
        have hrt := hr1.readsTo m (by omega)
        have c0 := hc.get 1 rfl
        simp only [Nat.zero_add] at c0
        have hel : m + (T.length - (m + 1)) = (T.take m ++ T.drop (m + 1)).length := by rw [List.length_append, List.length_take, List.length_drop]; omega
        have hcs : (ETk.css T).take (m * 3) ++ (ETk.css T).drop ((m + 1) * 3) = ETk.css (T.take m ++ T.drop (m + 1)) := by rw [ETk.css_append, ETk.css_take, ETk.css_drop]
        have hpp := Hpp.out
        generalize T.take m ++ T.drop (m + 1) = T2 at hel hcs hpp
        replace Hpp := Lib.hid hpp
        clear hpp
        have Hel := Lib.hid hel
        have Hcs := Lib.hid hcs
        have Hi := Lib.hid hi
        clear hel hcs hi h1 H Hat
        refine plain_regionN (fun W' : World => W'.cell? ⟨g, 1, none⟩ = some (.slice (some ⟨g1, off1, none⟩) T.length cap1)) [19] (by kernel_rfl) ?_
        have hS : (fun W' : World => W'.cell? ⟨g, 1, none⟩ = some (.slice (some ⟨g1, off1, none⟩) T.length cap1)) w'.drew := c0
        refine anyX_takeNL 0 (v := ?_) rfl rfl (by as_aux_lemma => kernel_rfl) (by as_aux_lemma => kernel_rfl) (by as_aux_lemma => kernel_rfl) (by as_aux_lemma => kernel_rfl) (by as_aux_lemma => kernel_rfl) (fun _ _ _ h => h) rfl ?_ hS ?_
        rotate_left
        · intro W' hW'
          obtain hW' := hW'
          all_goals (go_simp; first | done | rfl)
        intro l' hl
        dsimp only [List.set_cons_succ, List.set_cons_zero] at hl
        subst hl
        refine anyX_takeNL 2 (v := ?_) rfl rfl (by as_aux_lemma => kernel_rfl) (by as_aux_lemma => kernel_rfl) (by as_aux_lemma => kernel_rfl) (by as_aux_lemma => kernel_rfl) (by as_aux_lemma => kernel_rfl) (fun _ _ _ h => h) rfl ?_ hS ?_
        rotate_left
        · intro W' hW'
          obtain hW' := hW'
          all_goals (go_simp; first | done | rfl)
        intro l' hl
        dsimp only [List.set_cons_succ, List.set_cons_zero] at hl
        subst hl
        refine anyX_takeNL 3 (v := ?_) rfl rfl (by as_aux_lemma => kernel_rfl) (by as_aux_lemma => kernel_rfl) (by as_aux_lemma => kernel_rfl) (by as_aux_lemma => kernel_rfl) (by as_aux_lemma => kernel_rfl) (fun _ _ _ h => h) rfl ?_ hS ?_
        rotate_left
        · intro W' hW'
          obtain hW' := hW'
          all_goals (go_simp; first | done | rfl)
        intro l' hl
        dsimp only [List.set_cons_succ, List.set_cons_zero] at hl
        subst hl
        refine anyX_takeNL 4 (v := ?_) rfl rfl (by as_aux_lemma => kernel_rfl) (by as_aux_lemma => kernel_rfl) (by as_aux_lemma => kernel_rfl) (by as_aux_lemma => kernel_rfl) (by as_aux_lemma => kernel_rfl) (fun _ _ _ h => h) rfl ?_ hS ?_
        rotate_left
        · intro W' hW'
          obtain hW' := hW'
          all_goals (go_simp; first | done | rfl)
        intro l' hl
        dsimp only [List.set_cons_succ, List.set_cons_zero] at hl
        subst hl
        refine anyX_takeNL 5 (v := ?_) rfl rfl (by as_aux_lemma => kernel_rfl) (by as_aux_lemma => kernel_rfl) (by as_aux_lemma => kernel_rfl) (by as_aux_lemma => kernel_rfl) (by as_aux_lemma => kernel_rfl) (fun _ _ _ h => h) rfl ?_ hS ?_
        rotate_left
        · intro W' hW'
          obtain hW' := hW'
          all_goals (go_simp; first | done | rfl)
        intro l' hl
        dsimp only [List.set_cons_succ, List.set_cons_zero] at hl
        subst hl
        refine anyX_takeNL 6 (v := ?_) rfl rfl (by as_aux_lemma => kernel_rfl) (by as_aux_lemma => kernel_rfl) (by as_aux_lemma => kernel_rfl) (by as_aux_lemma => kernel_rfl) (by as_aux_lemma => kernel_rfl) (fun _ _ _ h => h) rfl ?_ hS ?_
        rotate_left
        · intro W' hW'
          obtain hW' := hW'
          all_goals (go_simp; first | done | rfl)
        intro l' hl
        dsimp only [List.set_cons_succ, List.set_cons_zero] at hl
        subst hl
        refine anyX_takeNL 7 (v := ?_) rfl rfl (by as_aux_lemma => kernel_rfl) (by as_aux_lemma => kernel_rfl) (by as_aux_lemma => kernel_rfl) (by as_aux_lemma => kernel_rfl) (by as_aux_lemma => kernel_rfl) (fun _ _ _ h => h) rfl ?_ hS ?_
        rotate_left
        · intro W' hW'
          obtain hW' := hW'
          all_goals (go_simp; first | done | rfl)
        intro l' hl
        dsimp only [List.set_cons_succ, List.set_cons_zero] at hl
        subst hl
        refine anyX_takeNL 9 (v := ?_) rfl rfl (by as_aux_lemma => kernel_rfl) (by as_aux_lemma => kernel_rfl) (by as_aux_lemma => kernel_rfl) (by as_aux_lemma => kernel_rfl) (by as_aux_lemma => kernel_rfl) (fun _ _ _ h => h) rfl ?_ hS ?_
        rotate_left
        · intro W' hW'
          obtain hW' := hW'
          all_goals (go_simp; first | done | rfl)
        intro l' hl
        dsimp only [List.set_cons_succ, List.set_cons_zero] at hl
        subst hl
        refine anyX_takeNL 10 (v := ?_) rfl rfl (by as_aux_lemma => kernel_rfl) (by as_aux_lemma => kernel_rfl) (by as_aux_lemma => kernel_rfl) (by as_aux_lemma => kernel_rfl) (by as_aux_lemma => kernel_rfl) (fun _ _ _ h => h) rfl ?_ hS ?_
        rotate_left
        · intro W' hW'
          obtain hW' := hW'
          all_goals (go_simp; first | done | rfl)
        intro l' hl
        dsimp only [List.set_cons_succ, List.set_cons_zero] at hl
        subst hl
        refine anyX_takeNL 11 (v := ?_) rfl rfl (by as_aux_lemma => kernel_rfl) (by as_aux_lemma => kernel_rfl) (by as_aux_lemma => kernel_rfl) (by as_aux_lemma => kernel_rfl) (by as_aux_lemma => kernel_rfl) (fun _ _ _ h => h) rfl ?_ hS ?_
        rotate_left
        · intro W' hW'
          obtain hW' := hW'
          all_goals (go_simp; first | done | rfl)
        intro l' hl
        dsimp only [List.set_cons_succ, List.set_cons_zero] at hl
        subst hl
        refine anyX_takeNL 12 (v := ?_) rfl rfl (by as_aux_lemma => kernel_rfl) (by as_aux_lemma => kernel_rfl) (by as_aux_lemma => kernel_rfl) (by as_aux_lemma => kernel_rfl) (by as_aux_lemma => kernel_rfl) (fun _ _ _ h => h) rfl ?_ hS ?_
        rotate_left
        · intro W' hW'
          obtain hW' := hW'
          all_goals (go_simp; first | done | rfl)
        intro l' hl
        dsimp only [List.set_cons_succ, List.set_cons_zero] at hl
        subst hl
        refine anyX_takeNL 13 (v := ?_) rfl rfl (by as_aux_lemma => kernel_rfl) (by as_aux_lemma => kernel_rfl) (by as_aux_lemma => kernel_rfl) (by as_aux_lemma => kernel_rfl) (by as_aux_lemma => kernel_rfl) (fun _ _ _ h => h) rfl ?_ hS ?_
        rotate_left
        · intro W' hW'
          obtain hW' := hW'
          all_goals (go_simp; first | done | rfl)
        intro l' hl
        dsimp only [List.set_cons_succ, List.set_cons_zero] at hl
        subst hl
        refine anyX_takeNL 14 (v := ?_) rfl rfl (by as_aux_lemma => kernel_rfl) (by as_aux_lemma => kernel_rfl) (by as_aux_lemma => kernel_rfl) (by as_aux_lemma => kernel_rfl) (by as_aux_lemma => kernel_rfl) (fun _ _ _ h => h) rfl ?_ hS ?_
        rotate_left
        · intro W' hW'
          obtain hW' := hW'
          all_goals (go_simp; first | done | rfl)
        intro l' hl
        dsimp only [List.set_cons_succ, List.set_cons_zero] at hl
        subst hl
        refine anyX_takeNL 15 (v := ?_) rfl rfl (by as_aux_lemma => kernel_rfl) (by as_aux_lemma => kernel_rfl) (by as_aux_lemma => kernel_rfl) (by as_aux_lemma => kernel_rfl) (by as_aux_lemma => kernel_rfl) (fun _ _ _ h => h) rfl ?_ hS ?_
        rotate_left
        · intro W' hW'
          obtain hW' := hW'
          all_goals (go_simp; first | done | rfl)
        intro l' hl
        dsimp only [List.set_cons_succ, List.set_cons_zero] at hl
        subst hl
        refine anyX_one (i := 1) (by kernel_rfl) rfl rfl fun K' hK' => ?_
        unfold Oper.wp
        go_simp
        refine hK' _ _ (fun _ => cell_alloc hS _) ?_
        clear hK' K'
        refine anyX_one (i := 8) (by kernel_rfl) rfl rfl fun K' hK' => ?_
        refine wp_append_row (.tmp 44) (.tmp 50) 114 114 rfl 132 _ 3 24 Try.underlying114 ETk.info rfl rfl (Row.new0 w'.drew ow0 [1] 132 3) rfl ((hrt.drew.new_ ((Below.refl _ _).alloc (Nat.le_refl _) _)).src Try.underlying114 (by rw [← ETk.css_take, ETk.css_length, List.length_take]; omega) (fun u hu => ETk.css_one T u (List.mem_of_mem_take hu))) (by unfold maxLen; omega) (by omega) ?_
        intro v3 w3 ow3 hr3 t3
        have t3 := ((Turn.refl [1] w'.drew ow0).alloc (.cells #[] 132) [1]).trans t3
        have n3 := t3.new_ ow [1]
        simp only [Nat.zero_add, List.nil_append] at hr3
        obtain ⟨A3, c3, rfl, hnc3⟩ := hr3.slice
        have hS3 : (fun W' : World => W'.cell? ⟨g, 1, none⟩ = some (.slice (some ⟨g1, off1, none⟩) T.length cap1)) w3 := by have := (hc.drew.new_ n3).get 1 rfl; simpa only [Nat.zero_add] using this
        change K' (Act.put _ (some 51) _) _
        refine hK' _ _ (fun _ => hS3) ?_
        clear hK' K'
        simp only [Act.put, List.setIfInBounds_toArray, List.set_cons_succ, List.set_cons_zero]
        refine anyX_one (i := 16) (by kernel_rfl) rfl rfl fun K' hK' => ?_
        refine wp_append_row (.tmp 51) (.tmp 58) 114 114 rfl 132 _ 3 24 Try.underlying114 ETk.info rfl rfl hr3 rfl ((hrd.drew.new_ n3.below).src Try.underlying114 (by rw [← ETk.css_drop, ETk.css_length, List.length_drop]) (fun u hu => ETk.css_one T u (List.mem_of_mem_drop hu))) (by unfold maxLen; omega) (by omega) ?_
        intro v4 w4 ow4 hr4 t4
        have t4 := t3.trans t4
        have n4 := t4.new_ ow (p ++ [2])
        have hr5 := hr4.ren t4 ow (p ++ [2])
        generalize ow.ren w'.drew.heap.size ow4 (p ++ [2]) = ow5 at *
        rw [Hcs.out, List.append_nil, Hel.out] at hr5
        rw [Hel.out] at hr4
        clear hr4 t3 hr3 hrd hrt n3 hS3 hS
        obtain ⟨A4, c4, rfl, -⟩ := hr5.slice
        have hc4 := hc.drew.new_ n4
        have hS : (fun W' : World => W'.cell? ⟨g, 1, none⟩ = some (.slice (some ⟨g1, off1, none⟩) T.length cap1)) w4 := by have := hc4.get 1 rfl; simpa only [Nat.zero_add] using this
        change K' (Act.put _ (some 59) _) _
        refine hK' _ _ (fun _ => hS) ?_
        clear hK' K'
        simp only [Act.put, List.setIfInBounds_toArray, List.set_cons_succ, List.set_cons_zero]
        refine anyX_one (i := 17) (by kernel_rfl) rfl rfl fun K' hK' => ?_
        unfold Oper.wp
        go_simp
        refine hK' _ _ (fun _ => hS) ?_
        clear hK' K'
        refine anyX_one (i := 18) (by kernel_rfl) rfl rfl fun K' hK' => ?_
        unfold Oper.wp
        go_simp
        refine hK' _ _ (fun _ => hS) ?_
        clear hK' K'
        have c0' := hc4.get 1 rfl
        have f0 := hc4.free 1
        have lg4 := hc4.lt
        simp only [Nat.zero_add] at c0'
        refine anyX_one (i := 19) (by kernel_rfl) rfl rfl fun K' hK' => ?_
        unfold Oper.wp
        go_simp
        refine hK' _ _ (fun hf => by cases hf) (anyX_done (by kernel_rfl) ?_ _)
        refine NoPanic.normal ?_
        clear hK' K'
        have tb := hc4.turn 1 (.slice A4 T2.length c4) (by simp)
        have hc5 := hc4.set 1 (.slice A4 T2.length c4) (by simp)
        have hr6 := hr5.keep tb (by simp)
        have h26 := (h2.drew.new_ n4).keep tb (by simp)
        have h46 := (h4.drew.new_ n4).keep tb (by simp)
        have fin := (((Turn.refl p w' ow).drew).trans (n4.turn p)).trans (tb.up (by simp))
        simp only [Nat.zero_add] at tb hc5 hr6 h26 h46 fin
        generalize w4.setCell ⟨g, 1, none⟩ (.slice A4 T2.length c4) = w6 at *
        clear hc4 c0' f0 lg4 tb hr5 n4 t4 hS hc c0 hr1 h2 h4 hA
        go_wp2
        go_ret2
        obtain ⟨r1, r2, r3⟩ := HY1.out _ _ Hls.out Hq.out
        exact ⟨ow5, by rw [r1, r2]; rfl, by rw [r3, Hpp.out]; exact ⟨by have := Hi.out.pop Hls.out; rw [Hpp.out] at this; exact this, _, _, _, hc5, h26, hr6, h46⟩, fin⟩
      · have b1 : (t.res == res) = false := beq_eq_false_iff_ne.2 q1
        have b2 : (t.res != res) = true := by simp [bne, b1]
        have Hq := Lib.hid q1
        clear q1
        go_wp2
        go_ret2
        obtain ⟨r1, r2, r3⟩ := HN1.out _ _ Hls.out Hq.out
        exact ⟨ow, by rw [r1, r2]; rfl, by rw [r3]; exact H.out, Turn.refl _ _ _⟩
end
end RT5
end Go.Proofs.Ytefagdbdimpcdaa
