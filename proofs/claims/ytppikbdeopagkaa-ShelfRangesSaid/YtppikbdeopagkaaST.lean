/-
  LAW 1: ShelfTaken: what is taken of Levels: in plain words, and the walk.
-/
import Derived.Test.YtppikbdeopagkaaSR
import Derived.Test.YtppikbdeopagkaaEOpP
import Derived.Test.YtppikbdeopagkaaWithin
import Derived.Test.YtppikbdeopagkaaCalc
import Derived.Deep.DeepCutAuto
set_option linter.unusedVariables false
set_option linter.unusedSimpArgs false
namespace Go.Proofs.Ytppikbdeopagkaa
open Go Go.RowKit
namespace SH

theorem hi_cases (qs : List (List Int)) : ∀ n, n ≤ qs.length → (∃ i x xs, EInt.hiTo qs n = i + 1 ∧ i < n ∧ qs[i]? = some (x :: xs) ∧ ∀ j, i < j → j < n → qs[j]? = some []) ∨ (EInt.hiTo qs n = 0 ∧ ∀ j, j < n → qs[j]? = some [])
  | 0, _ => .inr ⟨rfl, fun j h => by omega⟩
  | n + 1, h => by
    obtain ⟨l, hl⟩ : ∃ l, qs[n]? = some l := ⟨_, List.getElem?_eq_getElem (by omega)⟩
    cases l with
    | cons x xs => exact .inl ⟨n, x, xs, by simp [EInt.hiTo, hl], by omega, hl, fun j h1 h2 => by omega⟩
    | nil =>
      have e : EInt.hiTo qs (n + 1) = EInt.hiTo qs n := by simp [EInt.hiTo, hl]
      have last : ∀ j, ¬ j < n → j < n + 1 → qs[j]? = some [] := fun j h1 h2 => by
        obtain rfl : j = n := by omega
        exact hl
      rcases hi_cases qs n (by omega) with ⟨i, x, xs, h1, h2, h3, h4⟩ | ⟨h1, h2⟩
      · exact .inl ⟨i, x, xs, e.trans h1, by omega, h3, fun j hj1 hj2 => by
          by_cases hj : j < n
          · exact h4 j hj1 hj
          · exact last j hj hj2⟩
      · exact .inr ⟨e.trans h1, fun j hj2 => by
          by_cases hj : j < n
          · exact h2 j hj
          · exact last j hj hj2⟩

theorem total_set (ys xs : List Int) : ∀ (qs : List (List Int)) (i : Nat), qs[i]? = some xs → EInt.total (qs.set i ys) + xs.length = EInt.total qs + ys.length
  | [], i, h => by simp at h
  | q :: qs, 0, h => by
    have : q = xs := by simpa using h
    subst this
    simp only [EInt.total, List.set_cons_zero, List.map_cons, List.sum_cons]
    omega
  | q :: qs, i + 1, h => by
    have := total_set ys xs qs i (by simpa using h)
    simp only [EInt.total, List.set_cons_succ, List.map_cons, List.sum_cons] at this ⊢
    omega
theorem total_mem (qs : List (List Int)) (xs : List Int) (h : xs ∈ qs) : xs.length ≤ EInt.total qs := by
  induction qs with
  | nil => cases h
  | cons q qs ih =>
    simp only [EInt.total, List.map_cons, List.sum_cons] at ih ⊢
    rcases List.mem_cons.1 h with rfl | h
    · omega
    · have := ih h; omega
theorem total_take_le (qs : List (List Int)) (m : Nat) : EInt.total (qs.take m) ≤ EInt.total qs := by
  induction qs generalizing m with
  | nil => simp [EInt.total]
  | cons q qs ih =>
    cases m with
    | zero => simp [EInt.total]
    | succ m =>
      have := ih m
      simp only [EInt.total, List.take_succ_cons, List.map_cons, List.sum_cons] at this ⊢
      omega
theorem total_none (qs : List (List Int)) (h : ∀ j, j < qs.length → qs[j]? = some []) : EInt.total qs = 0 := by
  induction qs with
  | nil => rfl
  | cons q qs ih =>
    have h0 : q = [] := by simpa using h 0 (by simp)
    have := ih fun j hj => by simpa using h (j + 1) (by simp; omega)
    simp only [EInt.total, List.map_cons, List.sum_cons] at this ⊢
    rw [h0, this]; rfl
theorem total_nil (n : Nat) : EInt.total (List.replicate n []) = 0 := by simp [EInt.total]

/-- What is in the queues: numbers of Puts, rising, each at its level. -/
def Tk (ys : List Op1) (k : Nat) (qs : List (List Int)) : Prop :=
  ∀ (i : Nat) (l : List Int), qs[i]? = some l → l.Pairwise (· < ·) ∧ ∀ x ∈ l, ∃ j : Nat, x = (j : Int) ∧ j < k ∧ ∃ o, ys[j]? = some o ∧ o.level = (i : Int) + 1
theorem Tk.up {ys : List Op1} {k : Nat} {qs : List (List Int)} (h : Tk ys k qs) : Tk ys (k + 1) qs := fun i l hl => by
  obtain ⟨h1, h2⟩ := h i l hl
  refine ⟨h1, fun x hx => ?_⟩
  obtain ⟨j, e, hj, r⟩ := h2 x hx
  exact ⟨j, e, by omega, r⟩
theorem Tk.put {ys : List Op1} {k i : Nat} {qs : List (List Int)} {l : List Int} {o : Op1} (h : Tk ys k qs) (ho : ys[k]? = some o) (hlv : o.level = (i : Int) + 1) (hl : qs[i]? = some l) : Tk ys (k + 1) (qs.set i (l ++ [(k : Int)])) := fun j m hm => by
  by_cases e : j = i
  · subst e
    have hlt := (List.getElem?_eq_some_iff.1 hl).1
    have : m = l ++ [(k : Int)] := by simpa [hlt] using hm.symm
    subst this
    obtain ⟨h1, h2⟩ := h j l hl
    refine ⟨List.pairwise_append.2 ⟨h1, List.pairwise_singleton _ _, fun a ha b hb => ?_⟩, fun x hx => ?_⟩
    · obtain ⟨t, rfl, ht, -⟩ := h2 a ha
      have : b = (k : Int) := by simpa using hb
      omega
    · rcases List.mem_append.1 hx with hx | hx
      · exact (h.up j l hl).2 x hx
      · have : x = (k : Int) := by simpa using hx
        exact ⟨k, this, by omega, o, ho, hlv⟩
  · rw [List.getElem?_set_ne (Ne.symm e)] at hm
    exact h.up j m hm
theorem Tk.take {ys : List Op1} {k i : Nat} {qs : List (List Int)} {l : List Int} {x : Int} (h : Tk ys k qs) (hl : qs[i]? = some (x :: l)) : Tk ys k (qs.set i l) := fun j m hm => by
  by_cases e : j = i
  · subst e
    have hlt := (List.getElem?_eq_some_iff.1 hl).1
    have : m = l := by simpa [hlt] using hm.symm
    subst this
    obtain ⟨h1, h2⟩ := h j _ hl
    exact ⟨(List.pairwise_cons.1 h1).2, fun y hy => h2 y (List.mem_cons_of_mem _ hy)⟩
  · rw [List.getElem?_set_ne (Ne.symm e)] at hm
    exact h j m hm
/-- Above the level that was taken last there is nothing; at it greater numbers alone. -/
def Lo (qs : List (List Int)) (last number : Int) : Prop :=
  ∀ (i : Nat) (l : List Int), qs[i]? = some l → (last < (i : Int) + 1 → l = []) ∧ (last = (i : Int) + 1 → ∀ x ∈ l, number < x)
theorem Lo.take {ys : List Op1} {k i : Nat} {qs : List (List Int)} {l : List Int} {x last number : Int} (h : Lo qs last number) (ht : Tk ys k qs) (hl : qs[i]? = some (x :: l)) (hi : ∀ j, i < j → j < qs.length → qs[j]? = some []) :
    ¬ last < (i : Int) + 1 ∧ (last = (i : Int) + 1 → number < x) ∧ Lo (qs.set i l) ((i : Int) + 1) x := by
  obtain ⟨a1, a2⟩ := h i _ hl
  refine ⟨fun hlt => (by cases a1 hlt), fun e => a2 e x List.mem_cons_self, fun j m hm => ?_⟩
  by_cases e : j = i
  · subst e
    have hlt := (List.getElem?_eq_some_iff.1 hl).1
    have : m = l := by simpa [hlt] using hm.symm
    subst this
    exact ⟨fun hh => by omega, fun _ => (List.pairwise_cons.1 (ht j _ hl).1).1⟩
  · rw [List.getElem?_set_ne (Ne.symm e)] at hm
    have hlt := (List.getElem?_eq_some_iff.1 hm).1
    refine ⟨fun hh => ?_, fun hh => by omega⟩
    have := hi j (by omega) hlt
    rw [hm] at this
    exact Option.some.inj this

/-- What the loop of Puts keeps. -/
def putRel (w : World) (g n : Nat) (ys : List Op1) (gn : Nat) (i puts : Value) (wr : World) : Prop :=
  ∃ (k : Nat) (OW : Ow) (qs : List (List Int)), gn = ys.length - k ∧ k ≤ ys.length ∧ i = .int .i64 (k : Int) ∧ puts = .int .i64 (EInt.total qs : Int) ∧ qs.length = n ∧ EInt.total qs ≤ k ∧ Tk ys k qs ∧ EInt.L wr OW [1, 0] g 0 qs ∧ Turn [1] w ow0 wr OW
/-- What the loop of Takes keeps. -/
def takeRel (w : World) (g n : Nat) (ys : List Op1) (N : Nat) (gn : Nat) (i last number : Value) (wr : World) : Prop :=
  ∃ (k : Nat) (OW : Ow) (qs : List (List Int)) (a b : Int), gn = N - k ∧ i = .int .i64 (k : Int) ∧ last = .int .i64 a ∧ number = .int .i64 b ∧ qs.length = n ∧ EInt.total qs + k = N ∧ Tk ys ys.length qs ∧ Lo qs a b ∧ EInt.L wr OW [1, 0] g 0 qs ∧ Turn [1] w ow0 wr OW

set_option maxRecDepth 100000 in
set_option maxHeartbeats 16000000 in
theorem taken (w : World) (n : Int) (hn : -9223372036854775808 ≤ n ∧ n ≤ 9223372036854775807) (v : Value) (xs : List Op1) (h : EOp.In w v xs) : Calls Try.prog 10 #[.int .i64 n, v] w fun e w' => e = .returned (.bool true) ∧ Below w.heap.size w w' := by
  go_enter Try.func10, Try.ntmps10
  go_wp2_with fail
  refine (EOp.few w v xs 300 h (by omega)).mono ?_
  rintro e w0 ⟨v1, rfl, hin, hw0⟩
  rw [hw0]
  clear hw0 w0
  have hlen : (xs.take 300).length ≤ 300 := by rw [List.length_take]; omega
  generalize xs.take 300 = ys at *
  clear h
  obtain ⟨A, cap, rfl, hcap, hmax, hcov⟩ := hin
  have Hc := Lib.hid hcov
  clear hcov hmax
  go_wp2_with fail
  refine (within w n 1 32 (by omega) (by omega) (by omega) hn).mono ?_
  rintro e w9 ⟨m', rfl, hm1, hm2, hw9⟩
  rw [hw9]
  clear hw9 w9
  clear hn
  obtain ⟨m, rfl⟩ : ∃ m : Nat, m' = m := ⟨m'.toNat, by omega⟩
  have m1 : 1 ≤ m := by omega
  have m2 : m ≤ 32 := by omega
  clear hm1 hm2
  go_wp2_with fail
  refine (EInt.l_new w ow0 [1, 0] m m1 m2).mono ?_
  rintro e w1 ⟨g, ow1, rfl, h1, nn, -⟩
  have t1 := nn.turn [1]
  clear nn
  go_wp2_with fail
  go_loopg [8, 7] ys.length (fun gn i puts wr => putRel w g m ys gn i puts wr)
  case atStart =>
    refine ⟨0, ow1, _, rfl, Nat.zero_le _, rfl, ?_, List.length_replicate, ?_, fun i l hl => ?_, h1, t1⟩
    · rw [total_nil]; rfl
    · rw [total_nil]; omega
    · have hlt : i < m := by have := (List.getElem?_eq_some_iff.1 hl).1; simpa using this
      have : l = [] := by simpa [hlt] using hl.symm
      subst this
      exact ⟨List.Pairwise.nil, fun x hx => by cases hx⟩
  case round =>
    clear h1 t1
    obtain ⟨k, OW, qs, hgk, hk, rfl, rfl, hql, htot, htk, hL, t⟩ := hrel
    have Hgk := Lib.hid hgk
    have Hql := Lib.hid hql
    have bl := (t.new_ ow0 [1]).below
    clear hgk hql
    by_cases hlt : k < ys.length
    · obtain ⟨o, ho⟩ : ∃ o, ys[k]? = some o := ⟨_, List.getElem?_eq_getElem hlt⟩
      obtain ⟨b, off, rfl, c0, c1, c2⟩ := (Hc.out.new_ bl).at k o ho
      have Ho := Lib.hid ho
      clear ho
      have i0 : (k : Int) < (ys.length : Int) := by omega
      by_cases hk0 : o.kind = 0
      · by_cases hlv : o.level < 1 ∨ (m : Int) < o.level
        · have hput := EInt.l_put_out wr OW [1, 0] g 0 qs o.level (k : Int) hL (by rw [Hql.out]; omega) (by rw [Hql.out]; exact hlv)
          have Hput := Lib.hid hput
          clear hput
          go_wp2_with fail
          refine Hput.out.mono ?_
          rintro e w2 ⟨rfl, b2⟩
          have hL := hL.new_ (b2.nw OW)
          have t := t.trans ((b2.nw OW).turn [1])
          clear Hput c0 c1 c2
          go_wp2_with fail
          go_roundg (ys.length - (k + 1))
          case measure => have := Hgk.out; omega
          case rel => exact ⟨k + 1, OW, qs, rfl, by omega, by go_num, rfl, Hql.out, by omega, htk.up, hL, t⟩
        · obtain ⟨i, hi⟩ : ∃ i : Nat, o.level = (i : Int) + 1 := ⟨(o.level - 1).toNat, by omega⟩
          have him : i < m := by omega
          obtain ⟨l, hl⟩ : ∃ l, qs[i]? = some l := ⟨_, List.getElem?_eq_getElem (by rw [Hql.out]; exact him)⟩
          have hmem := total_mem qs l (List.mem_of_getElem? hl)
          have hput := EInt.l_put wr OW [1, 0] g 0 qs o.level i l (k : Int) hL (by rw [Hql.out]; omega) hi hl (by omega)
          have hnew := htk.put Ho.out hi hl
          have htt := total_set (l ++ [(k : Int)]) l qs i hl
          have Hput := Lib.hid hput
          have Hnew := Lib.hid hnew
          rw [List.length_append, List.length_cons, List.length_nil] at htt
          have hT1 : EInt.total (qs.set i (l ++ [(k : Int)])) = EInt.total qs + 1 := by omega
          have HT1 := Lib.hid hT1
          clear hput hnew hlv hi htt hT1
          go_wp2_with fail
          refine Hput.out.mono ?_
          rintro e w2 ⟨OW2, rfl, hL2, t2⟩
          have t2 := t.trans (t2.up (by simp))
          clear Hput c0 c1 c2 hL t
          go_wp2_with fail
          go_roundg (ys.length - (k + 1))
          case measure => have := Hgk.out; omega
          case rel =>
            refine ⟨k + 1, OW2, _, rfl, by omega, by go_num, ?_, by rw [List.length_set]; exact Hql.out, by rw [HT1.out]; omega, Hnew.out, hL2, t2⟩
            rw [HT1.out]; go_num
      · go_wp2_with fail
        go_roundg (ys.length - (k + 1))
        case measure => have := Hgk.out; omega
        case rel => exact ⟨k + 1, OW, qs, rfl, by omega, by go_num, rfl, Hql.out, by omega, htk.up, hL, t⟩
    · obtain rfl : k = ys.length := by omega
      clear hk hlt Hgk bl
      obtain ⟨N, hN⟩ : ∃ N, EInt.total qs = N := ⟨_, rfl⟩
      rw [hN] at htot ⊢
      go_wp2_with fail
      obtain ⟨wo, hwo⟩ : ∃ wo : World, wo = wr := ⟨_, rfl⟩
      subst hwo
      go_loopg [11, 9, 10] N (fun gn i last number wr => takeRel w g m ys N gn i last number wr)
      case atStart =>
        refine ⟨0, OW, qs, (m : Int) + 1, -1, rfl, rfl, by go_num, rfl, Hql.out, hN, htk, fun i l hl => ?_, hL, t⟩
        have := (List.getElem?_eq_some_iff.1 hl).1
        have := Hql.out
        exact ⟨fun _ => by omega, fun _ => by omega⟩
      case round =>
        clear hL t htk hN Hql
        clear OW qs
        obtain ⟨k, OW, qs, a, b, hgk, rfl, rfl, rfl, hql, htot', htk, hlo, hL, t⟩ := hrel
        have Hgk := Lib.hid hgk
        have Hql := Lib.hid hql
        have Htot := Lib.hid htot'
        have bl := (t.new_ ow0 [1]).below
        have hsm : ∀ xs ∈ qs, xs.length ≤ 1099511627776 := fun xs hx => by have := total_mem qs xs hx; omega
        have Hsm := Lib.hid hsm
        clear hgk hql hsm htot'
        rcases hi_cases qs qs.length (Nat.le_refl _) with ⟨i, x, l, e1, e2, e3, e4⟩ | ⟨e1, e2⟩
        · have hmem := total_mem qs _ (List.mem_of_getElem? e3)
          rw [List.length_cons] at hmem
          have hkN : (k : Int) < (N : Int) := by have := Htot.out; omega
          have htake := EInt.l_take_some wr OW [1, 0] g 0 qs i x l hL Hsm.out (by rw [Hql.out]; omega) e1 e3
          obtain ⟨f1, f2, f3⟩ := hlo.take htk e3 e4
          have hnew := htk.take e3
          have htt := total_set l _ qs i e3
          rw [List.length_cons] at htt
          obtain ⟨j, rfl, hj, o, ho, holv⟩ := (htk i _ e3).2 x List.mem_cons_self
          have Ho := Lib.hid ho
          have Hnew := Lib.hid hnew
          have Htt := Lib.hid htt
          have Htake := Lib.hid htake
          have F3 := Lib.hid f3
          have hlen2 : (qs.set i l).length = m := by rw [List.length_set]; exact Hql.out
          have Hlen2 := Lib.hid hlen2
          clear htt htake hlo htk hnew e1 e2 e4 hmem f3 hlen2 Hsm
          go_wp2_with fail
          refine Htake.out.mono ?_
          rintro e w2 ⟨OW2, rfl, hL2, t2⟩
          have t2 := t.trans (t2.up (by simp))
          have bl2 := (t2.new_ ow0 [1]).below
          obtain ⟨b', off, rfl, c0, c1, c2⟩ := (Hc.out.new_ bl2).at j o Ho.out
          rw [holv] at c1
          clear Htake hL t holv ho e3
          by_cases hab : a = (i : Int) + 1
          · have f2 := f2 hab
            subst hab
            have f4 : ¬ (j : Int) ≤ b := by omega
            clear f1
            go_wp2_with fail
            go_roundg (N - (k + 1))
            case measure => have := Hgk.out; omega
            case rel => exact ⟨k + 1, OW2, _, _, _, rfl, by go_num, rfl, rfl, Hlen2.out, by have := Htt.out; have := Htot.out; omega, Hnew.out, F3.out, hL2, t2⟩
          · have f5 : ¬ (i : Int) + 1 = a := fun e => hab e.symm
            clear f2
            go_wp2_with fail
            go_roundg (N - (k + 1))
            case measure => have := Hgk.out; omega
            case rel => exact ⟨k + 1, OW2, _, _, _, rfl, by go_num, rfl, rfl, Hlen2.out, by have := Htt.out; have := Htot.out; omega, Hnew.out, F3.out, hL2, t2⟩
        · have h0 := total_none qs e2
          have hkN : ¬ (k : Int) < (N : Int) := by have := Htot.out; omega
          have htake := EInt.l_take_none wr OW [1, 0] g 0 qs hL Hsm.out (by rw [Hql.out]; omega) e1
          have hln := fun W (hW : Below wr.heap.size wr W) => EInt.l_len W OW [1, 0] g 0 qs (hL.new_ (hW.nw OW)) Hsm.out (by rw [Hql.out]; omega) (fun m => by have := total_take_le qs m; omega)
          rw [h0] at hln
          have Htake := Lib.hid htake
          have Hln := Lib.hid hln
          clear htake hln e1 e2 hlo htk hL
          go_wp2_with fail
          refine Htake.out.mono ?_
          rintro e w2 ⟨rfl, b2⟩
          go_wp2_with fail
          refine (Hln.out _ b2).mono ?_
          rintro e w3 ⟨rfl, k3, rfl⟩
          have B3 := bdN b2 k3
          generalize w2.drewN k3 = w3 at *
          have fin := bl.trans (B3.mono bl.size)
          go_wp2_with fail
          refine (runs w3).mono ?_
          rintro e w5 ⟨rfl, b5⟩
          have fin := fin.trans (b5.mono fin.size)
          go_wp2
          go_ret
          exact ⟨rfl, fin⟩

end SH
end Go.Proofs.Ytppikbdeopagkaa
