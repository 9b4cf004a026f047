/-
  UNITS.TABLE: Lock, Unlock, Drop: what they answer and leave.
-/
import Derived.Test.YtefagdbdimpcdaaU5
import Derived.LoopTactic
import Derived.Deep.LoopGhost
set_option linter.unusedVariables false
set_option linter.unusedSimpArgs false
namespace Go.Proofs.Ytefagdbdimpcdaa
open Go Go.RowKit
namespace UN

/-- What a call leaves that may turn the table. -/
def UL (w : World) (ow : Ow) (p : List Nat) (g : Nat) (U C : List Int) (v : Value) (T : List Tk) (e : Ending) (w' : World) : Prop := ∃ ow', e = .returned v ∧ UT w' ow' p g U C T ∧ Turn p w ow w' ow'

def unlockE (U : List Int) (T : List Tk) (job res : Int) : Int := if job < 0 ∨ known U res = false then 1 else match (locksOf T job).getLast? with | none => 21 | some l => if l.res = res then 0 else 21
def lastN (T : List Tk) (job : Int) : Int := match (locksOf T job).getLast? with | none => 0 | some l => l.n
def unlockN (U : List Int) (T : List Tk) (job res : Int) : Int := if unlockE U T job res = 0 then lastN T job else 0
def unlockT (U : List Int) (T : List Tk) (job res : Int) : List Tk := if unlockE U T job res = 0 then popT job T else T

theorem drop_take {α : Type} (ls : List α) (k : Nat) (l : α) (h : ls[k]? = some l) : ls.take (k + 1) = ls.take k ++ [l] := by rw [List.take_add_one, h]; rfl

section
variable (w : World) (ow : Ow) (p : List Nat) (g : Nat) (U C : List Int) (T : List Tk)

theorem lock (h : UT w ow p g U C T) (job res n need : Int) :
    Calls Try.prog 12 #[.pointer (some ⟨g, 0, none⟩), .int .i64 job, .int .i64 res, .int .i64 n, .int .i64 need] w (UL w ow p g U C (.int .i64 (lockE U T job res n need)) (lockT U T job res n need)) := by
  by_cases hb : job < 0 ∨ known U res = false ∨ n < 1 ∨ unitsOf U res < n
  · have hE : lockE U T job res n need = 1 := by unfold lockE; rw [if_pos hb]
    unfold lockT
    rw [hE, if_neg (by omega)]
    refine (lock_no1 w ow p g U C T h job res n need hb).mono ?_
    rintro e w' ⟨rfl, bd⟩
    exact ⟨ow, rfl, h.new_ (bd.nw ow), (bd.nw ow).turn p⟩
  · have hk : known U res = true := by
      cases hk : known U res with
      | true => rfl
      | false => exact absurd (.inr (.inl hk)) hb
    obtain ⟨r, rfl, hr, -⟩ := known_yes hk
    exact lock_in w ow p g U C T h job n need r (by omega) hr (by omega) (by omega)

set_option maxRecDepth 100000 in
set_option maxHeartbeats 4000000 in
theorem unlock (h : UT w ow p g U C T) (job res : Int) :
    Calls Try.prog 17 #[.pointer (some ⟨g, 0, none⟩), .int .i64 job, .int .i64 res] w (UL w ow p g U C (.tuple #[.int .i64 (unlockN U T job res), .int .i64 (unlockE U T job res)]) (unlockT U T job res)) := by
  obtain ⟨rows, h⟩ := h
  have hhas := has w ow p g U C T rows h res
  change Calls _ _ _ _ fun e w' => e = .returned (.bool (known U res)) ∧ _ at hhas
  unfold unlockN unlockT
  by_cases hj : job < 0
  · have hE : unlockE U T job res = 1 := by unfold unlockE; rw [if_pos (.inl hj)]
    rw [hE, if_neg (by omega), if_neg (by omega)]
    go_enter Try.func17, Try.ntmps17
    go_wp2
    go_ret2
    exact ⟨ow, rfl, ⟨rows, h⟩, Turn.refl _ _ _⟩
  · cases hk : known U res with
    | false =>
      have hE : unlockE U T job res = 1 := by unfold unlockE; rw [if_pos (.inr hk)]
      rw [hk] at hhas
      rw [hE, if_neg (by omega), if_neg (by omega)]
      clear hk hE
      go_enter Try.func17, Try.ntmps17
      go_wp2_with fail
      refine hhas.mono ?_
      rintro e w1 ⟨rfl, k, hw'⟩
      have n1 : New w ow w1 ow := by rw [hw']; exact (New.refl _ _).drewN k
      clear hw' hhas
      go_wp2
      go_ret2
      exact ⟨ow, rfl, ⟨rows, h.new_ n1⟩, n1.turn p⟩
    | true =>
      rw [hk] at hhas
      have hE : unlockE U T job res = match (locksOf T job).getLast? with | none => 21 | some l => if l.res = res then 0 else 21 := by unfold unlockE; rw [if_neg (by simp [hj, hk])]
      clear hk
      by_cases hn : locksOf T job = []
      · have hE2 : unlockE U T job res = 21 := by rw [hE, hn]; rfl
        rw [hE2, if_neg (by omega), if_neg (by omega)]
        clear hE hE2
        go_enter Try.func17, Try.ntmps17
        go_wp2_with fail
        refine hhas.mono ?_
        rintro e w1 ⟨rfl, k, hw'⟩
        have n1 : New w ow w1 ow := by rw [hw']; exact (New.refl _ _).drewN k
        have h1 := h.new_ n1
        clear hw' hhas h
        go_wp2_with fail
        refine (get_no w1 ow p g U C T rows h1 job hn).mono ?_
        rintro e w2 ⟨rfl, hb⟩
        go_wp2
        go_ret2
        exact ⟨ow, rfl, ⟨rows, h1.new_ (hb.nw ow)⟩, (n1.trans (hb.nw ow)).turn p⟩
      · obtain ⟨ls, l, hl⟩ : ∃ ls l, locksOf T job = ls ++ [l] := ⟨_, _, (List.dropLast_concat_getLast hn).symm⟩
        have hE2 : unlockE U T job res = if l.res = res then 0 else 21 := by rw [hE, hl]; simp
        have hN : lastN T job = l.n := by unfold lastN; rw [hl]; simp
        have hll : ls.length ≤ 1099511627776 := by
          have h1 := locks_len T job
          have h2 := h.1.len
          rw [hl, List.length_append] at h1
          omega
        have Hl := Lib.hid hl
        clear hE hl
        by_cases hres : l.res = res
        · rw [hE2, if_pos hres, if_pos rfl, if_pos rfl, hN]
          clear hE2 hN
          have b0 : (l.res == res) = true := beq_iff_eq.2 hres
          have b1 : (l.res != res) = false := by simp [hres]
          go_enter Try.func17, Try.ntmps17
          go_wp2_with fail
          refine hhas.mono ?_
          rintro e w1 ⟨rfl, k, hw'⟩
          have n1 : New w ow w1 ow := by rw [hw']; exact (New.refl _ _).drewN k
          have h1 := h.new_ n1
          clear hw' hhas h
          obtain ⟨G, hG, hcall⟩ := get_yes w1 ow p g U C T rows h1 job hn
          have HG := Lib.hid hG
          clear hG
          go_wp2_with fail
          refine hcall.mono ?_
          rintro e w2 ⟨rfl, hb⟩
          clear hcall
          have h2 := h1.new_ (hb.nw ow)
          have n2 := n1.trans (hb.nw ow)
          clear h1 n1 hb
          have hSt := (h2.2.2.2.2.2.2 _ HG.out).1
          simp only at hSt
          rw [Hl.out] at hSt
          go_wp2_with fail
          refine (ELk.s_top_some w2 ow (p ++ [5, G]) G 0 ls l hSt hll).mono ?_
          rintro e w3 ⟨rfl, hb⟩
          have h3 := h2.new_ (hb.nw ow)
          have n3 := n2.trans (hb.nw ow)
          clear h2 n2 hb hSt
          go_wp2_with fail
          have n4 : New w3 ow (w3.alloc (.cells #[.int .i64 res, .int .i64 l.n] 51)) ow := ((Below.refl _ _).alloc (Nat.le_refl _) _).nw ow
          refine (pop _ ow p g U C T rows (h3.new_ n4) job ls l Hl.out G HG.out).mono ?_
          rintro e w5 ⟨ow5, rows5, rfl, h5, t5, -⟩
          have t := ((n3.trans n4).turn p).trans t5
          clear h3 n3 n4 t5
          go_wp2
          go_ret2
          exact ⟨ow5, rfl, ⟨rows5, h5⟩, t⟩
        · rw [hE2, if_neg hres, if_neg (by omega), if_neg (by omega)]
          clear hE2 hN
          have b0 : (l.res == res) = false := beq_eq_false_iff_ne.2 hres
          have b1 : (l.res != res) = true := by simp [hres]
          go_enter Try.func17, Try.ntmps17
          go_wp2_with fail
          refine hhas.mono ?_
          rintro e w1 ⟨rfl, k, hw'⟩
          have n1 : New w ow w1 ow := by rw [hw']; exact (New.refl _ _).drewN k
          have h1 := h.new_ n1
          clear hw' hhas h
          obtain ⟨G, hG, hcall⟩ := get_yes w1 ow p g U C T rows h1 job hn
          have HG := Lib.hid hG
          clear hG
          go_wp2_with fail
          refine hcall.mono ?_
          rintro e w2 ⟨rfl, hb⟩
          clear hcall
          have h2 := h1.new_ (hb.nw ow)
          have n2 := n1.trans (hb.nw ow)
          clear h1 n1 hb
          have hSt := (h2.2.2.2.2.2.2 _ HG.out).1
          simp only at hSt
          rw [Hl.out] at hSt
          go_wp2_with fail
          refine (ELk.s_top_some w2 ow (p ++ [5, G]) G 0 ls l hSt hll).mono ?_
          rintro e w3 ⟨rfl, hb⟩
          have h3 := h2.new_ (hb.nw ow)
          have n3 := n2.trans (hb.nw ow)
          clear h2 n2 hb hSt
          have n4 : New w3 ow (w3.alloc (.cells #[.int .i64 l.res, .int .i64 l.n] 51)) ow := ((Below.refl _ _).alloc (Nat.le_refl _) _).nw ow
          go_wp2
          go_ret2
          exact ⟨ow, rfl, ⟨rows, h3.new_ n4⟩, (n3.trans n4).turn p⟩

/-- What the loop of Drop keeps. -/
def dropRel (ls : List Lk) (job : Int) (G : Nat) (gn : Nat) (i : Value) (wr : World) : Prop :=
  ∃ (k : Nat) (OW : Ow) (T' : List Tk) (rows : List (Int × Nat)), gn = ls.length - k ∧ k ≤ ls.length ∧ i = .int .i64 (k : Int) ∧ UTr wr OW p g U C T' rows ∧ locksOf T' job = ls.take (ls.length - k) ∧ dropT job T' = dropT job T ∧ (k < ls.length → (job, G) ∈ rows) ∧ Turn p w ow wr OW

set_option maxRecDepth 100000 in
set_option maxHeartbeats 4000000 in
theorem drop (h : UT w ow p g U C T) (job : Int) :
    Calls Try.prog 21 #[.pointer (some ⟨g, 0, none⟩), .int .i64 job] w (UL w ow p g U C (.int .i64 ((locksOf T job).length : Int)) (dropT job T)) := by
  obtain ⟨rows, h⟩ := h
  by_cases hn : locksOf T job = []
  · rw [drop_id hn, hn]
    go_enter Try.func21, Try.ntmps21
    go_wp2_with fail
    refine (get_no w ow p g U C T rows h job hn).mono ?_
    rintro e w1 ⟨rfl, hb⟩
    go_wp2
    go_ret
    exact ⟨ow, rfl, ⟨rows, h.new_ (hb.nw ow)⟩, (hb.nw ow).turn p⟩
  · obtain ⟨G, hG, hcall⟩ := get_yes w ow p g U C T rows h job hn
    have hll := locks_len T job
    have hll2 := h.1.len
    obtain ⟨ls, hls⟩ : ∃ ls, ls = locksOf T job := ⟨_, rfl⟩
    rw [← hls] at hll ⊢
    have Hls := Lib.hid hls
    have HG := Lib.hid hG
    clear hls hG hn
    go_enter Try.func21, Try.ntmps21
    go_wp2_with fail
    refine hcall.mono ?_
    rintro e w1 ⟨rfl, hb⟩
    clear hcall
    have h1 := h.new_ (hb.nw ow)
    have n1 := hb.nw ow
    clear h hb
    have hSt := (h1.2.2.2.2.2.2 _ HG.out).1
    simp only at hSt
    rw [← Hls.out] at hSt
    go_wp2_with fail
    refine (ELk.s_len w1 ow (p ++ [5, G]) G 0 ls hSt).mono ?_
    rintro e w2 ⟨rfl, k, hw'⟩
    have n2 : New w1 ow w2 ow := by rw [hw']; exact (New.refl _ _).drewN k
    have h2 := h1.new_ n2
    have t := (n1.trans n2).turn p
    clear hw' h1 n1 n2 hSt
    go_wp2_with fail
    go_loopg [23] ls.length (fun gn i wr => dropRel w ow p g U C T ls job G gn i wr)
    case atStart => exact ⟨0, ow, T, rows, rfl, Nat.zero_le _, rfl, h2, by rw [Nat.sub_zero, List.take_length]; exact Hls.out.symm, rfl, fun _ => HG.out, t⟩
    case round =>
      clear h2 t
      obtain ⟨k, OW, T', rows', hgk, hk, rfl, h2, hlk, hdr, hGr, t⟩ := hrel
      have Hgk := Lib.hid hgk
      clear hgk
      by_cases hlt : k < ls.length
      · obtain ⟨l, hl⟩ : ∃ l, ls[ls.length - k - 1]? = some l := ⟨_, List.getElem?_eq_getElem (by omega)⟩
        have hsn := drop_take ls (ls.length - k - 1) l hl
        rw [show ls.length - k - 1 + 1 = ls.length - k by omega] at hsn
        rw [hsn] at hlk
        have i0 : (k : Int) < (ls.length : Int) := by omega
        have Hlk := Lib.hid hlk
        have Hdr := Lib.hid hdr
        have HGr := Lib.hid (hGr hlt)
        have Hl := Lib.hid hl
        clear hlk hdr hGr hsn hl
        go_wp2_with fail
        refine (pop wr OW p g U C T' rows' h2 job _ l Hlk.out G HGr.out).mono ?_
        rintro e w5 ⟨ow5, rows5, rfl, h5, t5, hmore⟩
        have t6 := t.trans t5
        have Hm := Lib.hid hmore
        clear h2 t t5 hmore
        go_wp2_with fail
        go_roundg (ls.length - (k + 1))
        case measure => have := Hgk.out; omega
        case rel => exact ⟨k + 1, ow5, popT job T', rows5, rfl, by omega, by go_num, h5, by rw [pop_locks, Hlk.out, List.dropLast_concat]; rfl, by rw [drop_pop]; exact Hdr.out, fun hlt2 => Hm.out (fun e => by have := congrArg List.length e; rw [List.length_take, Nat.min_eq_left (by omega), List.length_nil] at this; omega), t6⟩
      · obtain rfl : k = ls.length := by omega
        rw [Nat.sub_self, List.take_zero] at hlk
        have e1 : T' = dropT job T := by rw [← hdr, drop_id hlk]
        subst e1
        clear hlk hdr hGr
        go_wp2
        go_ret
        exact ⟨OW, rfl, ⟨rows', h2⟩, t⟩
end
end UN
end Go.Proofs.Ytefagdbdimpcdaa
