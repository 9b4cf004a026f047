/-
  LAW 5: UnitsRuns: the walk.
-/
import Derived.Test.YtefagdbdimpcdaaU8
import Derived.Test.YtefagdbdimpcdaaEHdS
set_option linter.unusedVariables false
set_option linter.unusedSimpArgs false
namespace Go.Proofs.Ytefagdbdimpcdaa
open Go Go.RowKit
namespace UN

theorem runs_hold : IsH [⟨7, 0, 2⟩, ⟨8, 0, 1⟩] 0 [⟨7, 2⟩, ⟨8, 1⟩] := by
  refine ⟨by simp, fun h => ?_⟩
  obtain ⟨j, n⟩ := h
  have e : heldT [⟨7, 0, 2⟩, ⟨8, 0, 1⟩] j 0 = (if (7 : Int) = j then 2 else 0) + (if (8 : Int) = j then 1 else 0) := by
    unfold heldT
    rw [locksOf_cons, locksOf_cons, locksOf_nil]
    by_cases h7 : (7 : Int) = j
    · subst h7; rfl
    · by_cases h8 : (8 : Int) = j
      · subst h8; rfl
      · simp only [if_neg h7, if_neg h8]; rfl
  simp only [e, List.mem_cons, List.not_mem_nil, or_false, Hd.mk.injEq]
  constructor
  · rintro (⟨rfl, rfl⟩ | ⟨rfl, rfl⟩) <;> simp
  · rintro ⟨h1, h2⟩
    by_cases h7 : (7 : Int) = j
    · subst h7; simp at h1; left; exact ⟨rfl, h1⟩
    · by_cases h8 : (8 : Int) = j
      · subst h8; simp at h1; right; exact ⟨rfl, h1⟩
      · rw [if_neg h7, if_neg h8] at h1; omega

set_option maxRecDepth 100000 in
set_option maxHeartbeats 8000000 in
theorem runs (w : World) : Calls Try.prog 3 #[] w fun e w' => e = .returned (.bool true) ∧ Below w.heap.size w w' := by
  go_enter Try.func3, Try.ntmps3
  go_wp2_with fail
  obtain ⟨ow1, hx, n1, -⟩ := SH.add_cells w ow0 [9] [.int .i64 3, .int .i64 1] 3
  have hrd : Reads (w.alloc (.cells #[.int .i64 3, .int .i64 1] 3)) (.slice (some ⟨w.heap.size, 0, none⟩) 2 2) [3, 1].length (EInt.css [3, 1]) := Reads.new w (EInt.css [3, 1]) 3 2 2 (Nat.le_refl _)
  refine (new_ok _ _ [3, 1] hrd ow1 [1, 0] (by simp) (by simp [okU])).mono ?_
  rintro e w1 ⟨g, ow2, rfl, h, nn, -⟩
  have t := (n1.turn [1]).trans (nn.turn [1])
  clear hx n1 hrd nn
  go_wp2_with fail
  have hc := lock w1 ow2 [1, 0] g [3, 1] [0, 0] [] h 7 0 2 2
  rw [show lockE [3, 1] [] 7 0 2 2 = 0 from by decide] at hc
  rw [show lockT [3, 1] [] 7 0 2 2 = [⟨7, 0, 2⟩] from rfl] at hc
  refine hc.mono ?_
  rintro e w11 ⟨ow11, rfl, h', tt⟩
  clear hc h
  have h := h'
  replace t := t.trans (tt.up (by simp))
  clear h' tt
  go_wp2_with fail
  have hc := lock w11 ow11 [1, 0] g [3, 1] [0, 0] [⟨7, 0, 2⟩] h 7 0 1 2
  rw [show lockE [3, 1] [⟨7, 0, 2⟩] 7 0 1 2 = 22 from by decide] at hc
  rw [show lockT [3, 1] [⟨7, 0, 2⟩] 7 0 1 2 = [⟨7, 0, 2⟩] from rfl] at hc
  refine hc.mono ?_
  rintro e w12 ⟨ow12, rfl, h', tt⟩
  clear hc h
  have h := h'
  replace t := t.trans (tt.up (by simp))
  clear h' tt
  go_wp2_with fail
  have hc := lock w12 ow12 [1, 0] g [3, 1] [0, 0] [⟨7, 0, 2⟩] h 8 0 2 3
  rw [show lockE [3, 1] [⟨7, 0, 2⟩] 8 0 2 3 = 20 from by decide] at hc
  rw [show lockT [3, 1] [⟨7, 0, 2⟩] 8 0 2 3 = [⟨7, 0, 2⟩] from rfl] at hc
  refine hc.mono ?_
  rintro e w13 ⟨ow13, rfl, h', tt⟩
  clear hc h
  have h := h'
  replace t := t.trans (tt.up (by simp))
  clear h' tt
  go_wp2_with fail
  have hc := lock w13 ow13 [1, 0] g [3, 1] [0, 0] [⟨7, 0, 2⟩] h 8 0 1 3
  rw [show lockE [3, 1] [⟨7, 0, 2⟩] 8 0 1 3 = 0 from by decide] at hc
  rw [show lockT [3, 1] [⟨7, 0, 2⟩] 8 0 1 3 = [⟨7, 0, 2⟩, ⟨8, 0, 1⟩] from rfl] at hc
  refine hc.mono ?_
  rintro e w14 ⟨ow14, rfl, h', tt⟩
  clear hc h
  have h := h'
  replace t := t.trans (tt.up (by simp))
  clear h' tt
  go_wp2_with fail
  have hc := free w14 ow14 [1, 0] g [3, 1] [0, 0] [⟨7, 0, 2⟩, ⟨8, 0, 1⟩] h 0
  rw [show freeQ [3, 1] [⟨7, 0, 2⟩, ⟨8, 0, 1⟩] 0 = 0 from by decide] at hc
  refine hc.mono ?_
  rintro e w15 ⟨rfl, bb⟩
  clear hc
  replace h := h.new_ (bb.nw ow14)
  replace t := t.trans ((bb.nw ow14).turn [1])
  clear bb
  go_wp2_with fail
  have hc := held w15 ow14 [1, 0] g [3, 1] [0, 0] [⟨7, 0, 2⟩, ⟨8, 0, 1⟩] h 7 0
  rw [show heldQ [3, 1] [⟨7, 0, 2⟩, ⟨8, 0, 1⟩] 7 0 = 2 from by decide] at hc
  refine hc.mono ?_
  rintro e w16 ⟨rfl, bb⟩
  clear hc
  replace h := h.new_ (bb.nw ow14)
  replace t := t.trans ((bb.nw ow14).turn [1])
  clear bb
  go_wp2_with fail
  refine (holders w16 ow14 [1, 0] [1, 1] g [3, 1] [0, 0] [⟨7, 0, 2⟩, ⟨8, 0, 1⟩] h 0).mono ?_
  rintro e w17 ⟨v1, ow17, hs, rfl, his, hlen, hr, nn, -⟩
  obtain rfl := his.same runs_hold
  replace h := h.new_ nn
  replace t := t.trans (nn.turn [1])
  clear nn his hlen
  go_wp2_with fail
  obtain ⟨ow18, hx, nn, -⟩ := SH.add_cells w17 ow17 [9] [.int .i64 7, .int .i64 2, .int .i64 8, .int .i64 1] 31
  have hrd : Reads (w17.alloc (.cells #[.int .i64 7, .int .i64 2, .int .i64 8, .int .i64 1] 31)) (.slice (some ⟨w17.heap.size, 0, none⟩) 2 2) 2 (EHd.css [⟨7, 2⟩, ⟨8, 1⟩]) := Reads.new w17 (EHd.css [⟨7, 2⟩, ⟨8, 1⟩]) 31 2 2 (Nat.le_refl _)
  refine (EHd.same_yes _ v1 _ [⟨7, 2⟩, ⟨8, 1⟩] (by simp) (hr.new_ nn).reads hrd).mono ?_
  rintro e w19 ⟨rfl, kk, hw'⟩
  have n2 : New (w17.alloc (.cells #[.int .i64 7, .int .i64 2, .int .i64 8, .int .i64 1] 31)) ow18 w19 ow18 := by rw [hw']; exact (New.refl _ _).drewN kk
  replace h := (h.new_ nn).new_ n2
  replace t := (t.trans (nn.turn [1])).trans (n2.turn [1])
  clear hx hrd hr nn n2 hw'
  go_wp2_with fail
  have hc := lock w19 ow18 [1, 0] g [3, 1] [0, 0] [⟨7, 0, 2⟩, ⟨8, 0, 1⟩] h 7 1 1 1
  rw [show lockE [3, 1] [⟨7, 0, 2⟩, ⟨8, 0, 1⟩] 7 1 1 1 = 0 from by decide] at hc
  rw [show lockT [3, 1] [⟨7, 0, 2⟩, ⟨8, 0, 1⟩] 7 1 1 1 = [⟨7, 0, 2⟩, ⟨8, 0, 1⟩, ⟨7, 1, 1⟩] from rfl] at hc
  refine hc.mono ?_
  rintro e w20 ⟨ow20, rfl, h', tt⟩
  clear hc h
  have h := h'
  replace t := t.trans (tt.up (by simp))
  clear h' tt
  go_wp2_with fail
  have hc := unlock w20 ow20 [1, 0] g [3, 1] [0, 0] [⟨7, 0, 2⟩, ⟨8, 0, 1⟩, ⟨7, 1, 1⟩] h 7 0
  rw [show unlockN [3, 1] [⟨7, 0, 2⟩, ⟨8, 0, 1⟩, ⟨7, 1, 1⟩] 7 0 = 0 from by decide] at hc
  rw [show unlockE [3, 1] [⟨7, 0, 2⟩, ⟨8, 0, 1⟩, ⟨7, 1, 1⟩] 7 0 = 21 from by decide] at hc
  rw [show unlockT [3, 1] [⟨7, 0, 2⟩, ⟨8, 0, 1⟩, ⟨7, 1, 1⟩] 7 0 = [⟨7, 0, 2⟩, ⟨8, 0, 1⟩, ⟨7, 1, 1⟩] from rfl] at hc
  refine hc.mono ?_
  rintro e w21 ⟨ow21, rfl, h', tt⟩
  clear hc h
  have h := h'
  replace t := t.trans (tt.up (by simp))
  clear h' tt
  go_wp2_with fail
  have hc := unlock w21 ow21 [1, 0] g [3, 1] [0, 0] [⟨7, 0, 2⟩, ⟨8, 0, 1⟩, ⟨7, 1, 1⟩] h 7 1
  rw [show unlockN [3, 1] [⟨7, 0, 2⟩, ⟨8, 0, 1⟩, ⟨7, 1, 1⟩] 7 1 = 1 from by decide] at hc
  rw [show unlockE [3, 1] [⟨7, 0, 2⟩, ⟨8, 0, 1⟩, ⟨7, 1, 1⟩] 7 1 = 0 from by decide] at hc
  rw [show unlockT [3, 1] [⟨7, 0, 2⟩, ⟨8, 0, 1⟩, ⟨7, 1, 1⟩] 7 1 = [⟨7, 0, 2⟩, ⟨8, 0, 1⟩] from rfl] at hc
  refine hc.mono ?_
  rintro e w22 ⟨ow22, rfl, h', tt⟩
  clear hc h
  have h := h'
  replace t := t.trans (tt.up (by simp))
  clear h' tt
  go_wp2_with fail
  have hc := unlock w22 ow22 [1, 0] g [3, 1] [0, 0] [⟨7, 0, 2⟩, ⟨8, 0, 1⟩] h 7 0
  rw [show unlockN [3, 1] [⟨7, 0, 2⟩, ⟨8, 0, 1⟩] 7 0 = 2 from by decide] at hc
  rw [show unlockE [3, 1] [⟨7, 0, 2⟩, ⟨8, 0, 1⟩] 7 0 = 0 from by decide] at hc
  rw [show unlockT [3, 1] [⟨7, 0, 2⟩, ⟨8, 0, 1⟩] 7 0 = [⟨8, 0, 1⟩] from rfl] at hc
  refine hc.mono ?_
  rintro e w23 ⟨ow23, rfl, h', tt⟩
  clear hc h
  have h := h'
  replace t := t.trans (tt.up (by simp))
  clear h' tt
  go_wp2_with fail
  have hc := store w23 ow23 [1, 0] g [3, 1] [0, 0] [⟨8, 0, 1⟩] h 8 0 5
  rw [show cellE [3, 1] [⟨8, 0, 1⟩] 8 0 = 0 from by decide] at hc
  rw [show storeC [3, 1] [0, 0] [⟨8, 0, 1⟩] 8 0 5 = [5, 0] from rfl] at hc
  refine hc.mono ?_
  rintro e w24 ⟨ow24, rfl, h', tt⟩
  clear hc h
  have h := h'
  replace t := t.trans (tt.up (by simp))
  clear h' tt
  go_wp2_with fail
  have hc := load w24 ow24 [1, 0] g [3, 1] [5, 0] [⟨8, 0, 1⟩] h 7 0
  rw [show cellE [3, 1] [⟨8, 0, 1⟩] 7 0 = 23 from by decide] at hc
  refine hc.mono ?_
  rintro e w25 ⟨rfl, bb⟩
  clear hc
  replace h := h.new_ (bb.nw ow24)
  replace t := t.trans ((bb.nw ow24).turn [1])
  clear bb
  go_wp2_with fail
  have hc := load w25 ow24 [1, 0] g [3, 1] [5, 0] [⟨8, 0, 1⟩] h 8 0
  rw [show cellE [3, 1] [⟨8, 0, 1⟩] 8 0 = 0 from by decide] at hc
  rw [show cellQ [5, 0] 0 = 5 from by decide] at hc
  refine hc.mono ?_
  rintro e w26 ⟨rfl, bb⟩
  clear hc
  replace h := h.new_ (bb.nw ow24)
  replace t := t.trans ((bb.nw ow24).turn [1])
  clear bb
  go_wp2_with fail
  have hc := cell w26 ow24 [1, 0] g [3, 1] [5, 0] [⟨8, 0, 1⟩] h 0
  rw [show cellQ [5, 0] 0 = 5 from by decide] at hc
  refine hc.mono ?_
  rintro e w27 ⟨rfl, bb⟩
  clear hc
  replace h := h.new_ (bb.nw ow24)
  replace t := t.trans ((bb.nw ow24).turn [1])
  clear bb
  go_wp2_with fail
  have hc := drop w27 ow24 [1, 0] g [3, 1] [5, 0] [⟨8, 0, 1⟩] h 8
  rw [show ((locksOf [⟨8, 0, 1⟩] 8).length : Int) = 1 from by decide] at hc
  rw [show dropT 8 [⟨8, 0, 1⟩] = [] from rfl] at hc
  refine hc.mono ?_
  rintro e w28 ⟨ow28, rfl, h', tt⟩
  clear hc h
  have h := h'
  replace t := t.trans (tt.up (by simp))
  clear h' tt
  go_wp2_with fail
  have hc := drop w28 ow28 [1, 0] g [3, 1] [5, 0] [] h 8
  rw [show ((locksOf [] 8).length : Int) = 0 from by decide] at hc
  rw [show dropT 8 [] = [] from rfl] at hc
  refine hc.mono ?_
  rintro e w29 ⟨ow29, rfl, h', tt⟩
  clear hc h
  have h := h'
  replace t := t.trans (tt.up (by simp))
  clear h' tt
  go_wp2_with fail
  have hc := free w29 ow29 [1, 0] g [3, 1] [5, 0] [] h 0
  rw [show freeQ [3, 1] [] 0 = 3 from by decide] at hc
  refine hc.mono ?_
  rintro e w30 ⟨rfl, bb⟩
  clear hc
  replace h := h.new_ (bb.nw ow29)
  replace t := t.trans ((bb.nw ow29).turn [1])
  clear bb
  go_wp2_with fail
  have hc := unlock w30 ow29 [1, 0] g [3, 1] [5, 0] [] h 1 0
  rw [show unlockN [3, 1] [] 1 0 = 0 from by decide] at hc
  rw [show unlockE [3, 1] [] 1 0 = 21 from by decide] at hc
  rw [show unlockT [3, 1] [] 1 0 = [] from rfl] at hc
  refine hc.mono ?_
  rintro e w31 ⟨ow31, rfl, h', tt⟩
  clear hc h
  have h := h'
  replace t := t.trans (tt.up (by simp))
  clear h' tt
  go_wp2_with fail
  have hc := unlock w31 ow31 [1, 0] g [3, 1] [5, 0] [] h 1 2
  rw [show unlockN [3, 1] [] 1 2 = 0 from by decide] at hc
  rw [show unlockE [3, 1] [] 1 2 = 1 from by decide] at hc
  rw [show unlockT [3, 1] [] 1 2 = [] from rfl] at hc
  refine hc.mono ?_
  rintro e w32 ⟨ow32, rfl, h', tt⟩
  clear hc h
  have h := h'
  replace t := t.trans (tt.up (by simp))
  clear h' tt
  go_wp2_with fail
  obtain ⟨ow33, hx, nn, -⟩ := SH.add_cells w32 ow32 [9] [.int .i64 0] 3
  have hrd : Reads (w32.alloc (.cells #[.int .i64 0] 3)) (.slice (some ⟨w32.heap.size, 0, none⟩) 1 1) [0].length (EInt.css [0]) := Reads.new w32 (EInt.css [0]) 3 1 1 (Nat.le_refl _)
  refine (new_no _ _ [0] hrd (by decide)).mono ?_
  rintro e w34 ⟨rfl, bb⟩
  replace h := (h.new_ nn).new_ (bb.nw ow33)
  replace t := (t.trans (nn.turn [1])).trans ((bb.nw ow33).turn [1])
  clear hx hrd nn bb
  rw [show newE [0] = 1 from by decide]
  go_wp2_with fail
  have hc := lock w34 ow33 [1, 0] g [3, 1] [5, 0] [] h 1 2 1 1
  rw [show lockE [3, 1] [] 1 2 1 1 = 1 from by decide] at hc
  rw [show lockT [3, 1] [] 1 2 1 1 = [] from rfl] at hc
  refine hc.mono ?_
  rintro e w35 ⟨ow35, rfl, h', tt⟩
  clear hc h
  have h := h'
  replace t := t.trans (tt.up (by simp))
  clear h' tt
  go_wp2_with fail
  have hc := lock w35 ow35 [1, 0] g [3, 1] [5, 0] [] h 1 0 4 9
  rw [show lockE [3, 1] [] 1 0 4 9 = 1 from by decide] at hc
  rw [show lockT [3, 1] [] 1 0 4 9 = [] from rfl] at hc
  refine hc.mono ?_
  rintro e w36 ⟨ow36, rfl, h', tt⟩
  clear hc h
  have h := h'
  replace t := t.trans (tt.up (by simp))
  clear h' tt
  go_wp2_with fail
  have hc := lock w36 ow36 [1, 0] g [3, 1] [5, 0] [] h 1 0 0 9
  rw [show lockE [3, 1] [] 1 0 0 9 = 1 from by decide] at hc
  rw [show lockT [3, 1] [] 1 0 0 9 = [] from rfl] at hc
  refine hc.mono ?_
  rintro e w37 ⟨ow37, rfl, h', tt⟩
  clear hc h
  have h := h'
  replace t := t.trans (tt.up (by simp))
  clear h' tt
  go_wp2_with fail
  have hc := lock w37 ow37 [1, 0] g [3, 1] [5, 0] [] h (-1) 0 1 1
  rw [show lockE [3, 1] [] (-1) 0 1 1 = 1 from by decide] at hc
  rw [show lockT [3, 1] [] (-1) 0 1 1 = [] from rfl] at hc
  refine hc.mono ?_
  rintro e w38 ⟨ow38, rfl, h', tt⟩
  clear hc h
  have h := h'
  replace t := t.trans (tt.up (by simp))
  clear h' tt
  have fin := (t.new_ ow0 [1]).below
  clear h t
  go_wp2
  go_ret
  exact ⟨rfl, fin⟩
end UN
end Go.Proofs.Ytefagdbdimpcdaa
