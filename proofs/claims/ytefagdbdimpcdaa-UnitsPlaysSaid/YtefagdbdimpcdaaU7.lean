/-
  UNITS: New.
-/
import Derived.Test.YtefagdbdimpcdaaU6
import Derived.Lib.SliceRun
set_option linter.unusedVariables false
set_option linter.unusedSimpArgs false
namespace Go.Proofs.Ytefagdbdimpcdaa
open Go Go.RowKit
section
variable {P : Program} {ops : Array Oper} {Q : Exit → Act → World → Prop} {md : Region.Mode}
/-- Two operations are ready. -/
theorem anyX_two {S : World → Prop} {X : List Nat} {i j : Nat} {o o' : Oper} {fuel : Nat} {listed : Array Bool} {a : Act} {w : World} (hr : Region.ready md ops listed = [i, j]) (ho : ops[i]? = some o) (hg : o.guard = none) (ho' : ops[j]? = some o') (hg' : o'.guard = none)
    (h : ∀ K : Act → World → Prop, (∀ a' w', (X.contains i = false → S w') → anyX P md ops Q S X fuel (listed.setIfInBounds i true) a' w' → K a' w') → o.wp P a w K Q)
    (h' : ∀ K : Act → World → Prop, (∀ a' w', (X.contains j = false → S w') → anyX P md ops Q S X fuel (listed.setIfInBounds j true) a' w' → K a' w') → o'.wp P a w K Q) : anyX P md ops Q S X (fuel + 1) listed a w := by
  refine ⟨fun h0 => (by rw [h0] at hr; cases hr), fun k hk => ?_⟩
  rw [hr] at hk
  simp only [List.mem_cons, List.not_mem_nil, or_false] at hk
  rcases hk with rfl | rfl
  · unfold wpOp
    simp only [ho, Region.wanted, hg, if_true]
    exact .inl (h _ fun a' w' hs hx => ⟨fun hf => hs (by simpa using hf), hx⟩)
  · unfold wpOp
    simp only [ho', Region.wanted, hg', if_true]
    exact .inl (h' _ fun a' w' hs hx => ⟨fun hf => hs (by simpa using hf), hx⟩)
end
namespace UN

set_option maxRecDepth 100000 in
set_option maxHeartbeats 1000000 in
theorem clone (w : World) (ow : Ow) (q : List Nat) (v : Value) (us : List Int) (h : Reads w v us.length (EInt.css us)) (hn : us.length ≤ 1000000) :
    Calls Try.prog 46 #[v] w fun e w' => ∃ v' ow', e = .returned v' ∧ Row w' ow' q 3 1 v' us.length (EInt.css us) ∧ New w ow w' ow' := by
  have h0 := h
  have hq := fun (W : World) (a : Option Addr) (n c : Nat) => Lib.run_eql_slice_nil (P := Try.prog) W 38 3 a n c 0 0 Try.underlying38
  rcases h with ⟨rfl, hz, hcs⟩ | ⟨b, off, cap, rfl, hn1, -⟩
  · have hus : us = [] := List.length_eq_zero_iff.1 hz
    subst hus
    go_enter Try.func46, Try.ntmps46
    go_wp2
    go_ret
    exact ⟨_, ow, rfl, Row.nil _ _ _ _ _, New.refl _ _⟩
  · go_enter Try.func46, Try.ntmps46
    go_wp2_with (at_builtin; refine wpList_append_row rfl (.tmp 5) (.tmp 6) 38 38 rfl 3 _ 1 8 Try.underlying38 EInt.info rfl rfl (Row.new0 w ow0 [1] 3 1) rfl ((h0.new_ ((Below.refl _ _).alloc (Nat.le_refl _) _)).src Try.underlying38 (by rw [EInt.css_length]) (EInt.css_one us)) (by unfold maxLen; omega) (by omega) ?_)
    intro v' w1 ow1 hrow ht
    have t := ((Turn.refl [1] w ow0).alloc (.cells #[] 3) [1]).trans ht
    go_wp2
    go_ret
    exact ⟨_, _, rfl, by have := hrow.ren t ow q; simpa using this, t.new_ ow q⟩
/-- May a resource have so many units? -/
def okU (u : Int) : Prop := 1 ≤ u ∧ u ≤ 255
instance (u : Int) : Decidable (okU u) := inferInstanceAs (Decidable (1 ≤ u ∧ u ≤ 255))
/-- What New answers. -/
def newE (us : List Int) : Int := if 16 < us.length then 4 else if ∀ u ∈ us, okU u then 0 else 1
theorem Reads_cell {w : World} {A : Option Addr} {n c : Nat} {cs : List Value} (h : Reads w (.slice A n c) n cs) (k : Nat) (u : Value) (hk : cs[k]? = some u) : ∃ g off, A = some ⟨g, off, none⟩ ∧ w.cell? ⟨g, off + k, none⟩ = some u := by
  rcases h with ⟨hv, hn, rfl⟩ | ⟨g, off, cap, hv, hn, hc⟩
  · simp at hk
  · simp only [Value.slice.injEq] at hv
    obtain ⟨rfl, -, rfl⟩ := hv
    exact ⟨g, off, rfl, hc k u hk⟩
def newRel (w : World) (us : List Int) (gn : Nat) (i : Value) (wr : World) : Prop := ∃ k : Nat, gn = us.length - k ∧ k ≤ us.length ∧ i = .int .i64 (k : Int) ∧ (∀ (j : Nat) (u : Int), j < k → us[j]? = some u → okU u) ∧ Below w.heap.size w wr
theorem Inv.start (us : List Int) (hl : us.length ≤ 16) (hu : ∀ u ∈ us, okU u) : Inv us (List.replicate us.length 0) [] :=
  ⟨hl, (by simp), hu, (fun t ht => by cases ht), fun r => by have := (unitsOf_le hu (r : Int)).1; simpa [usedT] using this⟩
theorem fr_start (us : List Int) : fr us [] = us := by
  apply List.ext_getElem?
  intro i
  by_cases h : i < us.length
  · rw [fr_at us [] i h, List.getElem?_eq_getElem h]
    simp [freeT, usedT, unitsOf, h]
  · rw [List.getElem?_eq_none (by rw [fr_length]; omega), List.getElem?_eq_none (by omega)]

section
variable (w : World) (v : Value) (us : List Int) (h : Reads w v us.length (EInt.css us))
set_option maxRecDepth 100000 in
set_option maxHeartbeats 2000000 in
include h in
theorem new_no (hE : newE us ≠ 0) : Calls Try.prog 11 #[v] w fun e w' => e = .returned (.tuple #[.pointer none, .int .i64 (newE us)]) ∧ Below w.heap.size w w' := by
  obtain ⟨A, c, rfl, hnc⟩ := h.slice
  unfold newE at hE ⊢
  by_cases h16 : 16 < us.length
  · rw [if_pos h16]
    clear hE h
    go_enter Try.func11, Try.ntmps11
    go_wp2
    go_ret2
    exact ⟨rfl, Below.refl _ _⟩
  · rw [if_neg h16] at hE ⊢
    by_cases hall : ∀ u ∈ us, okU u
    · rw [if_pos hall] at hE; exact absurd rfl hE
    · rw [if_neg hall]
      clear hE
      have Hall := Lib.hid hall
      have Hr := Lib.hid h
      clear hall h
      go_enter Try.func11, Try.ntmps11
      go_wp2
      go_loopg [11] us.length (fun gn i wr => newRel w us gn i wr)
      case atStart => exact ⟨0, rfl, Nat.zero_le _, rfl, fun j u hj => by omega, Below.refl _ _⟩
      case round =>
        obtain ⟨k, hgk, hk, rfl, hok, bd⟩ := hrel
        have Hgk := Lib.hid hgk
        clear hgk
        by_cases hlt : k < us.length
        · obtain ⟨x, hx⟩ : ∃ x, us[k]? = some x := ⟨_, List.getElem?_eq_getElem hlt⟩
          have kx := EInt.css_at us k x hx 0 _ rfl (by omega)
          simp only [Nat.mul_one, Nat.add_zero] at kx
          obtain ⟨b, off, rfl, e0⟩ := Reads_cell (Hr.out.new_ bd) k _ kx
          have i0 : (k : Int) < (us.length : Int) := by omega
          by_cases hxo : okU x
          · have Hok := Lib.hid (show ∀ (j : Nat) (u : Int), j < k + 1 → us[j]? = some u → okU u from fun j u hj hu => by
              by_cases e : j = k
              · subst e; rw [hx] at hu; obtain rfl := Option.some.inj hu; exact hxo
              · exact hok j u (by omega) hu)
            obtain ⟨o1, o2⟩ := hxo
            have o1' : ¬ x < 1 := by omega
            have o2' : ¬ 255 < x := by omega
            clear hok kx hx
            go_wp2
            go_roundg (us.length - (k + 1))
            case measure => have := Hgk.out; omega
            case rel => exact ⟨k + 1, rfl, by omega, by go_num, Hok.out, bd⟩
          · by_cases o1 : x < 1
            · clear hok kx hx hxo
              go_wp2
              go_ret2
              exact ⟨rfl, bd⟩
            · have o2 : 255 < x := by unfold okU at hxo; omega
              clear hok kx hx hxo
              go_wp2
              go_ret2
              exact ⟨rfl, bd⟩
        · exfalso
          refine Hall.out fun u hu => ?_
          obtain ⟨j, hj⟩ := List.mem_iff_getElem?.1 hu
          exact hok j u (by have := (List.getElem?_eq_some_iff.1 hj).1; omega) hj

theorem zeros (n : Nat) : (madeCells (Value.int .i64 0).cells (n * 1)).toList = EInt.css (List.replicate n 0) := by
  apply List.ext_getElem?
  intro i
  rw [Nat.mul_one, Array.getElem?_toList]
  by_cases h : i < n
  · rw [madeCells_at _ n i h]
    have := EInt.css_at (List.replicate n 0) i 0 (by simp [h]) 0 _ rfl (by omega)
    simp only [Nat.mul_one, Nat.add_zero] at this
    rw [this]
    show some ((#[Value.int .i64 0] : Array Value)[i % 1]!) = _
    rw [Nat.mod_one]; rfl
  · rw [Array.getElem?_eq_none (by rw [size_madeCells]; omega), List.getElem?_eq_none (by rw [EInt.css_length, List.length_replicate]; omega)]
/-- The table's block. -/
theorem new_box (w : World) (ow : Ow) (q : List Nat) (a b c : Value) : ∃ ow', Cells (w.alloc (.cells #[a, b, c, .slice none 0 0] 86)) ow' (q ++ [0]) w.heap.size 0 [a, b, c] ∧ TIH.TbP (w.alloc (.cells #[a, b, c, .slice none 0 0] 86)) ow' (q ++ [4]) w.heap.size 3 [] ∧ New w ow (w.alloc (.cells #[a, b, c, .slice none 0 0] 86)) ow' := by
  refine ⟨ow.setF w.heap.size fun o => if o < 3 then q ++ [0] else q ++ [4] ++ [0], Cells.newF _ _ _ _ _ _ _ _ ?_, ⟨.slice none 0 0, Cells.newF _ _ _ _ _ _ _ _ ?_, Row.nil _ _ _ _ _⟩, (New.refl _ _).allocF _ _⟩
  · intro j u hj
    have hlt : j < 3 := (List.getElem?_eq_some_iff.1 hj).1
    refine ⟨?_, if_pos (by omega)⟩
    have c : j = 0 ∨ j = 1 ∨ j = 2 := by omega
    rcases c with rfl | rfl | rfl <;> simpa using hj
  · intro j u hj
    cases j with
    | zero => simp at hj; subst hj; exact ⟨rfl, rfl⟩
    | succ j => simp at hj

set_option maxRecDepth 100000 in
set_option maxHeartbeats 4000000 in
include h in
theorem new_ok (ow : Ow) (q : List Nat) (hl : us.length ≤ 16) (hu : ∀ u ∈ us, okU u) : Calls Try.prog 11 #[v] w fun e w' => ∃ g ow', e = .returned (.tuple #[.pointer (some ⟨g, 0, none⟩), .int .i64 0]) ∧ UT w' ow' q g us (List.replicate us.length 0) [] ∧ New w ow w' ow' ∧ w.heap.size ≤ g := by
  obtain ⟨A, c, rfl, hnc⟩ := h.slice
  have h16 : ¬ 16 < us.length := by omega
  have Hu := Lib.hid hu
  have Hr := Lib.hid h
  clear hu h
  go_enter Try.func11, Try.ntmps11
  go_wp2
  go_loopg [11] us.length (fun gn i wr => newRel w us gn i wr)
  case atStart => exact ⟨0, rfl, Nat.zero_le _, rfl, fun j u hj => by omega, Below.refl _ _⟩
  case round =>
    obtain ⟨k, hgk, hk, rfl, hok, bd⟩ := hrel
    have Hgk := Lib.hid hgk
    clear hgk hok
    by_cases hlt : k < us.length
    · obtain ⟨x, hx⟩ : ∃ x, us[k]? = some x := ⟨_, List.getElem?_eq_getElem hlt⟩
      have kx := EInt.css_at us k x hx 0 _ rfl (by omega)
      simp only [Nat.mul_one, Nat.add_zero] at kx
      obtain ⟨b, off, rfl, e0⟩ := Reads_cell (Hr.out.new_ bd) k _ kx
      have i0 : (k : Int) < (us.length : Int) := by omega
      obtain ⟨o1, o2⟩ := Hu.out x (List.mem_of_getElem? hx)
      have o1' : ¬ x < 1 := by omega
      have o2' : ¬ 255 < x := by omega
      clear kx hx
      go_wp2
      go_roundg (us.length - (k + 1))
      case measure => have := Hgk.out; omega
      case rel => exact ⟨k + 1, rfl, by omega, by go_num, fun j u _ hj => Hu.out u (List.mem_of_getElem? hj), bd⟩
    · obtain rfl : k = us.length := by omega
      clear hlt Hgk
      go_wp2
      refine plain_regionN (fun _ => True) [] (by kernel_rfl) ?_
      have n1 := (bd.nw ow).drew
      have hS : (fun _ : World => True) wr.drew := trivial
      generalize wr.drew = w1 at *
      clear bd
      refine anyX_takeNL 0 (v := ?_) rfl rfl (by as_aux_lemma => kernel_rfl) (by as_aux_lemma => kernel_rfl) (by as_aux_lemma => kernel_rfl) (by as_aux_lemma => kernel_rfl) (by as_aux_lemma => kernel_rfl) (fun _ _ _ h => h) rfl ?_ hS ?_
      rotate_left
      · intro W' hW'
        obtain - := hW'
        all_goals (go_simp; first | done | rfl)
      intro l' hl
      dsimp only [List.set_cons_succ, List.set_cons_zero] at hl
      subst hl
      refine anyX_takeNL 2 (v := ?_) rfl rfl (by as_aux_lemma => kernel_rfl) (by as_aux_lemma => kernel_rfl) (by as_aux_lemma => kernel_rfl) (by as_aux_lemma => kernel_rfl) (by as_aux_lemma => kernel_rfl) (fun _ _ _ h => h) rfl ?_ hS ?_
      rotate_left
      · intro W' hW'
        obtain - := hW'
        all_goals (go_simp; first | done | rfl)
      intro l' hl
      dsimp only [List.set_cons_succ, List.set_cons_zero] at hl
      subst hl
      refine anyX_takeNL 4 (v := ?_) rfl rfl (by as_aux_lemma => kernel_rfl) (by as_aux_lemma => kernel_rfl) (by as_aux_lemma => kernel_rfl) (by as_aux_lemma => kernel_rfl) (by as_aux_lemma => kernel_rfl) (fun _ _ _ h => h) rfl ?_ hS ?_
      rotate_left
      · intro W' hW'
        obtain - := hW'
        all_goals (go_simp; first | done | rfl)
      intro l' hl
      dsimp only [List.set_cons_succ, List.set_cons_zero] at hl
      subst hl
      refine anyX_takeNL 5 (v := ?_) rfl rfl (by as_aux_lemma => kernel_rfl) (by as_aux_lemma => kernel_rfl) (by as_aux_lemma => kernel_rfl) (by as_aux_lemma => kernel_rfl) (by as_aux_lemma => kernel_rfl) (fun _ _ _ h => h) rfl ?_ hS ?_
      rotate_left
      · intro W' hW'
        obtain - := hW'
        all_goals (go_simp; first | done | rfl)
      intro l' hl
      dsimp only [List.set_cons_succ, List.set_cons_zero] at hl
      subst hl
      clear hS
      refine anyX_two (i := 1) (j := 6) (by kernel_rfl) rfl rfl rfl rfl (fun K' hK' => ?_) (fun K' hK' => ?_)
      · unfold Oper.wp
        go_simp
        refine (clone w1 ow (q ++ [1]) (.slice A us.length c) us (Hr.out.new_ n1.below) (by omega)).mono ?_
        rintro e wa1 ⟨v1, oa1, rfl, hr1, nx⟩
        have na1 := n1.trans nx
        clear nx
        refine hK' _ _ (fun _ => trivial) ?_
        clear hK' K'
        refine anyX_two (i := 3) (j := 6) (by kernel_rfl) rfl rfl rfl rfl (fun K' hK' => ?_) (fun K' hK' => ?_)
        · unfold Oper.wp
          go_simp
          refine (clone wa1 oa1 (q ++ [2]) (.slice A us.length c) us (Hr.out.new_ na1.below) (by omega)).mono ?_
          rintro e wa13 ⟨v2, oa13, rfl, hr2, nx⟩
          have hr1 := hr1.new_ nx
          have na13 := na1.trans nx
          clear nx
          refine hK' _ _ (fun _ => trivial) ?_
          clear hK' K'
          refine anyX_one (i := 6) (by kernel_rfl) rfl rfl fun K' hK' => ?_
          refine wp_make_row (q ++ [3]) oa13 _ _ 38 rfl 3 _ 1 8 Try.underlying38 EInt.info rfl _ _ _ _ us.length us.length rfl rfl rfl rfl (Nat.le_refl _) (by omega) (by unfold maxLen; omega) ?_
          intro v3 wa136 oa136 hr3 nx
          have hr1 := hr1.new_ nx
          have hr2 := hr2.new_ nx
          have na136 := na13.trans nx
          clear nx
          change K' (Act.put _ (some 28) _) _
          refine hK' _ _ (fun _ => trivial) ?_
          clear hK' K'
          simp only [Act.put, List.setIfInBounds_toArray, List.set_cons_succ, List.set_cons_zero]
          obtain ⟨A1, c1, rfl, -⟩ := hr1.slice
          obtain ⟨A2, c2, rfl, -⟩ := hr2.slice
          obtain ⟨A3, c3, rfl, -⟩ := hr3.slice
          have hS : (fun _ : World => True) wa136 := trivial
          refine anyX_takeNL 7 (v := ?_) rfl rfl (by as_aux_lemma => kernel_rfl) (by as_aux_lemma => kernel_rfl) (by as_aux_lemma => kernel_rfl) (by as_aux_lemma => kernel_rfl) (by as_aux_lemma => kernel_rfl) (fun _ _ _ h => h) rfl ?_ hS ?_
          rotate_left
          · intro W' hW'
            obtain - := hW'
            all_goals (go_simp; first | done | rfl)
          intro l' hl
          dsimp only [List.set_cons_succ, List.set_cons_zero] at hl
          subst hl
          refine anyX_one (i := 8) (by kernel_rfl) rfl rfl fun K' hK' => ?_
          unfold Oper.wp
          go_simp
          refine hK' _ _ (fun _ => trivial) ?_
          clear hK' K'
          clear hS
          obtain ⟨ob, hB, hT, nb⟩ := new_box wa136 oa136 q (.slice A1 us.length c1) (.slice A2 us.length c2) (.slice A3 us.length c3)
          have hr1 := hr1.new_ nb
          have hr2 := hr2.new_ nb
          have hr3 := hr3.new_ nb
          have nb := na136.trans nb
          have lb : w.heap.size ≤ wa136.heap.size := na136.below.size
          generalize wa136.alloc (.cells #[.slice A1 us.length c1, .slice A2 us.length c2, .slice A3 us.length c3, .slice none 0 0] 86) = wz at *
          generalize wa136.heap.size = g at *
          have hS : (fun _ : World => True) wz := trivial
          refine anyX_takeNL 9 (v := ?_) rfl rfl (by as_aux_lemma => kernel_rfl) (by as_aux_lemma => kernel_rfl) (by as_aux_lemma => kernel_rfl) (by as_aux_lemma => kernel_rfl) (by as_aux_lemma => kernel_rfl) (fun _ _ _ h => h) rfl ?_ hS ?_
          rotate_left
          · intro W' hW'
            obtain - := hW'
            all_goals (go_simp; first | done | rfl)
          intro l' hl
          dsimp only [List.set_cons_succ, List.set_cons_zero] at hl
          subst hl
          refine anyX_takeNL 10 (v := ?_) rfl rfl (by as_aux_lemma => kernel_rfl) (by as_aux_lemma => kernel_rfl) (by as_aux_lemma => kernel_rfl) (by as_aux_lemma => kernel_rfl) (by as_aux_lemma => kernel_rfl) (fun _ _ _ h => h) rfl ?_ hS ?_
          rotate_left
          · intro W' hW'
            obtain - := hW'
            all_goals (go_simp; first | done | rfl)
          intro l' hl
          dsimp only [List.set_cons_succ, List.set_cons_zero] at hl
          subst hl
          refine anyX_done (by kernel_rfl) ?_ _
          refine NoPanic.normal ?_
          clear hS
          go_wp2
          go_ret2
          refine ⟨g, ob, rfl, ⟨[], Inv.start us hl Hu.out, ⟨_, _, _, hB, hr1, by rw [fr_start]; exact hr2, ?_⟩, hT, List.Pairwise.nil, List.nodup_nil, fun job => ⟨fun hh => by simp [TIH.has, TIH.foundB] at hh, fun hh => absurd rfl hh⟩, fun r hr => by cases hr⟩, nb, lb⟩
          have e3 : (madeCells (Value.int .i64 0).cells (us.length * 1)).toList = EInt.css (List.replicate us.length 0) := zeros us.length
          rw [e3] at hr3
          exact hr3
        · refine wp_make_row (q ++ [3]) oa1 _ _ 38 rfl 3 _ 1 8 Try.underlying38 EInt.info rfl _ _ _ _ us.length us.length rfl rfl rfl rfl (Nat.le_refl _) (by omega) (by unfold maxLen; omega) ?_
          intro v3 wa16 oa16 hr3 nx
          have hr1 := hr1.new_ nx
          have na16 := na1.trans nx
          clear nx
          change K' (Act.put _ (some 28) _) _
          refine hK' _ _ (fun _ => trivial) ?_
          clear hK' K'
          simp only [Act.put, List.setIfInBounds_toArray, List.set_cons_succ, List.set_cons_zero]
          refine anyX_one (i := 3) (by kernel_rfl) rfl rfl fun K' hK' => ?_
          unfold Oper.wp
          go_simp
          refine (clone wa16 oa16 (q ++ [2]) (.slice A us.length c) us (Hr.out.new_ na16.below) (by omega)).mono ?_
          rintro e wa163 ⟨v2, oa163, rfl, hr2, nx⟩
          have hr1 := hr1.new_ nx
          have hr3 := hr3.new_ nx
          have na163 := na16.trans nx
          clear nx
          refine hK' _ _ (fun _ => trivial) ?_
          clear hK' K'
          obtain ⟨A1, c1, rfl, -⟩ := hr1.slice
          obtain ⟨A2, c2, rfl, -⟩ := hr2.slice
          obtain ⟨A3, c3, rfl, -⟩ := hr3.slice
          have hS : (fun _ : World => True) wa163 := trivial
          refine anyX_takeNL 7 (v := ?_) rfl rfl (by as_aux_lemma => kernel_rfl) (by as_aux_lemma => kernel_rfl) (by as_aux_lemma => kernel_rfl) (by as_aux_lemma => kernel_rfl) (by as_aux_lemma => kernel_rfl) (fun _ _ _ h => h) rfl ?_ hS ?_
          rotate_left
          · intro W' hW'
            obtain - := hW'
            all_goals (go_simp; first | done | rfl)
          intro l' hl
          dsimp only [List.set_cons_succ, List.set_cons_zero] at hl
          subst hl
          refine anyX_one (i := 8) (by kernel_rfl) rfl rfl fun K' hK' => ?_
          unfold Oper.wp
          go_simp
          refine hK' _ _ (fun _ => trivial) ?_
          clear hK' K'
          clear hS
          obtain ⟨ob, hB, hT, nb⟩ := new_box wa163 oa163 q (.slice A1 us.length c1) (.slice A2 us.length c2) (.slice A3 us.length c3)
          have hr1 := hr1.new_ nb
          have hr2 := hr2.new_ nb
          have hr3 := hr3.new_ nb
          have nb := na163.trans nb
          have lb : w.heap.size ≤ wa163.heap.size := na163.below.size
          generalize wa163.alloc (.cells #[.slice A1 us.length c1, .slice A2 us.length c2, .slice A3 us.length c3, .slice none 0 0] 86) = wz at *
          generalize wa163.heap.size = g at *
          have hS : (fun _ : World => True) wz := trivial
          refine anyX_takeNL 9 (v := ?_) rfl rfl (by as_aux_lemma => kernel_rfl) (by as_aux_lemma => kernel_rfl) (by as_aux_lemma => kernel_rfl) (by as_aux_lemma => kernel_rfl) (by as_aux_lemma => kernel_rfl) (fun _ _ _ h => h) rfl ?_ hS ?_
          rotate_left
          · intro W' hW'
            obtain - := hW'
            all_goals (go_simp; first | done | rfl)
          intro l' hl
          dsimp only [List.set_cons_succ, List.set_cons_zero] at hl
          subst hl
          refine anyX_takeNL 10 (v := ?_) rfl rfl (by as_aux_lemma => kernel_rfl) (by as_aux_lemma => kernel_rfl) (by as_aux_lemma => kernel_rfl) (by as_aux_lemma => kernel_rfl) (by as_aux_lemma => kernel_rfl) (fun _ _ _ h => h) rfl ?_ hS ?_
          rotate_left
          · intro W' hW'
            obtain - := hW'
            all_goals (go_simp; first | done | rfl)
          intro l' hl
          dsimp only [List.set_cons_succ, List.set_cons_zero] at hl
          subst hl
          refine anyX_done (by kernel_rfl) ?_ _
          refine NoPanic.normal ?_
          clear hS
          go_wp2
          go_ret2
          refine ⟨g, ob, rfl, ⟨[], Inv.start us hl Hu.out, ⟨_, _, _, hB, hr1, by rw [fr_start]; exact hr2, ?_⟩, hT, List.Pairwise.nil, List.nodup_nil, fun job => ⟨fun hh => by simp [TIH.has, TIH.foundB] at hh, fun hh => absurd rfl hh⟩, fun r hr => by cases hr⟩, nb, lb⟩
          have e3 : (madeCells (Value.int .i64 0).cells (us.length * 1)).toList = EInt.css (List.replicate us.length 0) := zeros us.length
          rw [e3] at hr3
          exact hr3
      · refine wp_make_row (q ++ [3]) ow _ _ 38 rfl 3 _ 1 8 Try.underlying38 EInt.info rfl _ _ _ _ us.length us.length rfl rfl rfl rfl (Nat.le_refl _) (by omega) (by unfold maxLen; omega) ?_
        intro v3 wa6 oa6 hr3 nx
        have na6 := n1.trans nx
        clear nx
        change K' (Act.put _ (some 28) _) _
        refine hK' _ _ (fun _ => trivial) ?_
        clear hK' K'
        simp only [Act.put, List.setIfInBounds_toArray, List.set_cons_succ, List.set_cons_zero]
        refine anyX_one (i := 1) (by kernel_rfl) rfl rfl fun K' hK' => ?_
        unfold Oper.wp
        go_simp
        refine (clone wa6 oa6 (q ++ [1]) (.slice A us.length c) us (Hr.out.new_ na6.below) (by omega)).mono ?_
        rintro e wa61 ⟨v1, oa61, rfl, hr1, nx⟩
        have hr3 := hr3.new_ nx
        have na61 := na6.trans nx
        clear nx
        refine hK' _ _ (fun _ => trivial) ?_
        clear hK' K'
        refine anyX_one (i := 3) (by kernel_rfl) rfl rfl fun K' hK' => ?_
        unfold Oper.wp
        go_simp
        refine (clone wa61 oa61 (q ++ [2]) (.slice A us.length c) us (Hr.out.new_ na61.below) (by omega)).mono ?_
        rintro e wa613 ⟨v2, oa613, rfl, hr2, nx⟩
        have hr3 := hr3.new_ nx
        have hr1 := hr1.new_ nx
        have na613 := na61.trans nx
        clear nx
        refine hK' _ _ (fun _ => trivial) ?_
        clear hK' K'
        obtain ⟨A1, c1, rfl, -⟩ := hr1.slice
        obtain ⟨A2, c2, rfl, -⟩ := hr2.slice
        obtain ⟨A3, c3, rfl, -⟩ := hr3.slice
        have hS : (fun _ : World => True) wa613 := trivial
        refine anyX_takeNL 7 (v := ?_) rfl rfl (by as_aux_lemma => kernel_rfl) (by as_aux_lemma => kernel_rfl) (by as_aux_lemma => kernel_rfl) (by as_aux_lemma => kernel_rfl) (by as_aux_lemma => kernel_rfl) (fun _ _ _ h => h) rfl ?_ hS ?_
        rotate_left
        · intro W' hW'
          obtain - := hW'
          all_goals (go_simp; first | done | rfl)
        intro l' hl
        dsimp only [List.set_cons_succ, List.set_cons_zero] at hl
        subst hl
        refine anyX_one (i := 8) (by kernel_rfl) rfl rfl fun K' hK' => ?_
        unfold Oper.wp
        go_simp
        refine hK' _ _ (fun _ => trivial) ?_
        clear hK' K'
        clear hS
        obtain ⟨ob, hB, hT, nb⟩ := new_box wa613 oa613 q (.slice A1 us.length c1) (.slice A2 us.length c2) (.slice A3 us.length c3)
        have hr1 := hr1.new_ nb
        have hr2 := hr2.new_ nb
        have hr3 := hr3.new_ nb
        have nb := na613.trans nb
        have lb : w.heap.size ≤ wa613.heap.size := na613.below.size
        generalize wa613.alloc (.cells #[.slice A1 us.length c1, .slice A2 us.length c2, .slice A3 us.length c3, .slice none 0 0] 86) = wz at *
        generalize wa613.heap.size = g at *
        have hS : (fun _ : World => True) wz := trivial
        refine anyX_takeNL 9 (v := ?_) rfl rfl (by as_aux_lemma => kernel_rfl) (by as_aux_lemma => kernel_rfl) (by as_aux_lemma => kernel_rfl) (by as_aux_lemma => kernel_rfl) (by as_aux_lemma => kernel_rfl) (fun _ _ _ h => h) rfl ?_ hS ?_
        rotate_left
        · intro W' hW'
          obtain - := hW'
          all_goals (go_simp; first | done | rfl)
        intro l' hl
        dsimp only [List.set_cons_succ, List.set_cons_zero] at hl
        subst hl
        refine anyX_takeNL 10 (v := ?_) rfl rfl (by as_aux_lemma => kernel_rfl) (by as_aux_lemma => kernel_rfl) (by as_aux_lemma => kernel_rfl) (by as_aux_lemma => kernel_rfl) (by as_aux_lemma => kernel_rfl) (fun _ _ _ h => h) rfl ?_ hS ?_
        rotate_left
        · intro W' hW'
          obtain - := hW'
          all_goals (go_simp; first | done | rfl)
        intro l' hl
        dsimp only [List.set_cons_succ, List.set_cons_zero] at hl
        subst hl
        refine anyX_done (by kernel_rfl) ?_ _
        refine NoPanic.normal ?_
        clear hS
        go_wp2
        go_ret2
        refine ⟨g, ob, rfl, ⟨[], Inv.start us hl Hu.out, ⟨_, _, _, hB, hr1, by rw [fr_start]; exact hr2, ?_⟩, hT, List.Pairwise.nil, List.nodup_nil, fun job => ⟨fun hh => by simp [TIH.has, TIH.foundB] at hh, fun hh => absurd rfl hh⟩, fun r hr => by cases hr⟩, nb, lb⟩
        have e3 : (madeCells (Value.int .i64 0).cells (us.length * 1)).toList = EInt.css (List.replicate us.length 0) := zeros us.length
        rw [e3] at hr3
        exact hr3
end
end UN
end Go.Proofs.Ytefagdbdimpcdaa
