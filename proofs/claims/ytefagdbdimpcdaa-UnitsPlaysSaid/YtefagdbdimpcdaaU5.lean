/-
  UNITS.TABLE: Lock.
-/
import Derived.Test.YtefagdbdimpcdaaU4
set_option linter.unusedVariables false
set_option linter.unusedSimpArgs false
namespace Go.Proofs.Ytefagdbdimpcdaa
open Go Go.RowKit
namespace UN

/-- What Lock answers. -/
def lockE (U : List Int) (T : List Tk) (job res n need : Int) : Int := if job < 0 ∨ known U res = false ∨ n < 1 ∨ unitsOf U res < n then 1 else if need < n + heldT T job res then 22 else if freeT U T res < n then 20 else 0
def lockT (U : List Int) (T : List Tk) (job res n need : Int) : List Tk := if lockE U T job res n need = 0 then T ++ [⟨job, res, n⟩] else T

theorem known_nat {U : List Int} {r : Nat} (h : r < U.length) : known U r = true := decide_eq_true ⟨by omega, by omega⟩

/-- A new holder. -/
theorem new_holder (w : World) (ow : Ow) (p : List Nat) : ∃ ow', ELk.St (w.alloc (.cells #[.slice none 0 0, .int .i64 0, .int .i64 0, .int .i64 0, .int .i64 0, .int .i64 0, .int .i64 0, .int .i64 0, .int .i64 0, .int .i64 0, .int .i64 0, .int .i64 0, .int .i64 0, .int .i64 0, .int .i64 0, .int .i64 0, .int .i64 0] 97)) ow' (p ++ [5, w.heap.size]) w.heap.size 0 [] ∧ Cells (w.alloc (.cells #[.slice none 0 0, .int .i64 0, .int .i64 0, .int .i64 0, .int .i64 0, .int .i64 0, .int .i64 0, .int .i64 0, .int .i64 0, .int .i64 0, .int .i64 0, .int .i64 0, .int .i64 0, .int .i64 0, .int .i64 0, .int .i64 0, .int .i64 0] 97)) ow' (p ++ [6, w.heap.size]) w.heap.size 1 (h16 fun _ => 0) ∧ New w ow (w.alloc (.cells #[.slice none 0 0, .int .i64 0, .int .i64 0, .int .i64 0, .int .i64 0, .int .i64 0, .int .i64 0, .int .i64 0, .int .i64 0, .int .i64 0, .int .i64 0, .int .i64 0, .int .i64 0, .int .i64 0, .int .i64 0, .int .i64 0, .int .i64 0] 97)) ow' := by
  refine ⟨ow.setF w.heap.size fun o => if o = 0 then p ++ [5, w.heap.size] ++ [0] else p ++ [6, w.heap.size], ELk.St.nil (Cells.newF _ _ _ _ _ _ _ _ ?_), Cells.newF _ _ _ _ _ _ _ _ ?_, (New.refl _ _).allocF _ _⟩
  · intro j u hj
    cases j with
    | zero => simp at hj; subst hj; exact ⟨rfl, rfl⟩
    | succ j => simp at hj
  · intro j u hj
    have hlt : j < 16 := (List.getElem?_eq_some_iff.1 hj).1
    refine ⟨?_, if_neg (by omega)⟩
    rw [h16_at _ j hlt] at hj
    obtain rfl := Option.some.inj hj
    have c : j = 0 ∨ j = 1 ∨ j = 2 ∨ j = 3 ∨ j = 4 ∨ j = 5 ∨ j = 6 ∨ j = 7 ∨ j = 8 ∨ j = 9 ∨ j = 10 ∨ j = 11 ∨ j = 12 ∨ j = 13 ∨ j = 14 ∨ j = 15 := by omega
    rcases c with rfl | rfl | rfl | rfl | rfl | rfl | rfl | rfl | rfl | rfl | rfl | rfl | rfl | rfl | rfl | rfl <;> rfl

section
variable (w : World) (ow : Ow) (p : List Nat) (g : Nat) (U C : List Int) (T : List Tk)

set_option maxRecDepth 100000 in
set_option maxHeartbeats 4000000 in
theorem lock_no1 (h : UT w ow p g U C T) (job res n need : Int) (hb : job < 0 ∨ known U res = false ∨ n < 1 ∨ unitsOf U res < n) : Calls Try.prog 12 #[.pointer (some ⟨g, 0, none⟩), .int .i64 job, .int .i64 res, .int .i64 n, .int .i64 need] w fun e w' => e = .returned (.int .i64 1) ∧ Below w.heap.size w w' := by
  obtain ⟨rows, h⟩ := h
  have hhas := has w ow p g U C T rows h res
  change Calls _ _ _ _ fun e w' => e = .returned (.bool (known U res)) ∧ _ at hhas
  by_cases hj : job < 0
  · clear hb h
    go_enter Try.func12, Try.ntmps12
    go_wp2
    go_ret
    exact ⟨rfl, Below.refl _ _⟩
  · cases hk : known U res with
    | false =>
      rw [hk] at hhas
      clear hk hb h
      go_enter Try.func12, Try.ntmps12
      go_wp2_with fail
      refine hhas.mono ?_
      rintro e w1 ⟨rfl, k, rfl⟩
      go_wp2
      go_ret
      exact ⟨rfl, bdN (Below.refl _ _) _⟩
    | true =>
      rw [hk] at hhas
      by_cases hn : n < 1
      · clear hk hb h
        go_enter Try.func12, Try.ntmps12
        go_wp2_with fail
        refine hhas.mono ?_
        rintro e w1 ⟨rfl, k, rfl⟩
        go_wp2
        go_ret
        exact ⟨rfl, bdN (Below.refl _ _) _⟩
      · obtain ⟨r, rfl, hr, u, hu⟩ := known_yes hk
        rw [unitsOf_at hu] at hb
        have hun : u < n := by
          rcases hb with hb | hb | hb | hb
          · exact absurd hb hj
          · rw [hk] at hb; cases hb
          · exact absurd hb hn
          · exact hb
        obtain ⟨hi, ⟨vu, vf, vc, hc, h2, -⟩, -⟩ := h
        obtain ⟨b, off, cap, rfl, lb, eu, -⟩ := row_at h2 rfl r u hu
        have c0 := hc.get0
        have i0 : (r : Int) < (U.length : Int) := by omega
        clear hk hu hi h2 hc hb
        go_enter Try.func12, Try.ntmps12
        go_wp2_with fail
        refine hhas.mono ?_
        rintro e w1 ⟨rfl, k, rfl⟩
        go_wp2
        go_ret
        exact ⟨rfl, bdN (Below.refl _ _) _⟩

/-- What the test behind the table's look-up leaves. -/
def lkMid (vu vf vc : Value) (job : Int) (s : Value) (W : World) : Prop :=
  ∃ (G : Nat) (OW : Ow) (rows : List (Int × Nat)), s = .pointer (some ⟨G, 0, none⟩) ∧ (job, G) ∈ rows ∧ TIH.Rise rows ∧ (rows.map (·.2)).Nodup ∧ (∀ j, TIH.has rows j = true ↔ (j = job ∨ locksOf T j ≠ [])) ∧
    Cells W OW (p ++ [0]) g 0 [vu, vf, vc] ∧ Row W OW (p ++ [1]) 3 1 vu U.length (EInt.css U) ∧ Row W OW (p ++ [2]) 3 1 vf U.length (EInt.css (fr U T)) ∧ Row W OW (p ++ [3]) 3 1 vc U.length (EInt.css C) ∧
    TIH.TbP W OW (p ++ [4]) g 3 rows ∧ Oth W OW p G T rows ∧ ELk.St W OW (p ++ [5, G]) G 0 (locksOf T job) ∧ Cells W OW (p ++ [6, G]) G 1 (h16 (heldL (locksOf T job))) ∧ Turn p w ow W OW

set_option maxRecDepth 100000 in
set_option maxHeartbeats 8000000 in
theorem lock_in (h : UT w ow p g U C T) (job n need : Int) (r : Nat) (hj : 0 ≤ job) (hr : r < U.length) (hn1 : 1 ≤ n) (hn2 : n ≤ unitsOf U r) :
    Calls Try.prog 12 #[.pointer (some ⟨g, 0, none⟩), .int .i64 job, .int .i64 (r : Int), .int .i64 n, .int .i64 need] w fun e w' => ∃ ow', e = .returned (.int .i64 (lockE U T job r n need)) ∧ UT w' ow' p g U C (lockT U T job r n need) ∧ Turn p w ow w' ow' := by
  have hk := known_nat (U := U) hr
  have hbad : ¬ (job < 0 ∨ known U (r : Int) = false ∨ n < 1 ∨ unitsOf U (r : Int) < n) := by
    rintro (hb | hb | hb | hb)
    · omega
    · rw [hk] at hb; cases hb
    · omega
    · omega
  have hj0 : ¬ job < 0 := by omega
  have hn0 : ¬ n < 1 := by omega
  obtain ⟨rows, h⟩ := h
  have hhas := has w ow p g U C T rows h r
  change Calls _ _ _ _ fun e w' => e = .returned (.bool (known U (r : Int))) ∧ _ at hhas
  rw [hk] at hhas
  obtain ⟨u, hu⟩ : ∃ u, U[r]? = some u := ⟨_, List.getElem?_eq_getElem hr⟩
  rw [unitsOf_at hu] at hn2
  have hul := h.1.ul
  have hub := h.1.ub u (List.mem_of_getElem? hu)
  have hr16 : r < 16 := by omega
  have hix := run_index16 (heldL (locksOf T job)) r hr16
  have hof := fun W (hW : Below w.heap.size w W) => of W ow p g U C T rows (h.new_ (hW.nw ow)) job
  have hhv := h.1.held job r
  have hus := h.1.used r
  have hfr := h.1.free r
  unfold heldT at hhv
  have hw1 : IntKind.i64.wrap (n + heldL (locksOf T job) r) = n + heldL (locksOf T job) r := by rw [IntKind.wrap_i64]; omega
  have hE : lockE U T job r n need = if need < n + heldL (locksOf T job) r then 22 else if freeT U T r < n then 20 else 0 := by unfold lockE; rw [if_neg hbad]; rfl
  have h0 := h
  obtain ⟨hi, ⟨vu, vf, vc, hc, h2, h3, h4⟩, h5, h6, h7, h8, h9⟩ := h
  obtain ⟨b, off, cap, rfl, lb, eu, -⟩ := row_at h2 rfl r u hu
  have c0 := hc.get0
  have i0 : (r : Int) < (U.length : Int) := by omega
  have i16 : (r : Int) < 16 := by omega
  have Hof := Lib.hid hof
  have Hhas := Lib.hid hhas
  have H0 := Lib.hid h0
  have Hu := Lib.hid hu
  unfold lockT
  rw [hE]
  clear hof hhas h0 hu hbad hk
  by_cases h22 : need < n + heldL (locksOf T job) r
  · rw [if_pos h22]
    rw [if_neg (by omega)]
    clear hi h2 h3 h4 h5 h6 h7 h8 h9 hc hE
    generalize heldL (locksOf T job) = f at *
    generalize (h16 f).toArray = V at *
    go_enter Try.func12, Try.ntmps12
    go_wp2_with fail
    refine Hhas.out.mono ?_
    rintro e w1 ⟨rfl, k, rfl⟩
    go_wp2_with fail
    refine (Hof.out _ (bdN (Below.refl _ _) k)).mono ?_
    rintro e w2 ⟨rfl, hb⟩
    have fin := (bdN (Below.refl w.heap.size w) k).trans hb
    clear hb
    go_wp2
    go_ret
    exact ⟨ow, rfl, ⟨rows, H0.out.new_ (fin.nw ow)⟩, (fin.nw ow).turn p⟩
  · rw [if_neg h22]
    by_cases h20 : freeT U T r < n
    · rw [if_pos h20]
      rw [if_neg (by omega)]
      have hfa := fr_at U T r hr
      have hfl := fr_length U T
      clear hi h2 h4 h5 h6 h7 h8 h9 hE
      generalize heldL (locksOf T job) = f at *
      generalize (h16 f).toArray = V at *
      generalize freeT U T r = fv at *
      go_enter Try.func12, Try.ntmps12
      go_wp2_with fail
      refine Hhas.out.mono ?_
      rintro e w1 ⟨rfl, k, rfl⟩
      go_wp2_with fail
      refine (Hof.out _ (bdN (Below.refl _ _) k)).mono ?_
      rintro e w2 ⟨rfl, hb⟩
      have fin := (bdN (Below.refl w.heap.size w) k).trans hb
      replace h3 := h3.new_ (fin.nw ow)
      replace hc := hc.new_ (fin.nw ow)
      obtain ⟨bf, off2, cap2, rfl, lb2, e1, -⟩ := row_at h3 hfl r fv hfa
      have c1 := hc.get 1 rfl
      simp only [Nat.zero_add] at c1
      clear hb h3 hc hfa hfl
      go_wp2
      go_ret
      exact ⟨ow, rfl, ⟨rows, H0.out.new_ (fin.nw ow)⟩, (fin.nw ow).turn p⟩
    · rw [if_neg h20]
      rw [if_pos rfl]
      have hfa := fr_at U T r hr
      have hfl := fr_length U T
      have Hfa := Lib.hid hfa
      have Hfl := Lib.hid hfl
      have Hi := Lib.hid hi
      have hi' := hi.lock hj (by omega) (by omega) hn1 (show n ≤ freeT U T r by omega) (res := (r : Int))
      have hi2 := hi'.free r
      have hll := locks_len T job
      have hll2 := hi.len
      have hfv : freeT U (T ++ [⟨job, r, n⟩]) r = freeT U T r - n := by unfold freeT; rw [usedT_snoc]; simp; omega
      have hfo : ∀ i : Nat, i ≠ r → freeT U (T ++ [⟨job, r, n⟩]) i = freeT U T i := fun i hir => by unfold freeT; rw [usedT_snoc]; simp only; rw [if_neg (by omega)]; omega
      have hfs := fr_set U T (T ++ [⟨job, r, n⟩]) r (freeT U T r - n) hr hfv hfo
      have hset := h16_set (heldL (locksOf T job)) (heldL (locksOf T job ++ [⟨r, n⟩])) r hr16 (heldL (locksOf T job) r + n) (by rw [heldL_snoc]; simp) (fun x hx => by rw [heldL_snoc]; simp only; rw [if_neg (Ne.symm hx)]; omega)
      have hpl : locksOf (T ++ [⟨job, r, n⟩]) job = locksOf T job ++ [⟨r, n⟩] := by rw [locksOf_snoc, if_pos rfl]
      have hpo : ∀ j, j ≠ job → locksOf (T ++ [⟨job, r, n⟩]) j = locksOf T j := fun j hjj => by rw [locksOf_snoc, if_neg (Ne.symm hjj)]
      have h16a := h16_at (heldL (locksOf T job)) r hr16
      have hlen : rows.length ≤ 4080 := H0.out.len
      have hwr2 : IntKind.i64.wrap (freeT U T r - n) = freeT U T r - n := by rw [IntKind.wrap_i64]; omega
      have hwr1 : IntKind.i64.wrap (heldL (locksOf T job) r + n) = heldL (locksOf T job) r + n := by rw [IntKind.wrap_i64]; omega
      have Hi' := Lib.hid hi'
      have Hfs := Lib.hid hfs
      have Hset := Lib.hid hset
      have Hpl := Lib.hid hpl
      have Hpo := Lib.hid hpo
      have H16 := Lib.hid h16a
      have H8 := Lib.hid h8
      have H9 := Lib.hid h9
      have H7 := Lib.hid h7
      clear hfa hfl hi hi' hfs hset hpl hpo h16a h8 h9 h7 hfv hfo hE
      generalize hls : locksOf T job = ls at *
      have Hls := Lib.hid hls
      clear hls
      generalize hV : (h16 (heldL ls)).toArray = V at *
      clear hV
      generalize hh : heldL ls r = hv at *
      generalize hg : freeT U T r = fv at *
      clear hh hg
      go_enter Try.func12, Try.ntmps12
      go_wp2_with fail
      refine Hhas.out.mono ?_
      rintro e w1 ⟨rfl, k, rfl⟩
      go_wp2_with fail
      refine (Hof.out _ (bdN (Below.refl _ _) k)).mono ?_
      rintro e w2 ⟨rfl, hb⟩
      have fin := (bdN (Below.refl w.heap.size w) k).trans hb
      clear Hof Hhas hb eu lb c0
      have nn := fin.nw ow
      replace hc := hc.new_ nn
      replace h2 := h2.new_ nn
      replace h3 := h3.new_ nn
      replace h4 := h4.new_ nn
      replace h5 := h5.new_ nn
      have t := nn.turn p
      obtain ⟨bf, off2, cap2, rfl, lb2, e1, -⟩ := row_at h3 Hfl.out r fv Hfa.out
      have c1 := hc.get 1 rfl
      simp only [Nat.zero_add] at c1
      by_cases hnil : ls = []
      · have hcall := get_no w2 ow p g U C T rows (H0.out.new_ (fin.nw ow)) job (by rw [Hls.out]; exact hnil)
        have hf0 : TIH.has rows job = false := by
          cases hh : TIH.has rows job with
          | false => rfl
          | true => exact absurd (Hls.out.trans hnil) ((H8.out job).1 hh)
        have H9w := Lib.hid (fun rr hr => (H9.out rr hr).new_ (fin.nw ow))
        have Hf0 := Lib.hid hf0
        have Hnil := Lib.hid hnil
        clear hf0 hnil
        go_wp2_with fail
        refine hcall.mono ?_
        rintro e w3 ⟨rfl, hb⟩
        clear hcall c1 e1 lb2
        have nn := hb.nw ow
        replace hc := hc.new_ nn
        replace h2 := h2.new_ nn
        replace h3 := h3.new_ nn
        replace h4 := h4.new_ nn
        replace h5 := h5.new_ nn
        replace t := t.trans (nn.turn p)
        have H9 := Lib.hid (fun rr hr => (H9w.out rr hr).new_ nn)
        clear nn hb H9w
        go_wp2_with fail
        obtain ⟨ow3, hSt, hH, nn⟩ := new_holder w3 ow p
        have hGn : w3.heap.size ∉ rows.map (·.2) := fun hm => by
          obtain ⟨rr, hr1, hr2⟩ := List.mem_map.1 hm
          have := (H9.out rr hr1).2.lt
          omega
        replace hc := hc.new_ nn
        replace h2 := h2.new_ nn
        replace h3 := h3.new_ nn
        replace h4 := h4.new_ nn
        replace h5 := h5.new_ nn
        replace t := t.trans (nn.turn p)
        have H9b := Lib.hid (fun rr hr => (H9.out rr hr).new_ nn)
        clear nn H9
        generalize w3.alloc (.cells #[.slice none 0 0, .int .i64 0, .int .i64 0, .int .i64 0, .int .i64 0, .int .i64 0, .int .i64 0, .int .i64 0, .int .i64 0, .int .i64 0, .int .i64 0, .int .i64 0, .int .i64 0, .int .i64 0, .int .i64 0, .int .i64 0, .int .i64 0] 97) = wa at *
        generalize w3.heap.size = G at *
        refine (TIH.t_set_new wa ow3 (p ++ [4]) g 3 rows job G _ h5 (TIH.posN_pos job rows h6) Hf0.out (by omega)).mono ?_
        rintro e w4 ⟨ow4, rfl, h5', tt⟩
        have hO : Oth wa ow3 p G T (TIH.insR rows (TIH.posN job rows) (job, G)) := fun rr hr hne => by
          rcases (ins_mem rows _ (job, G) rr).1 hr with rfl | hr
          · exact absurd rfl hne
          · exact H9b.out rr hr
        replace hc := hc.keep tt (by simp)
        replace h2 := h2.keep tt (by simp)
        replace h3 := h3.keep tt (by simp)
        replace h4 := h4.keep tt (by simp)
        replace hO := hO.keep tt (fun k H s hk hne => by rcases hk with rfl | rfl <;> simp)
        replace hSt := hSt.keep tt (by simp) (by simp)
        replace hH := hH.keep tt (by simp)
        replace t := t.trans (tt.up (by simp))
        clear h5 tt H9b
        have h5 := h5'
        clear h5'
        have HGr := Lib.hid ((ins_mem rows (TIH.posN job rows) (job, G) (job, G)).2 (.inl rfl))
        have h6r : TIH.Rise (TIH.insR rows (TIH.posN job rows) (job, G)) := by
          have := TIH.setT_rise rows h6 job G
          unfold TIH.setT at this
          rwa [if_neg (by rw [Hf0.out]; simp)] at this
        have H7r := Lib.hid (ins_nodup rows (TIH.posN job rows) job G H7.out hGn)
        have h8x : ∀ j, TIH.has (TIH.insR rows (TIH.posN job rows) (job, G)) j = true ↔ locksOf (T ++ [⟨job, r, n⟩]) j ≠ [] := fun j => by
          rw [TIH.has_iff _ h6r j]
          by_cases e : j = job
          · subst e
            exact ⟨fun _ => by rw [Hpl.out]; simp, fun _ => ⟨_, HGr.out, rfl⟩⟩
          · rw [Hpo.out j e, ← H8.out j, TIH.has_iff rows h6 j]
            constructor
            · rintro ⟨rr, hm, hk⟩
              rcases (ins_mem rows _ (job, G) rr).1 hm with rfl | hm
              · exact absurd hk.symm e
              · exact ⟨rr, hm, hk⟩
            · rintro ⟨rr, hm, hk⟩
              exact ⟨rr, (ins_mem rows _ (job, G) rr).2 (.inr hm), hk⟩
        have H8r := Lib.hid h8x
        clear h8x
        have hln : ls = [] := Hnil.out
        rw [show h16 (fun _ => 0) = h16 (heldL ls) by rw [hln]; rfl] at hH
        rw [show ([] : List Lk) = ls from hln.symm] at hSt
        clear hGn h6 hln
        go_wp2_with fail
        refine (ELk.s_push w4 ow4 (p ++ [5, G]) G 0 ls ⟨r, n⟩ hSt (by omega)).mono ?_
        rintro e w5 ⟨ow5, rfl, hSt5, tt⟩
        replace hc := hc.keep tt (by simp)
        replace h2 := h2.keep tt (by simp)
        replace h3 := h3.keep tt (by simp)
        replace h4 := h4.keep tt (by simp)
        replace h5 := h5.keep tt (by simp) (by simp)
        replace hO := hO.keep tt (fun k H s hk hne => by rcases hk with rfl | rfl <;> simp [Ne.symm hne])
        replace hH := hH.keep tt (by simp)
        replace t := t.trans (tt.up (by simp))
        clear hSt tt
        have hSt := hSt5
        clear hSt5
        go_upto_region 12 with fail
        have n1 : New w5 ow5 w5.drew ow5 := (New.refl _ _).drew
        replace hc := hc.new_ n1
        replace h2 := h2.new_ n1
        replace h3 := h3.new_ n1
        replace h4 := h4.new_ n1
        replace h5 := h5.new_ n1
        replace hO := hO.new_ n1
        replace hSt := hSt.new_ n1
        replace hH := hH.new_ n1
        replace t := t.trans (n1.turn p)
        clear n1
        have e0 := hH.get r H16.out
        have lG := hH.lt
        have fG := hH.free (1 + r)
        refine plain_regionN (fun _ => True) [] (by kernel_rfl) ?_
        have hS : (fun _ : World => True) w5.drew := trivial
        refine anyX_takeNL 0 (v := ?_) rfl rfl (by as_aux_lemma => kernel_rfl) (by as_aux_lemma => kernel_rfl) (by as_aux_lemma => kernel_rfl) (by as_aux_lemma => kernel_rfl) (by as_aux_lemma => kernel_rfl) (fun _ _ _ h => h) rfl ?_ hS ?_
        rotate_left
        · intro W' hW'
          obtain - := hW'
          all_goals (go_simp; first | done | rfl)
        intro l' hl
        dsimp only [List.set_cons_succ, List.set_cons_zero] at hl
        subst hl
        refine anyX_takeNL 8 (v := ?_) rfl rfl (by as_aux_lemma => kernel_rfl) (by as_aux_lemma => kernel_rfl) (by as_aux_lemma => kernel_rfl) (by as_aux_lemma => kernel_rfl) (by as_aux_lemma => kernel_rfl) (fun _ _ _ h => h) rfl ?_ hS ?_
        rotate_left
        · intro W' hW'
          obtain - := hW'
          all_goals (go_simp; first | done | rfl)
        intro l' hl
        dsimp only [List.set_cons_succ, List.set_cons_zero] at hl
        subst hl
        refine anyX_takeNL 9 (v := ?_) rfl rfl (by as_aux_lemma => kernel_rfl) (by as_aux_lemma => kernel_rfl) (by as_aux_lemma => kernel_rfl) (by as_aux_lemma => kernel_rfl) (by as_aux_lemma => kernel_rfl) (fun _ _ _ h => h) rfl ?_ hS ?_
        rotate_left
        · intro W' hW'
          obtain - := hW'
          all_goals (go_simp; first | done | rfl)
        intro l' hl
        dsimp only [List.set_cons_succ, List.set_cons_zero] at hl
        subst hl
        clear hS
        refine anyX_weaken (fun W' : World => W'.cell? ⟨G, 1 + r, none⟩ = some (.int .i64 hv)) [11] _ _ _ _ ?_
        have hS : (fun W' : World => W'.cell? ⟨G, 1 + r, none⟩ = some (.int .i64 hv)) w5.drew := e0
        generalize w5.drew = w6 at *
        refine anyX_takeNL 1 (v := ?_) rfl rfl (by as_aux_lemma => kernel_rfl) (by as_aux_lemma => kernel_rfl) (by as_aux_lemma => kernel_rfl) (by as_aux_lemma => kernel_rfl) (by as_aux_lemma => kernel_rfl) (fun _ _ _ h => h) rfl ?_ hS ?_
        rotate_left
        · intro W' hW'
          obtain s0 := hW'
          all_goals (go_simp; first | done | rfl)
        intro l' hl
        dsimp only [List.set_cons_succ, List.set_cons_zero] at hl
        subst hl
        refine anyX_takeNL 2 (v := ?_) rfl rfl (by as_aux_lemma => kernel_rfl) (by as_aux_lemma => kernel_rfl) (by as_aux_lemma => kernel_rfl) (by as_aux_lemma => kernel_rfl) (by as_aux_lemma => kernel_rfl) (fun _ _ _ h => h) rfl ?_ hS ?_
        rotate_left
        · intro W' hW'
          obtain s0 := hW'
          all_goals (go_simp; first | done | rfl)
        intro l' hl
        dsimp only [List.set_cons_succ, List.set_cons_zero] at hl
        subst hl
        refine anyX_takeNL 3 (v := ?_) rfl rfl (by as_aux_lemma => kernel_rfl) (by as_aux_lemma => kernel_rfl) (by as_aux_lemma => kernel_rfl) (by as_aux_lemma => kernel_rfl) (by as_aux_lemma => kernel_rfl) (fun _ _ _ h => h) rfl ?_ hS ?_
        rotate_left
        · intro W' hW'
          obtain s0 := hW'
          all_goals (go_simp; first | done | rfl)
        intro l' hl
        dsimp only [List.set_cons_succ, List.set_cons_zero] at hl
        subst hl
        refine anyX_takeNL 4 (v := ?_) rfl rfl (by as_aux_lemma => kernel_rfl) (by as_aux_lemma => kernel_rfl) (by as_aux_lemma => kernel_rfl) (by as_aux_lemma => kernel_rfl) (by as_aux_lemma => kernel_rfl) (fun _ _ _ h => h) rfl ?_ hS ?_
        rotate_left
        · intro W' hW'
          obtain s0 := hW'
          all_goals (go_simp; first | done | rfl)
        intro l' hl
        dsimp only [List.set_cons_succ, List.set_cons_zero] at hl
        subst hl
        refine anyX_takeNL 5 (v := ?_) rfl rfl (by as_aux_lemma => kernel_rfl) (by as_aux_lemma => kernel_rfl) (by as_aux_lemma => kernel_rfl) (by as_aux_lemma => kernel_rfl) (by as_aux_lemma => kernel_rfl) (fun _ _ _ h => h) rfl ?_ hS ?_
        rotate_left
        · intro W' hW'
          obtain s0 := hW'
          all_goals (go_simp; first | done | rfl)
        intro l' hl
        dsimp only [List.set_cons_succ, List.set_cons_zero] at hl
        subst hl
        refine anyX_takeNL 6 (v := ?_) rfl rfl (by as_aux_lemma => kernel_rfl) (by as_aux_lemma => kernel_rfl) (by as_aux_lemma => kernel_rfl) (by as_aux_lemma => kernel_rfl) (by as_aux_lemma => kernel_rfl) (fun _ _ _ h => h) rfl ?_ hS ?_
        rotate_left
        · intro W' hW'
          obtain s0 := hW'
          all_goals (go_simp; first | done | rfl)
        intro l' hl
        dsimp only [List.set_cons_succ, List.set_cons_zero] at hl
        subst hl
        refine anyX_takeNL 7 (v := ?_) rfl rfl (by as_aux_lemma => kernel_rfl) (by as_aux_lemma => kernel_rfl) (by as_aux_lemma => kernel_rfl) (by as_aux_lemma => kernel_rfl) (by as_aux_lemma => kernel_rfl) (fun _ _ _ h => h) rfl ?_ hS ?_
        rotate_left
        · intro W' hW'
          obtain s0 := hW'
          all_goals (go_simp; first | done | rfl)
        intro l' hl
        dsimp only [List.set_cons_succ, List.set_cons_zero] at hl
        subst hl
        refine anyX_takeNL 10 (v := ?_) rfl rfl (by as_aux_lemma => kernel_rfl) (by as_aux_lemma => kernel_rfl) (by as_aux_lemma => kernel_rfl) (by as_aux_lemma => kernel_rfl) (by as_aux_lemma => kernel_rfl) (fun _ _ _ h => h) rfl ?_ hS ?_
        rotate_left
        · intro W' hW'
          obtain s0 := hW'
          all_goals (go_simp; first | done | rfl)
        intro l' hl
        dsimp only [List.set_cons_succ, List.set_cons_zero] at hl
        subst hl
        refine anyX_one (i := 11) (by kernel_rfl) rfl rfl fun K' hK' => ?_
        unfold Oper.wp
        go_simp
        refine hK' _ _ (fun hf => by cases hf) (anyX_done (by kernel_rfl) ?_ _)
        refine NoPanic.normal ?_
        clear hK' K'
        clear hS e0 fG lG
        have tk := hH.turn r (.int .i64 (hv + n)) (by rw [h16_length]; omega)
        have hH2 := hH.set r (.int .i64 (hv + n)) (by rw [h16_length]; omega)
        rw [Hset.out] at hH2
        replace hc := hc.keep tk (by simp)
        replace h2 := h2.keep tk (by simp)
        replace h3 := h3.keep tk (by simp)
        replace h4 := h4.keep tk (by simp)
        replace h5 := h5.keep tk (by simp) (by simp)
        replace hO := hO.keep tk (fun k H s hk hne => by rcases hk with rfl | rfl <;> simp [Ne.symm hne])
        replace hSt := hSt.keep tk (by simp) (by simp)
        replace t := t.trans (tk.up (by simp))
        clear hH
        have hH := hH2
        clear hH2 tk
        generalize w6.setCell ⟨G, 1 + r, none⟩ (.int .i64 (hv + n)) = w7 at *
        obtain ⟨b4, off4, cap4, hv4, lb4, e4, hfz⟩ := row_at h3 Hfl.out r fv Hfa.out
        simp only [Value.slice.injEq, Option.some.injEq, Addr.mk.injEq, and_true, true_and] at hv4
        obtain ⟨⟨rfl, rfl⟩, rfl⟩ := hv4
        have c4 := hc.get 1 rfl
        simp only [Nat.zero_add] at c4
        have f4 := hfz (off2 + r)
        have tk := h3.turn (off2 + r) (.int .i64 (fv - n))
        have h3' := h3.set r (.int .i64 (fv - n))
        rw [css_cells1 (fr U T) 0 (fv - n) r, Hfs.out] at h3'
        replace hc := hc.keep tk (by simp)
        replace h2 := h2.keep tk (by simp)
        replace h4 := h4.keep tk (by simp)
        replace h5 := h5.keep tk (by simp) (by simp)
        replace hO := hO.keep tk (fun k H s hk hne => by rcases hk with rfl | rfl <;> simp [Ne.symm hne])
        replace hSt := hSt.keep tk (by simp) (by simp)
        replace hH := hH.keep tk (by simp)
        replace t := t.trans (tk.up (by simp))
        have H6r := Lib.hid h6r
        have Ht := Lib.hid t
        have H9' := Lib.hid (hl_all h6r H7r.out HGr.out hO (T' := T ++ [⟨job, r, n⟩]) (by rw [Hpl.out]; exact ⟨hSt, hH⟩) Hpo.out)
        clear h3 hfz h6r t hO hSt hH tk
        go_wp2
        go_ret
        exact ⟨ow5, rfl, ⟨_, Hi'.out, ⟨_, _, _, hc, h2, h3', h4⟩, h5, H6r.out, H7r.out, H8r.out, H9'.out⟩, Ht.out⟩
      · obtain ⟨G, hG, hcall⟩ := get_yes w2 ow p g U C T rows (H0.out.new_ (fin.nw ow)) job (by rw [Hls.out]; exact hnil)
        have hO : Oth w2 ow p G T rows := fun rr hr _ => (H9.out rr hr).new_ (fin.nw ow)
        obtain ⟨hSt, hH⟩ := (H9.out _ hG).new_ (fin.nw ow)
        simp only at hSt hH
        rw [Hls.out] at hSt hH
        have h8r := has_all h6 H8.out hG (T' := T ++ [⟨job, r, n⟩]) (by rw [Hpl.out]; simp) Hpo.out
        have H8r := Lib.hid h8r
        have HGr := Lib.hid hG
        have H7r := Lib.hid H7.out
        have h6r := h6
        clear h8r hG hnil h6
        go_wp2_with fail
        refine hcall.mono ?_
        rintro e w3 ⟨rfl, hb⟩
        clear hcall c1 e1 lb2
        have nn := hb.nw ow
        replace hc := hc.new_ nn
        replace h2 := h2.new_ nn
        replace h3 := h3.new_ nn
        replace h4 := h4.new_ nn
        replace h5 := h5.new_ nn
        replace hO := hO.new_ nn
        replace hSt := hSt.new_ nn
        replace hH := hH.new_ nn
        replace t := t.trans (nn.turn p)
        clear nn hb
        go_wp2_with fail
        refine (ELk.s_push w3 ow (p ++ [5, G]) G 0 ls ⟨r, n⟩ hSt (by omega)).mono ?_
        rintro e w5 ⟨ow5, rfl, hSt5, tt⟩
        replace hc := hc.keep tt (by simp)
        replace h2 := h2.keep tt (by simp)
        replace h3 := h3.keep tt (by simp)
        replace h4 := h4.keep tt (by simp)
        replace h5 := h5.keep tt (by simp) (by simp)
        replace hO := hO.keep tt (fun k H s hk hne => by rcases hk with rfl | rfl <;> simp [Ne.symm hne])
        replace hH := hH.keep tt (by simp)
        replace t := t.trans (tt.up (by simp))
        clear hSt tt
        have hSt := hSt5
        clear hSt5
        go_upto_region 12 with fail
        have n1 : New w5 ow5 w5.drew ow5 := (New.refl _ _).drew
        replace hc := hc.new_ n1
        replace h2 := h2.new_ n1
        replace h3 := h3.new_ n1
        replace h4 := h4.new_ n1
        replace h5 := h5.new_ n1
        replace hO := hO.new_ n1
        replace hSt := hSt.new_ n1
        replace hH := hH.new_ n1
        replace t := t.trans (n1.turn p)
        clear n1
        have e0 := hH.get r H16.out
        have lG := hH.lt
        have fG := hH.free (1 + r)
        refine plain_regionN (fun _ => True) [] (by kernel_rfl) ?_
        have hS : (fun _ : World => True) w5.drew := trivial
        refine anyX_takeNL 0 (v := ?_) rfl rfl (by as_aux_lemma => kernel_rfl) (by as_aux_lemma => kernel_rfl) (by as_aux_lemma => kernel_rfl) (by as_aux_lemma => kernel_rfl) (by as_aux_lemma => kernel_rfl) (fun _ _ _ h => h) rfl ?_ hS ?_
        rotate_left
        · intro W' hW'
          obtain - := hW'
          all_goals (go_simp; first | done | rfl)
        intro l' hl
        dsimp only [List.set_cons_succ, List.set_cons_zero] at hl
        subst hl
        refine anyX_takeNL 8 (v := ?_) rfl rfl (by as_aux_lemma => kernel_rfl) (by as_aux_lemma => kernel_rfl) (by as_aux_lemma => kernel_rfl) (by as_aux_lemma => kernel_rfl) (by as_aux_lemma => kernel_rfl) (fun _ _ _ h => h) rfl ?_ hS ?_
        rotate_left
        · intro W' hW'
          obtain - := hW'
          all_goals (go_simp; first | done | rfl)
        intro l' hl
        dsimp only [List.set_cons_succ, List.set_cons_zero] at hl
        subst hl
        refine anyX_takeNL 9 (v := ?_) rfl rfl (by as_aux_lemma => kernel_rfl) (by as_aux_lemma => kernel_rfl) (by as_aux_lemma => kernel_rfl) (by as_aux_lemma => kernel_rfl) (by as_aux_lemma => kernel_rfl) (fun _ _ _ h => h) rfl ?_ hS ?_
        rotate_left
        · intro W' hW'
          obtain - := hW'
          all_goals (go_simp; first | done | rfl)
        intro l' hl
        dsimp only [List.set_cons_succ, List.set_cons_zero] at hl
        subst hl
        clear hS
        refine anyX_weaken (fun W' : World => W'.cell? ⟨G, 1 + r, none⟩ = some (.int .i64 hv)) [11] _ _ _ _ ?_
        have hS : (fun W' : World => W'.cell? ⟨G, 1 + r, none⟩ = some (.int .i64 hv)) w5.drew := e0
        generalize w5.drew = w6 at *
        refine anyX_takeNL 1 (v := ?_) rfl rfl (by as_aux_lemma => kernel_rfl) (by as_aux_lemma => kernel_rfl) (by as_aux_lemma => kernel_rfl) (by as_aux_lemma => kernel_rfl) (by as_aux_lemma => kernel_rfl) (fun _ _ _ h => h) rfl ?_ hS ?_
        rotate_left
        · intro W' hW'
          obtain s0 := hW'
          all_goals (go_simp; first | done | rfl)
        intro l' hl
        dsimp only [List.set_cons_succ, List.set_cons_zero] at hl
        subst hl
        refine anyX_takeNL 2 (v := ?_) rfl rfl (by as_aux_lemma => kernel_rfl) (by as_aux_lemma => kernel_rfl) (by as_aux_lemma => kernel_rfl) (by as_aux_lemma => kernel_rfl) (by as_aux_lemma => kernel_rfl) (fun _ _ _ h => h) rfl ?_ hS ?_
        rotate_left
        · intro W' hW'
          obtain s0 := hW'
          all_goals (go_simp; first | done | rfl)
        intro l' hl
        dsimp only [List.set_cons_succ, List.set_cons_zero] at hl
        subst hl
        refine anyX_takeNL 3 (v := ?_) rfl rfl (by as_aux_lemma => kernel_rfl) (by as_aux_lemma => kernel_rfl) (by as_aux_lemma => kernel_rfl) (by as_aux_lemma => kernel_rfl) (by as_aux_lemma => kernel_rfl) (fun _ _ _ h => h) rfl ?_ hS ?_
        rotate_left
        · intro W' hW'
          obtain s0 := hW'
          all_goals (go_simp; first | done | rfl)
        intro l' hl
        dsimp only [List.set_cons_succ, List.set_cons_zero] at hl
        subst hl
        refine anyX_takeNL 4 (v := ?_) rfl rfl (by as_aux_lemma => kernel_rfl) (by as_aux_lemma => kernel_rfl) (by as_aux_lemma => kernel_rfl) (by as_aux_lemma => kernel_rfl) (by as_aux_lemma => kernel_rfl) (fun _ _ _ h => h) rfl ?_ hS ?_
        rotate_left
        · intro W' hW'
          obtain s0 := hW'
          all_goals (go_simp; first | done | rfl)
        intro l' hl
        dsimp only [List.set_cons_succ, List.set_cons_zero] at hl
        subst hl
        refine anyX_takeNL 5 (v := ?_) rfl rfl (by as_aux_lemma => kernel_rfl) (by as_aux_lemma => kernel_rfl) (by as_aux_lemma => kernel_rfl) (by as_aux_lemma => kernel_rfl) (by as_aux_lemma => kernel_rfl) (fun _ _ _ h => h) rfl ?_ hS ?_
        rotate_left
        · intro W' hW'
          obtain s0 := hW'
          all_goals (go_simp; first | done | rfl)
        intro l' hl
        dsimp only [List.set_cons_succ, List.set_cons_zero] at hl
        subst hl
        refine anyX_takeNL 6 (v := ?_) rfl rfl (by as_aux_lemma => kernel_rfl) (by as_aux_lemma => kernel_rfl) (by as_aux_lemma => kernel_rfl) (by as_aux_lemma => kernel_rfl) (by as_aux_lemma => kernel_rfl) (fun _ _ _ h => h) rfl ?_ hS ?_
        rotate_left
        · intro W' hW'
          obtain s0 := hW'
          all_goals (go_simp; first | done | rfl)
        intro l' hl
        dsimp only [List.set_cons_succ, List.set_cons_zero] at hl
        subst hl
        refine anyX_takeNL 7 (v := ?_) rfl rfl (by as_aux_lemma => kernel_rfl) (by as_aux_lemma => kernel_rfl) (by as_aux_lemma => kernel_rfl) (by as_aux_lemma => kernel_rfl) (by as_aux_lemma => kernel_rfl) (fun _ _ _ h => h) rfl ?_ hS ?_
        rotate_left
        · intro W' hW'
          obtain s0 := hW'
          all_goals (go_simp; first | done | rfl)
        intro l' hl
        dsimp only [List.set_cons_succ, List.set_cons_zero] at hl
        subst hl
        refine anyX_takeNL 10 (v := ?_) rfl rfl (by as_aux_lemma => kernel_rfl) (by as_aux_lemma => kernel_rfl) (by as_aux_lemma => kernel_rfl) (by as_aux_lemma => kernel_rfl) (by as_aux_lemma => kernel_rfl) (fun _ _ _ h => h) rfl ?_ hS ?_
        rotate_left
        · intro W' hW'
          obtain s0 := hW'
          all_goals (go_simp; first | done | rfl)
        intro l' hl
        dsimp only [List.set_cons_succ, List.set_cons_zero] at hl
        subst hl
        refine anyX_one (i := 11) (by kernel_rfl) rfl rfl fun K' hK' => ?_
        unfold Oper.wp
        go_simp
        refine hK' _ _ (fun hf => by cases hf) (anyX_done (by kernel_rfl) ?_ _)
        refine NoPanic.normal ?_
        clear hK' K'
        clear hS e0 fG lG
        have tk := hH.turn r (.int .i64 (hv + n)) (by rw [h16_length]; omega)
        have hH2 := hH.set r (.int .i64 (hv + n)) (by rw [h16_length]; omega)
        rw [Hset.out] at hH2
        replace hc := hc.keep tk (by simp)
        replace h2 := h2.keep tk (by simp)
        replace h3 := h3.keep tk (by simp)
        replace h4 := h4.keep tk (by simp)
        replace h5 := h5.keep tk (by simp) (by simp)
        replace hO := hO.keep tk (fun k H s hk hne => by rcases hk with rfl | rfl <;> simp [Ne.symm hne])
        replace hSt := hSt.keep tk (by simp) (by simp)
        replace t := t.trans (tk.up (by simp))
        clear hH
        have hH := hH2
        clear hH2 tk
        generalize w6.setCell ⟨G, 1 + r, none⟩ (.int .i64 (hv + n)) = w7 at *
        obtain ⟨b4, off4, cap4, hv4, lb4, e4, hfz⟩ := row_at h3 Hfl.out r fv Hfa.out
        simp only [Value.slice.injEq, Option.some.injEq, Addr.mk.injEq, and_true, true_and] at hv4
        obtain ⟨⟨rfl, rfl⟩, rfl⟩ := hv4
        have c4 := hc.get 1 rfl
        simp only [Nat.zero_add] at c4
        have f4 := hfz (off2 + r)
        have tk := h3.turn (off2 + r) (.int .i64 (fv - n))
        have h3' := h3.set r (.int .i64 (fv - n))
        rw [css_cells1 (fr U T) 0 (fv - n) r, Hfs.out] at h3'
        replace hc := hc.keep tk (by simp)
        replace h2 := h2.keep tk (by simp)
        replace h4 := h4.keep tk (by simp)
        replace h5 := h5.keep tk (by simp) (by simp)
        replace hO := hO.keep tk (fun k H s hk hne => by rcases hk with rfl | rfl <;> simp [Ne.symm hne])
        replace hSt := hSt.keep tk (by simp) (by simp)
        replace hH := hH.keep tk (by simp)
        replace t := t.trans (tk.up (by simp))
        have H6r := Lib.hid h6r
        have Ht := Lib.hid t
        have H9' := Lib.hid (hl_all h6r H7r.out HGr.out hO (T' := T ++ [⟨job, r, n⟩]) (by rw [Hpl.out]; exact ⟨hSt, hH⟩) Hpo.out)
        clear h3 hfz h6r t hO hSt hH tk
        go_wp2
        go_ret
        exact ⟨ow5, rfl, ⟨rows, Hi'.out, ⟨_, _, _, hc, h2, h3', h4⟩, h5, H6r.out, H7r.out, H8r.out, H9'.out⟩, Ht.out⟩
end
end UN
end Go.Proofs.Ytefagdbdimpcdaa
