/-
  CODE: the law CodePrints.
-/
import Derived.Test.YtnehiooioodkfaaDoorRB
import Derived.Test.YtnehiooioodkfaaDoorPC
set_option linter.unusedVariables false
set_option linter.unusedSimpArgs false
namespace Go.Proofs.YtnehiooioodkfaaDoor
open Go Go.RowKit
namespace CR
open CD
def mkO : Op4 := ⟨-77, 0, 0, 0⟩
theorem mark (w : World) : Calls Tryd.prog 27 #[] w fun e w' => e = .returned (.agg #[.int .i64 mkO.kind, .int .i64 mkO.res, .int .i64 mkO.n, .int .i64 mkO.v]) ∧ Below w.heap.size w w' := by
  go_enter Tryd.func27, Tryd.ntmps27
  go_wp2
  refine bodyPost_ret (v := .agg #[.int .i64 mkO.kind, .int .i64 mkO.res, .int .i64 mkO.n, .int .i64 mkO.v]) (by simp [results, Tryd.results27, go_sem, mkO]) rfl ⟨rfl, (Below.refl _ _).alloc (Nat.le_refl _) _⟩
set_option maxRecDepth 100000 in
set_option maxHeartbeats 4000000 in
theorem printsL (w : World) (hV : VL w) (v0 : Value) (ps0 : List Op4) (h0 : EOq.In w v0 ps0) (hr0 : ∀ o ∈ ps0, Rg o) :
    Calls Tryd.prog 5 #[v0] w fun e w' => e = .returned (.bool true) ∧ Below w.heap.size w w' := by
  have hs1 := EOq.few w v0 ps0 300 h0 (by omega)
  have HS1 := Lib.hid hs1
  have HV := Lib.hid hV
  have HR := Lib.hid (fun (W : World) (b : Below w.heap.size w W) => runs W (HV.out.nb b))
  clear hs1 hV h0
  go_enter Tryd.func5, Tryd.ntmps5
  go_wp2_with fail
  refine HS1.out.mono ?_
  rintro e w1 ⟨v2, rfl, hin1, hw⟩
  subst w1
  have hpl : (ps0.take 300).length ≤ 300 := List.length_take_le _ _
  have hrg : ∀ o ∈ ps0.take 300, Rg o := fun o ho => hr0 o (List.mem_of_mem_take ho)
  have hp := rd_of_in hin1
  clear HS1 hin1 hr0
  generalize ps0.take 300 = ps at *
  have HP := Lib.hid hp
  obtain ⟨A1, c1, rfl, -⟩ := hp.slice
  clear hp
  obtain ⟨full, hfull⟩ : ∃ full, full = ps ++ List.replicate 80 mkO := ⟨_, rfl⟩
  have hfl : full.length = ps.length + 80 := by rw [hfull, List.length_append, List.length_replicate]
  have hroom := fun (W : World) (h : Rd4 W (.slice A1 ps.length c1) ps) => roomy W _ ps mkO full hfull h (by omega)
  have hint := fun (W : World) (vf : Value) (hf : Rd4 W vf full) (h : Rd4 W (.slice A1 ps.length c1) ps) => intact W vf _ ps mkO (by rw [← hfull]; exact hf) h (by omega)
  have hpr := fun (W : World) (v : Value) (h : Rd4 W v ps) (hv : VL W) => print W v ps h (by omega) hrg hv
  have hck := fun (W : World) (v : Value) (h : Rd4 W v ps) => check W v ps h (by omega)
  have hrp := fun (W : World) (v : Value) (h : Rd4 W v ps) => rprint W v ps h (by omega) hrg
  have hrc := fun (W : World) (v : Value) (h : Rd4 W v ps) => rcheck W v ps h (by omega)
  have hmk := mark
  have hfr : ∀ (W : World) (g off cap : Nat), Reads W (.slice (some ⟨g, off, none⟩) full.length cap) full.length (EOq.css full) → full.length ≤ cap → Rd4 W (.slice (some ⟨g, off, none⟩) ps.length cap) ps := fun W g off cap h1 h2 => front4 (xs := ps) (ys := List.replicate 80 mkO) (by rw [← hfull]; exact h1) (by rw [← hfull]; exact h2)
  clear hfull
  generalize (printB ps).1 = T at *
  generalize (printB ps).2 = E at *
  generalize (checkB ps).1 = a at *
  generalize (checkB ps).2 = g at *
  have HROOM := Lib.hid hroom
  have HINT := Lib.hid hint
  have HPR := Lib.hid hpr
  have HCK := Lib.hid hck
  have HRP := Lib.hid hrp
  have HRC := Lib.hid hrc
  have HMK := Lib.hid hmk
  have HFR := Lib.hid hfr
  clear hroom hint hpr hck hrp hrc hmk hfr hrg
  go_wp2_with fail
  refine (HMK.out w).mono ?_
  rintro e w1 ⟨rfl, b1⟩
  have HP1 := Lib.hid (HP.out.new_ b1)
  have HB1 := Lib.hid b1
  clear b1
  go_wp2_with fail
  refine (HROOM.out w1 HP1.out).mono ?_
  rintro e w2 ⟨v3, rfl, r3, b2⟩
  have HB2 := Lib.hid (HB1.out.trans (b2.mono HB1.out.size))
  have HP2 := Lib.hid (HP1.out.new_ b2)
  obtain ⟨gb, off, cap, rfl, hcap, -⟩ := r3.at (by omega)
  have hfront := HFR.out w2 gb off cap r3 hcap
  have HF2 := Lib.hid hfront
  have HU2 := Lib.hid (rd4 r3)
  have hle : (ps.length : Int) ≤ (cap : Int) := by omega
  clear b2 r3 hfront HP1 HB1 HROOM HFR
  go_wp2_with fail
  refine (HRP.out w2 _ HP2.out).mono ?_
  rintro e w3 ⟨rfl, b3⟩
  have HB3 := Lib.hid (HB2.out.trans (b3.mono HB2.out.size))
  have HP3 := Lib.hid (HP2.out.new_ b3)
  have HF3 := Lib.hid (HF2.out.new_ b3)
  have HU3 := Lib.hid (HU2.out.new_ b3)
  clear b3 HP2 HF2 HU2 HB2 HRP
  go_wp2_with fail
  refine (HRC.out w3 _ HP3.out).mono ?_
  rintro e w4 ⟨rfl, b4⟩
  have HB4 := Lib.hid (HB3.out.trans (b4.mono HB3.out.size))
  have HP4 := Lib.hid (HP3.out.new_ b4)
  have HF4 := Lib.hid (HF3.out.new_ b4)
  have HU4 := Lib.hid (HU3.out.new_ b4)
  have hs0 : (T.toList == T.toList) = true := beq_self_eq_true _
  have hs1 : (E != E) = false := by simp
  have hs2 : (a != a) = false := by simp
  have hs3 : (g != g) = false := by simp
  clear b4 HP3 HF3 HU3 HB3 HRC
  go_wp2
  go_loopg [8] 2 (fun gn i wr => ∃ k : Nat, gn = 2 - k ∧ k ≤ 2 ∧ i = .int .i64 (k : Int) ∧ Below w4.heap.size w4 wr)
  case atStart => exact ⟨0, rfl, by omega, rfl, Below.refl _ _⟩
  case round =>
    obtain ⟨k, hgk, hk, rfl, bd⟩ := hrel
    have Hgk := Lib.hid hgk
    have HBD := Lib.hid bd
    have HB5 := Lib.hid (HB4.out.trans (bd.mono HB4.out.size))
    have HP5 := Lib.hid (HP4.out.new_ bd)
    have HF5 := Lib.hid (HF4.out.new_ bd)
    have HU5 := Lib.hid (HU4.out.new_ bd)
    clear hgk bd
    by_cases hlt : k < 2
    · have i0 : (k : Int) < 2 := by omega
      have hwk : IntKind.i64.wrap ((k : Int) + 1) = (k : Int) + 1 := by rw [IntKind.wrap_i64]; omega
      go_wp2_with fail
      refine (HPR.out wr _ HF5.out (HV.out.nb HB5.out)).mono ?_
      rintro e w6 ⟨rfl, b6⟩
      have HF6 := Lib.hid (HF5.out.new_ b6)
      have HBD6 := Lib.hid (HBD.out.trans (b6.mono HBD.out.size))
      clear b6 HF5 HBD HB5 HP5 HU5
      go_wp2_with fail
      refine (HCK.out w6 _ HF6.out).mono ?_
      rintro e w7 ⟨rfl, b7⟩
      have HBD7 := Lib.hid (HBD6.out.trans (b7.mono HBD6.out.size))
      clear b7 HF6 HBD6
      go_wp2
      go_roundg (2 - (k + 1))
      case measure => have := Hgk.out; omega
      case rel => exact ⟨k + 1, rfl, by omega, by go_num, HBD7.out⟩
    · obtain rfl : k = 2 := by omega
      have i0 : ¬ ((2 : Nat) : Int) < 2 := by omega
      go_wp2_with fail
      refine (HMK.out wr).mono ?_
      rintro e w6 ⟨rfl, b6⟩
      have HB6 := Lib.hid (HB5.out.trans (b6.mono HB5.out.size))
      have HP6 := Lib.hid (HP5.out.new_ b6)
      have HU6 := Lib.hid (HU5.out.new_ b6)
      clear b6 HB5 HP5 HU5 HF5 HBD
      have hI := HINT.out w6 _ HU6.out HP6.out
      rw [hfl] at hI
      have HI := Lib.hid hI
      clear hI
      go_wp2_with fail
      refine HI.out.mono ?_
      rintro e w7 ⟨rfl, b7⟩
      have HB7 := Lib.hid (HB6.out.trans (b7.mono HB6.out.size))
      clear b7 HB6 HP6 HU6
      go_wp2_with fail
      refine (HR.out _ HB7.out).mono ?_
      rintro e w9 ⟨rfl, b9⟩
      go_wp2
      go_ret
      exact ⟨rfl, HB7.out.trans (b9.mono HB7.out.size)⟩
end CR
end Go.Proofs.YtnehiooioodkfaaDoor
