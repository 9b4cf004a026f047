/-
  CODE: closed facts: chapter 3's runs.
-/
import Derived.Test.YtnehiooioodkfaaDoorKI
import Derived.Test.YtnehiooioodkfaaDoorKB
import Derived.Test.YtnehiooioodkfaaDoorKD
set_option linter.unusedVariables false
set_option linter.unusedSimpArgs false
namespace Go.Proofs.YtnehiooioodkfaaDoor
open Go Go.RowKit
namespace CD
def fieldC (s : ByteArray) (o : Op4) (k p : Nat) : Except (Int × Int) Op4 :=
  if past s (skip s p) = skip s p then .error ((s.size : Int), 31)
  else match numC (s.extract (skip s p) (past s (skip s p))).data.toList with
    | none => .error ((skip s p : Int), 30)
    | some n => if fieldsB (fixF (setF o k n) k) = true then .ok (setF o k n) else .error ((skip s p : Int), 30)
theorem fieldG_C (s : ByteArray) (o : Op4) (k p : Nat) : fieldG s o k p = fieldC s o k p := by
  unfold fieldG fieldC
  rw [numB_eq]
  rfl
def fieldsC (s : ByteArray) : List Nat → Op4 → Nat → Except (Int × Int) (Op4 × Nat)
  | [], o, p => .ok (o, p)
  | k :: r, o, p => match fieldC s o k p with
    | .error e => .error e
    | .ok o' => fieldsC s r o' (past s (skip s p))
theorem fieldsG_C (s : ByteArray) : ∀ (ks : List Nat) (o : Op4) (p : Nat), fieldsG s ks o p = fieldsC s ks o p
  | [], o, p => rfl
  | k :: r, o, p => by
    rw [fieldsG, fieldsC, fieldG_C]
    cases fieldC s o k p with
    | error e => rfl
    | ok o' => exact fieldsG_C s r o' _
def oneC (s : ByteArray) (kind : Int) (opn p : Nat) : Except (Int × Int) (Op4 × Nat × Nat) :=
  match fieldsC s (fieldsOf kind) ⟨kind, 0, 0, 0⟩ p with
  | .error e => .error e
  | .ok (o, p') =>
    if kind = 10 then
      if past s (skip s p') = skip s p' then .error ((s.size : Int), 31)
      else if s.extract (skip s p') (past s (skip s p')) = ⟨#[123]⟩ then .ok (o, opn + 1, past s (skip s p'))
      else .error ((skip s p' : Int), 30)
    else if kind = 11 then .ok (o, opn - 1, p')
    else .ok (o, opn, p')
theorem oneG_C (s : ByteArray) (kind : Int) (opn p : Nat) : oneG s kind opn p = oneC s kind opn p := by
  unfold oneG oneC
  rw [fieldsG_C]
  rfl
def parseC (s : ByteArray) : Nat → Nat → List Op4 → Nat → List Op4 × Int × Int
  | 0, _, _, _ => ([], 0, 0)
  | f + 1, p, ops, opn =>
    if past s (skip s p) = skip s p then (if 0 < opn then ([], (s.size : Int), 31) else (ops, 0, 0))
    else
      if beginsG (kindW (s.extract (skip s p) (past s (skip s p)))) ops.length opn = 0 then
        match oneC s (kindW (s.extract (skip s p) (past s (skip s p)))) opn (past s (skip s p)) with
        | .error e => ([], e.1, e.2)
        | .ok x => parseC s f x.2.2 (ops ++ [x.1]) x.2.1
      else ([], (skip s p : Int), beginsG (kindW (s.extract (skip s p) (past s (skip s p)))) ops.length opn)
theorem parseF_C (s : ByteArray) : ∀ (f p : Nat) (ops : List Op4) (opn : Nat), parseF s f p ops opn = parseC s f p ops opn
  | 0, _, _, _ => rfl
  | f + 1, p, ops, opn => by
    rw [parseF, parseC, oneG_C]
    by_cases h1 : past s (skip s p) = skip s p
    · rw [if_pos h1, if_pos h1]
    · rw [if_neg h1, if_neg h1]
      by_cases h2 : beginsG (kindW (s.extract (skip s p) (past s (skip s p)))) ops.length opn = 0
      · rw [if_pos h2, if_pos h2]
        cases oneC s (kindW (s.extract (skip s p) (past s (skip s p)))) opn (past s (skip s p)) with
        | error e => rfl
        | ok x => exact parseF_C s f _ _ _
      · rw [if_neg h2, if_neg h2]
theorem parseB_C {s : ByteArray} {R : List Op4 × Int × Int} (h : ¬ 4096 < s.size) (hR : parseC s (s.size + 1) 0 [] 0 = R) : parseB s = R := by
  unfold parseB; rw [if_neg h, parseF_C, hR]
def src1 : ByteArray := ⟨#[108, 111, 99, 107, 32, 48, 32, 50, 59, 32, 112, 117, 115, 104, 32, 45, 55, 59, 32, 117, 110, 108, 111, 99, 107, 32, 48]⟩
def ops1 : List Op4 := [⟨1, 0, 2, 0⟩, ⟨3, 0, 0, -7⟩, ⟨2, 0, 0, 0⟩]
theorem parse1 : parseB src1 = (ops1, 0, 0) := parseB_C (by decide) (by kernel_rfl)
def src2 : ByteArray := ⟨#[114, 101, 112, 101, 97, 116, 32, 51, 32, 123, 32, 119, 111, 114, 107, 32, 50, 32, 112, 111, 112, 32, 125]⟩
def ops2 : List Op4 := [⟨10, 0, 3, 0⟩, ⟨5, 0, 2, 0⟩, ⟨4, 0, 0, 0⟩, ⟨11, 0, 0, 0⟩]
theorem parse2 : parseB src2 = (ops2, 0, 0) := parseB_C (by decide) (by kernel_rfl)
def src3 : ByteArray := ⟨#[119, 111, 114, 107, 32, 50, 32, 102, 105, 110, 105, 115, 104, 32, 112, 111, 112]⟩
def ops3 : List Op4 := [⟨5, 0, 2, 0⟩, ⟨9, 0, 0, 0⟩, ⟨4, 0, 0, 0⟩]
theorem parse3 : parseB src3 = (ops3, 0, 0) := parseB_C (by decide) (by kernel_rfl)
def src4 : ByteArray := ⟨#[114, 101, 112, 101, 97, 116, 32, 52, 48, 57, 54, 32, 123, 32, 114, 101, 112, 101, 97, 116, 32, 52, 48, 57, 54, 32, 123, 32, 112, 111, 112, 32, 125, 32, 125]⟩
def ops4 : List Op4 := [⟨10, 0, 4096, 0⟩, ⟨10, 0, 4096, 0⟩, ⟨4, 0, 0, 0⟩, ⟨11, 0, 0, 0⟩, ⟨11, 0, 0, 0⟩]
theorem parse4 : parseB src4 = (ops4, 0, 0) := parseB_C (by decide) (by kernel_rfl)
def textsL : List ByteArray := [⟨#[108, 111, 99, 107, 32, 49, 54, 32, 49]⟩, ⟨#[108, 111, 99, 107, 32, 48, 32, 48]⟩, ⟨#[108, 111, 99, 107, 32, 48, 32, 50, 53, 54]⟩, ⟨#[112, 117, 115, 104, 32, 57, 50, 50, 51, 51, 55, 50, 48, 51, 54, 56, 53, 52, 55, 55, 53, 56, 48, 56]⟩, ⟨#[112, 117, 115, 104, 32, 45, 48]⟩, ⟨#[125]⟩, ⟨#[114, 101, 112, 101, 97, 116, 32, 50, 32, 112, 111, 112]⟩, ⟨#[114, 101, 112, 101, 97, 116, 32, 50, 32, 123]⟩, ⟨#[108, 111, 99, 107, 32, 48]⟩, ⟨#[80, 117, 115, 104, 32, 49]⟩, ⟨#[112, 111, 112, 123]⟩, ⟨#[114, 101, 112, 101, 97, 116, 32, 49, 32, 123, 32, 114, 101, 112, 101, 97, 116, 32, 49, 32, 123, 32, 114, 101, 112, 101, 97, 116, 32, 49, 32, 123, 32, 114, 101, 112, 101, 97, 116, 32, 49, 32, 123, 32, 114, 101, 112, 101, 97, 116, 32, 49, 32, 123, 32, 112, 111, 112]⟩]
def placesL : List Int := [5, 7, 7, 5, 5, 0, 9, 10, 6, 0, 0, 44]
def errsL : List Int := [30, 30, 30, 30, 30, 30, 30, 31, 31, 30, 30, 32]
theorem texts_all (k : Nat) (hk : k < 12) : ∃ s p e, textsL[k]? = some s ∧ placesL[k]? = some p ∧ errsL[k]? = some e ∧ parseB s = ([], p, e) ∧ s.size ≤ 1000000 := by
  have c : k = 0 ∨ k = 1 ∨ k = 2 ∨ k = 3 ∨ k = 4 ∨ k = 5 ∨ k = 6 ∨ k = 7 ∨ k = 8 ∨ k = 9 ∨ k = 10 ∨ k = 11 := by omega
  rcases c with rfl | rfl | rfl | rfl | rfl | rfl | rfl | rfl | rfl | rfl | rfl | rfl
  · exact ⟨⟨#[108, 111, 99, 107, 32, 49, 54, 32, 49]⟩, 5, 30, rfl, rfl, rfl, parseB_C (by decide) (by as_aux_lemma => kernel_rfl), by decide⟩
  · exact ⟨⟨#[108, 111, 99, 107, 32, 48, 32, 48]⟩, 7, 30, rfl, rfl, rfl, parseB_C (by decide) (by as_aux_lemma => kernel_rfl), by decide⟩
  · exact ⟨⟨#[108, 111, 99, 107, 32, 48, 32, 50, 53, 54]⟩, 7, 30, rfl, rfl, rfl, parseB_C (by decide) (by as_aux_lemma => kernel_rfl), by decide⟩
  · exact ⟨⟨#[112, 117, 115, 104, 32, 57, 50, 50, 51, 51, 55, 50, 48, 51, 54, 56, 53, 52, 55, 55, 53, 56, 48, 56]⟩, 5, 30, rfl, rfl, rfl, parseB_C (by decide) (by as_aux_lemma => kernel_rfl), by decide⟩
  · exact ⟨⟨#[112, 117, 115, 104, 32, 45, 48]⟩, 5, 30, rfl, rfl, rfl, parseB_C (by decide) (by as_aux_lemma => kernel_rfl), by decide⟩
  · exact ⟨⟨#[125]⟩, 0, 30, rfl, rfl, rfl, parseB_C (by decide) (by as_aux_lemma => kernel_rfl), by decide⟩
  · exact ⟨⟨#[114, 101, 112, 101, 97, 116, 32, 50, 32, 112, 111, 112]⟩, 9, 30, rfl, rfl, rfl, parseB_C (by decide) (by as_aux_lemma => kernel_rfl), by decide⟩
  · exact ⟨⟨#[114, 101, 112, 101, 97, 116, 32, 50, 32, 123]⟩, 10, 31, rfl, rfl, rfl, parseB_C (by decide) (by as_aux_lemma => kernel_rfl), by decide⟩
  · exact ⟨⟨#[108, 111, 99, 107, 32, 48]⟩, 6, 31, rfl, rfl, rfl, parseB_C (by decide) (by as_aux_lemma => kernel_rfl), by decide⟩
  · exact ⟨⟨#[80, 117, 115, 104, 32, 49]⟩, 0, 30, rfl, rfl, rfl, parseB_C (by decide) (by as_aux_lemma => kernel_rfl), by decide⟩
  · exact ⟨⟨#[112, 111, 112, 123]⟩, 0, 30, rfl, rfl, rfl, parseB_C (by decide) (by as_aux_lemma => kernel_rfl), by decide⟩
  · exact ⟨⟨#[114, 101, 112, 101, 97, 116, 32, 49, 32, 123, 32, 114, 101, 112, 101, 97, 116, 32, 49, 32, 123, 32, 114, 101, 112, 101, 97, 116, 32, 49, 32, 123, 32, 114, 101, 112, 101, 97, 116, 32, 49, 32, 123, 32, 114, 101, 112, 101, 97, 116, 32, 49, 32, 123, 32, 112, 111, 112]⟩, 44, 32, rfl, rfl, rfl, parseB_C (by decide) (by as_aux_lemma => kernel_rfl), by decide⟩
theorem nested2 : Nested ops2 := ⟨by kernel_rfl, by kernel_rfl, by decide⟩
theorem nested3 : Nested ops3 := ⟨by kernel_rfl, by kernel_rfl, by decide⟩
theorem nested4 : Nested ops4 := ⟨by kernel_rfl, by kernel_rfl, by decide⟩
theorem nested0 : Nested [] := ⟨by kernel_rfl, by kernel_rfl, by decide⟩
theorem count2 : countB ops2 = (10, 0) := by kernel_rfl
theorem list3 : listB ops3 = ([⟨5, 0, 1, 0⟩, ⟨5, 0, 1, 0⟩, ⟨9, 0, 0, 0⟩], 0) := by kernel_rfl
theorem list0 : listB [] = ([⟨9, 0, 0, 0⟩], 0) := by kernel_rfl
theorem check5 : checkB [⟨4, 0, 1, 0⟩] = (0, 30) := by kernel_rfl
theorem legal1 : legalB ⟨#[97, 45, 57]⟩ = true := by kernel_rfl
theorem legal2 : legalB ⟨#[57, 97]⟩ = false := by kernel_rfl
theorem legal3 : legalB ⟨#[]⟩ = false := by kernel_rfl
theorem itoa3 : Lib.itoa 3 = [51] := by
  unfold Lib.itoa
  rw [if_neg (by decide)]
  exact Lib.decDigits_one (by decide)
theorem itoa2 : Lib.itoa 2 = [50] := by
  unfold Lib.itoa
  rw [if_neg (by decide)]
  exact Lib.decDigits_one (by decide)
theorem text2 : textB ops2 = [114, 101, 112, 101, 97, 116, 32, 51, 32, 123, 32, 119, 111, 114, 107, 32, 50, 59, 32, 112, 111, 112, 32, 125] := by
  have h1 : numsT ⟨10, 0, 3, 0⟩ = 32 :: Lib.itoa 3 := by kernel_rfl
  have h2 : numsT ⟨5, 0, 2, 0⟩ = 32 :: Lib.itoa 2 := by kernel_rfl
  have h3 : numsT ⟨4, 0, 0, 0⟩ = [] := by kernel_rfl
  have h4 : numsT ⟨11, 0, 0, 0⟩ = [] := by kernel_rfl
  unfold ops2
  simp only [textB, textG, textO, h1, h2, h3, h4, itoa3, itoa2]
  decide
theorem print2 : printB ops2 = (⟨#[114, 101, 112, 101, 97, 116, 32, 51, 32, 123, 32, 119, 111, 114, 107, 32, 50, 59, 32, 112, 111, 112, 32, 125]⟩, 0) := by
  unfold printB
  rw [if_pos (by kernel_rfl), text2]
  rfl
theorem long_over : ∀ (a : List Op4) (k : Nat), (∀ o ∈ a, o.kind ≠ 9) → k ≤ 4096 → 4096 < k + a.length → (runG a k).2 = (true, false)
  | [], k, _, h1, h2 => by simp at h2; omega
  | o :: r, k, h, h1, h2 => by
    by_cases hk : k = 4096
    · subst hk; rw [runG_over]
    · rw [runG_one _ _ _ hk (h o (List.mem_cons_self ..))]
      exact long_over r (k + 1) (fun x hx => h x (List.mem_cons_of_mem _ hx)) (by omega) (by simp at h2; omega)
theorem seg4 : segE ops4 (endsB ops4) (ops4.length + 1) 0 ops4.length = (List.replicate 4096 ((List.replicate 4096 [(⟨4, 0, 0, 0⟩ : Op4)]).flatten)).flatten := by
  have h1 : segE ops4 (endsB ops4) 4 2 3 = [⟨4, 0, 0, 0⟩] := by kernel_rfl
  have he1 : ((endsB ops4)[1]?.getD 0).toNat = 3 := by kernel_rfl
  have he0 : ((endsB ops4)[0]?.getD 0).toNat = 4 := by kernel_rfl
  have hn1 : segE ops4 (endsB ops4) 4 (3 + 1) 4 = [] := by kernel_rfl
  have hn0 : segE ops4 (endsB ops4) 5 (4 + 1) 5 = [] := by kernel_rfl
  have hz : (4096 : Int).toNat = 4096 := rfl
  have h2 : segE ops4 (endsB ops4) 5 1 4 = (List.replicate 4096 [(⟨4, 0, 0, 0⟩ : Op4)]).flatten := by
    rw [segE]
    rw [if_neg (by decide), show ops4[1]? = some ⟨10, 0, 4096, 0⟩ from rfl]
    simp only
    rw [if_pos trivial, he1]
    rw [hz, h1, hn1, List.append_nil]
  show segE ops4 (endsB ops4) 6 0 5 = _
  rw [segE]
  rw [if_neg (by decide), show ops4[0]? = some ⟨10, 0, 4096, 0⟩ from rfl]
  simp only
  rw [if_pos trivial, he0]
  rw [hz, h2, hn0, List.append_nil]
theorem count4 : countB ops4 = (0, 5) := by
  have h : (allE ops4).2 = (true, false) := by
    unfold allE
    rw [seg4]
    refine long_over _ 0 ?_ (by omega) ?_
    · intro o ho
      obtain ⟨l, hl, ho⟩ := List.mem_flatten.1 ho
      rw [List.eq_of_mem_replicate hl] at ho
      obtain ⟨l, hl, ho⟩ := List.mem_flatten.1 ho
      rw [List.eq_of_mem_replicate hl] at ho
      rw [List.mem_singleton.1 ho]
      decide
    · rw [List.length_flatten, List.map_replicate, List.sum_replicate_nat, List.length_flatten, List.map_replicate, List.sum_replicate_nat]
      decide
  have hc : (checkB ops4).2 = 0 := by kernel_rfl
  unfold countB
  rw [if_pos hc]
  unfold walkN
  rw [h]
  rfl
end CD
end Go.Proofs.YtnehiooioodkfaaDoor
