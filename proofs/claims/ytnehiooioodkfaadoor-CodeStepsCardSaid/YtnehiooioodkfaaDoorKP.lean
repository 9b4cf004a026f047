/-
  CODE: what the package computes, in plain words: words, fields, Check, Print, Parse, Steps.
-/
import Derived.Test.YtnehiooioodkfaaDoorEOq
import Derived.Test.YtnehiooioodkfaaDoorK1
import Derived.Lib.AtoiAllCases
import Derived.Lib.ItoaNum
set_option linter.unusedVariables false
set_option linter.unusedSimpArgs false
namespace Go.Proofs.YtnehiooioodkfaaDoor
open Go Go.RowKit
namespace CD

theorem str_inj {a b : ByteArray} (h : a.toList = b.toList) : a = b := by
  rw [ByteArray.toList_eq, ByteArray.toList_eq] at h
  exact ByteArray.ext (Array.toList_inj.1 h)
theorem str_ne {a b : ByteArray} (h : a ≠ b) : (a.toList == b.toList) = false := beq_eq_false_iff_ne.2 fun e => h (str_inj e)
theorem str_eq {a b : ByteArray} (h : a = b) : (a.toList == b.toList) = true := by rw [h]; exact beq_self_eq_true _
/-- The words by their kinds. -/
def wordsB : List ByteArray := [⟨#[]⟩, ⟨#[108, 111, 99, 107]⟩, ⟨#[117, 110, 108, 111, 99, 107]⟩, ⟨#[112, 117, 115, 104]⟩, ⟨#[112, 111, 112]⟩, ⟨#[119, 111, 114, 107]⟩, ⟨#[108, 111, 97, 100]⟩, ⟨#[115, 116, 111, 114, 101]⟩, ⟨#[97, 100, 100]⟩, ⟨#[102, 105, 110, 105, 115, 104]⟩, ⟨#[114, 101, 112, 101, 97, 116]⟩, ⟨#[125]⟩]
def hasB : List Int := [0, 1, 2, 3, 0, 4, 2, 2, 0, 0, 4, 0]
def wordOf (k : Int) : ByteArray := if 1 ≤ k ∧ k ≤ 11 then (wordsB[k.toNat]?).getD ⟨#[]⟩ else ⟨#[]⟩
def hasOf (k : Int) : Int := if 1 ≤ k ∧ k ≤ 11 then (hasB[k.toNat]?).getD 0 else 0
def kindB (k : Int) : Bool := decide (1 ≤ k ∧ k ≤ 11)

/-- The kind of a word, from a kind on. -/
def kindF (s : ByteArray) : Nat → Nat → Int
  | 0, _ => 0
  | f + 1, k => if wordOf k = s then k else kindF s f (k + 1)
def kindW (s : ByteArray) : Int := kindF s 11 1

/-- May an operation's fields be so? -/
def fieldsB (o : Op4) : Bool :=
  if kindB o.kind = false then false
  else if hasOf o.kind = 1 then decide (0 ≤ o.res) && decide (o.res < 16) && decide (1 ≤ o.n) && decide (o.n ≤ 255) && decide (o.v = 0)
  else if hasOf o.kind = 2 then decide (0 ≤ o.res) && decide (o.res < 16) && decide (o.n = 0) && decide (o.v = 0)
  else if hasOf o.kind = 3 then decide (o.res = 0) && decide (o.n = 0)
  else if hasOf o.kind = 4 then decide (o.res = 0) && decide (1 ≤ o.n) && decide (o.n ≤ 4096) && decide (o.v = 0)
  else decide (o.res = 0) && decide (o.n = 0) && decide (o.v = 0)

/-- Which operation is wrong first. -/
def checkG : List Op4 → Nat → Nat → Int × Int
  | [], i, op => if 0 < op then ((i : Int), 31) else (0, 0)
  | o :: r, i, op =>
    if fieldsB o = false then ((i : Int), 30)
    else if o.kind = 10 then (if op = 4 then ((i : Int), 32) else checkG r (i + 1) (op + 1))
    else if o.kind = 11 then (if op = 0 then ((i : Int), 31) else checkG r (i + 1) (op - 1))
    else checkG r (i + 1) op
def checkB (xs : List Op4) : Int × Int := if 256 < xs.length then (256, 4) else checkG xs 0 0

/-- Runs of bytes. -/
def runF (p : Nat → Bool) : Nat → Nat → Nat
  | 0, k => k
  | f + 1, k => if p k then runF p f (k + 1) else k
theorem runF_eq (p : Nat → Bool) : ∀ (f k j : Nat), k ≤ j → j - k ≤ f → (∀ i, k ≤ i → i < j → p i = true) → p j = false → runF p f k = j
  | 0, k, j, h, hf, _, _ => by simp only [runF]; omega
  | f + 1, k, j, h, hf, ha, he => by
    unfold runF
    by_cases e : k = j
    · subst e; rw [he]; rfl
    · rw [if_pos (ha k (Nat.le_refl _) (by omega))]
      exact runF_eq p f (k + 1) j (by omega) (by omega) (fun i h1 h2 => ha i (by omega) h2) he
def isB (s : ByteArray) (k : Nat) : Bool := if h : k < s.size then blankC (s[k].toNat : Int) else false
def isW (s : ByteArray) (k : Nat) : Bool := if h : k < s.size then !blankC (s[k].toNat : Int) else false
/-- Where the next word begins, and where it ends. -/
def skip (s : ByteArray) (k : Nat) : Nat := runF (isB s) (s.size - k) k
def past (s : ByteArray) (k : Nat) : Nat := runF (isW s) (s.size - k) k

/-- A number in its one form. -/
def numB (w : ByteArray) : Option Int := match Lib.atoiAll w.data.toList with
  | .ok v => if Lib.itoa v = w.data.toList then some v else none
  | _ => none

/-! ### Parse -/
def setF (o : Op4) (k : Nat) (n : Int) : Op4 := if k = 1 then { o with res := n } else if k = 2 then { o with n := n } else { o with v := n }
def fixF (o : Op4) (k : Nat) : Op4 := if o.kind = 1 ∧ k = 1 then { o with n := 1 } else o
/-- A number of an operation, read. -/
def fieldG (s : ByteArray) (o : Op4) (k p : Nat) : Except (Int × Int) Op4 :=
  if past s (skip s p) = skip s p then .error ((s.size : Int), 31)
  else match numB (s.extract (skip s p) (past s (skip s p))) with
    | none => .error ((skip s p : Int), 30)
    | some n => if fieldsB (fixF (setF o k n) k) = true then .ok (setF o k n) else .error ((skip s p : Int), 30)
def fieldsG (s : ByteArray) : List Nat → Op4 → Nat → Except (Int × Int) (Op4 × Nat)
  | [], o, p => .ok (o, p)
  | k :: r, o, p => match fieldG s o k p with
    | .error e => .error e
    | .ok o' => fieldsG s r o' (past s (skip s p))
def fieldsOf (k : Int) : List Nat := if hasOf k = 1 then [1, 2] else if hasOf k = 2 then [1] else if hasOf k = 3 then [3] else if hasOf k = 4 then [2] else []
/-- An operation behind its first word, how many repeats are open, where the reader stands. -/
def oneG (s : ByteArray) (kind : Int) (opn p : Nat) : Except (Int × Int) (Op4 × Nat × Nat) :=
  match fieldsG s (fieldsOf kind) ⟨kind, 0, 0, 0⟩ p with
  | .error e => .error e
  | .ok (o, p') =>
    if kind = 10 then
      if past s (skip s p') = skip s p' then .error ((s.size : Int), 31)
      else if s.extract (skip s p') (past s (skip s p')) = ⟨#[123]⟩ then .ok (o, opn + 1, past s (skip s p'))
      else .error ((skip s p' : Int), 30)
    else if kind = 11 then .ok (o, opn - 1, p')
    else .ok (o, opn, p')
/-- What is wrong with a word with which an operation is to begin. -/
def beginsG (kind : Int) (nops opn : Nat) : Int := if nops = 256 then 4 else if kind = 0 ∨ (kind = 11 ∧ opn = 0) then 30 else if kind = 10 ∧ opn = 4 then 32 else 0
def parseF (s : ByteArray) : Nat → Nat → List Op4 → Nat → List Op4 × Int × Int
  | 0, _, _, _ => ([], 0, 0)
  | f + 1, p, ops, opn =>
    if past s (skip s p) = skip s p then (if 0 < opn then ([], (s.size : Int), 31) else (ops, 0, 0))
    else
      if beginsG (kindW (s.extract (skip s p) (past s (skip s p)))) ops.length opn = 0 then
        match oneG s (kindW (s.extract (skip s p) (past s (skip s p)))) opn (past s (skip s p)) with
        | .error e => ([], e.1, e.2)
        | .ok x => parseF s f x.2.2 (ops ++ [x.1]) x.2.1
      else ([], (skip s p : Int), beginsG (kindW (s.extract (skip s p) (past s (skip s p)))) ops.length opn)
def parseB (s : ByteArray) : List Op4 × Int × Int := if 4096 < s.size then ([], 0, 5) else parseF s (s.size + 1) 0 [] 0

/-! ### Print -/
def numsT (o : Op4) : List UInt8 :=
  if hasOf o.kind = 1 then 32 :: Lib.itoa o.res ++ 32 :: Lib.itoa o.n
  else if hasOf o.kind = 2 then 32 :: Lib.itoa o.res
  else if hasOf o.kind = 3 then 32 :: Lib.itoa o.v
  else if hasOf o.kind = 4 then 32 :: Lib.itoa o.n
  else []
def textO (o : Op4) : List UInt8 := (wordOf o.kind).data.toList ++ numsT o ++ (if o.kind = 10 then [32, 123] else [])
def sepO (a o : Op4) : List UInt8 := if a.kind = 10 ∨ a.kind = 11 ∨ o.kind = 11 then [32] else [59, 32]
def textG : Op4 → List Op4 → List UInt8
  | _, [] => []
  | a, o :: r => sepO a o ++ textO o ++ textG o r
def textB : List Op4 → List UInt8
  | [] => []
  | o :: r => textO o ++ textG o r
def printB (xs : List Op4) : ByteArray × Int := if (checkB xs).2 = 0 then (if 4096 < (textB xs).length then (⟨#[]⟩, 5) else (⟨(textB xs).toArray⟩, 0)) else (⟨#[]⟩, (checkB xs).2)

/-! ### Steps -/
/-- Where the repeat that is open ends. -/
def endF : List Op4 → Nat → Nat → Nat
  | [], i, _ => i
  | o :: r, i, op => if o.kind = 10 then endF r (i + 1) (op + 1) else if o.kind = 11 then (if op = 0 then i else endF r (i + 1) (op - 1)) else endF r (i + 1) op
def endOf (xs : List Op4) (i : Nat) : Nat := endF (xs.drop (i + 1)) (i + 1) 0
/-- The steps of a part, whatever a finish says. -/
def segF (xs : List Op4) : Nat → Nat → Nat → List Op4
  | 0, _, _ => []
  | f + 1, i, j => if j ≤ i then [] else match xs[i]? with
    | none => []
    | some o =>
      if o.kind = 10 then (List.replicate o.n.toNat (segF xs f (i + 1) (endOf xs i))).flatten ++ segF xs f (endOf xs i + 1) j
      else if o.kind = 5 then List.replicate o.n.toNat ⟨5, 0, 1, 0⟩ ++ segF xs f (i + 1) j
      else o :: segF xs f (i + 1) j
/-- Steps up to the first finish. -/
def cutF : List Op4 → List Op4
  | [] => [⟨9, 0, 0, 0⟩]
  | o :: r => if o.kind = 9 then [o] else o :: cutF r
def allB (xs : List Op4) : List Op4 := cutF (segF xs (xs.length + 1) 0 xs.length)
def stepsB (xs : List Op4) : List Op4 × Int := if (checkB xs).2 = 0 then (if 4096 < (allB xs).length then ([], 5) else (allB xs, 0)) else ([], (checkB xs).2)
end CD
end Go.Proofs.YtnehiooioodkfaaDoor
