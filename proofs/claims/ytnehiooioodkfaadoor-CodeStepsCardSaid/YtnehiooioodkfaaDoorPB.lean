import Derived.Test.YtnehiooioodkfaaDoorKB
import Derived.Test.YtnehiooioodkfaaDoorKN
import Derived.Test.YtnehiooioodkfaaDoorPA
import Derived.Test.YtnehiooioodkfaaDoorKC
/-
  CODE: a text as its words; Parse over the words (plain).
-/
set_option linter.unusedVariables false
set_option linter.unusedSimpArgs false
namespace Go.Proofs.YtnehiooioodkfaaDoor
open Go Go.RowKit
namespace CD
/-- Is a byte a blank? -/
def blkB (c : UInt8) : Bool := blankC (c.toNat : Int)
/-- The words of a text with their places; cur: the word that is under way. -/
def tokG : Nat → List UInt8 → List UInt8 → List (Nat × List UInt8)
  | k, cur, [] => if cur = [] then [] else [(k - cur.length, cur)]
  | k, cur, c :: r => if blkB c = true then (if cur = [] then tokG (k + 1) [] r else (k - cur.length, cur) :: tokG (k + 1) [] r) else tokG (k + 1) (cur ++ [c]) r
theorem tok_blank {c : UInt8} {r : List UInt8} (k : Nat) (h : blkB c = true) : tokG k [] (c :: r) = tokG (k + 1) [] r := by
  rw [tokG, if_pos h, if_pos rfl]
theorem tok_blanks : ∀ (b r : List UInt8) (k : Nat), (∀ c ∈ b, blkB c = true) → tokG k [] (b ++ r) = tokG (k + b.length) [] r
  | [], r, k, _ => rfl
  | c :: b, r, k, h => by
    rw [List.cons_append, tok_blank k (h c (List.mem_cons_self ..)), tok_blanks b r (k + 1) fun x hx => h x (List.mem_cons_of_mem _ hx), List.length_cons, Nat.add_right_comm k 1, Nat.add_assoc]
theorem tok_word : ∀ (w r cur : List UInt8) (k : Nat), (∀ c ∈ w, blkB c = false) → tokG k cur (w ++ r) = tokG (k + w.length) (cur ++ w) r
  | [], r, cur, k, _ => by simp
  | c :: w, r, cur, k, h => by
    rw [List.cons_append, tokG, if_neg (by rw [h c (List.mem_cons_self ..)]; decide), tok_word w r (cur ++ [c]) (k + 1) fun x hx => h x (List.mem_cons_of_mem _ hx), List.length_cons, Nat.add_right_comm k 1, Nat.add_assoc, List.append_assoc]
    rfl
theorem tok_done {cur r : List UInt8} (k : Nat) (h0 : cur ≠ []) (h : ∀ c t, r = c :: t → blkB c = true) : tokG k cur r = (k - cur.length, cur) :: tokG k [] r := by
  cases r with
  | nil => rw [tokG, if_neg h0, tokG, if_pos rfl]
  | cons c t => rw [tokG, if_pos (h c t rfl), if_neg h0, tok_blank k (h c t rfl)]
theorem tok_one {w r : List UInt8} (k : Nat) (h0 : w ≠ []) (hw : ∀ c ∈ w, blkB c = false) (h : ∀ c t, r = c :: t → blkB c = true) : tokG k [] (w ++ r) = (k, w) :: tokG (k + w.length) [] r := by
  rw [tok_word w r [] k hw, List.nil_append, tok_done _ h0 h, Nat.add_sub_cancel]
theorem tok_append (c : UInt8) (hc : blkB c = true) : ∀ (a b cur : List UInt8) (k : Nat), tokG k cur (a ++ c :: b) = tokG k cur a ++ tokG (k + a.length + 1) [] b
  | [], b, cur, k => by
    have e1 : tokG k cur (c :: b) = if cur = [] then tokG (k + 1) [] b else (k - cur.length, cur) :: tokG (k + 1) [] b := by rw [tokG, if_pos hc]
    have e2 : tokG k cur [] = if cur = [] then [] else [(k - cur.length, cur)] := by rw [tokG]
    rw [List.nil_append, e1, e2]
    by_cases h : cur = []
    · rw [if_pos h, if_pos h]; rfl
    · rw [if_neg h, if_neg h]; rfl
  | x :: a, b, cur, k => by
    have e : k + 1 + a.length + 1 = k + (a.length + 1) + 1 := by omega
    rw [List.cons_append, tokG, tokG, tok_append c hc a b [] (k + 1), tok_append c hc a b (cur ++ [x]) (k + 1), List.length_cons, e]
    by_cases hx : blkB x = true
    · rw [if_pos hx, if_pos hx]
      by_cases h : cur = []
      · rw [if_pos h, if_pos h]
      · rw [if_neg h, if_neg h]; rfl
    · rw [if_neg hx, if_neg hx]
/-- The words alone do not know where they stand. -/
theorem tok_snd : ∀ (l cur : List UInt8) (k j : Nat), (tokG k cur l).map (·.2) = (tokG j cur l).map (·.2)
  | [], cur, k, j => by
    rw [tokG, tokG]
    split <;> rfl
  | c :: l, cur, k, j => by
    rw [tokG, tokG]
    split
    · split
      · exact tok_snd l [] _ _
      · rw [List.map_cons, List.map_cons, tok_snd l [] (k + 1) (j + 1)]
    · exact tok_snd l _ _ _
/-! ### Parse over the words -/
def fieldsT (z : Nat) : List Nat → Op4 → List (Nat × List UInt8) → Except (Int × Int) (Op4 × List (Nat × List UInt8))
  | [], o, ts => .ok (o, ts)
  | k :: r, o, [] => .error ((z : Int), 31)
  | k :: r, o, (a, w) :: ts => match numC w with
    | none => .error ((a : Int), 30)
    | some n => if fieldsB (fixF (setF o k n) k) = true then fieldsT z r (setF o k n) ts else .error ((a : Int), 30)
def oneT (z : Nat) (kind : Int) (opn : Nat) (ts : List (Nat × List UInt8)) : Except (Int × Int) (Op4 × Nat × List (Nat × List UInt8)) :=
  match fieldsT z (fieldsOf kind) ⟨kind, 0, 0, 0⟩ ts with
  | .error e => .error e
  | .ok (o, ts') =>
    if kind = 10 then match ts' with
      | [] => .error ((z : Int), 31)
      | (a, w) :: t => if w = [123] then .ok (o, opn + 1, t) else .error ((a : Int), 30)
    else if kind = 11 then .ok (o, opn - 1, ts')
    else .ok (o, opn, ts')
def kindC (w : List UInt8) : Int := kindW ⟨w.toArray⟩
def parseT (z : Nat) : Nat → List (Nat × List UInt8) → List Op4 → Nat → List Op4 × Int × Int
  | 0, _, _, _ => ([], 0, 0)
  | f + 1, [], ops, opn => if 0 < opn then ([], (z : Int), 31) else (ops, 0, 0)
  | f + 1, (a, w) :: ts, ops, opn =>
    if beginsG (kindC w) ops.length opn = 0 then
      match oneT z (kindC w) opn ts with
      | .error e => ([], e.1, e.2)
      | .ok x => parseT z f x.2.2 (ops ++ [x.1]) x.2.1
    else ([], (a : Int), beginsG (kindC w) ops.length opn)
/-! ### The reader's words are these -/
theorem runF_spec (p : Nat → Bool) : ∀ (f k : Nat), (∀ i, k ≤ i → i < runF p f k → p i = true) ∧ (p (runF p f k) = false ∨ runF p f k = k + f)
  | 0, k => ⟨fun i h1 h2 => absurd h2 (by simp only [runF]; omega), .inr rfl⟩
  | f + 1, k => by
    unfold runF
    by_cases h : p k = true
    · rw [if_pos h]
      obtain ⟨h1, h2⟩ := runF_spec p f (k + 1)
      refine ⟨fun i hi hl => ?_, h2.imp id fun e => by omega⟩
      by_cases e : i = k
      · rw [e]; exact h
      · exact h1 i (by omega) hl
    · rw [if_neg h]
      exact ⟨fun i hi hl => absurd hl (by omega), .inl (by simpa using h)⟩
theorem skip_spec (s : ByteArray) (p : Nat) (h : p ≤ s.size) : (∀ i, p ≤ i → i < skip s p → isB s i = true) ∧ isB s (skip s p) = false := by
  obtain ⟨h1, h2⟩ := runF_spec (isB s) (s.size - p) p
  refine ⟨h1, h2.elim id fun e => ?_⟩
  show isB s (runF (isB s) (s.size - p) p) = false
  rw [e]
  exact isB_end (by omega)
theorem past_spec (s : ByteArray) (p : Nat) (h : p ≤ s.size) : (∀ i, p ≤ i → i < past s p → isW s i = true) ∧ isW s (past s p) = false := by
  obtain ⟨h1, h2⟩ := runF_spec (isW s) (s.size - p) p
  refine ⟨h1, h2.elim id fun e => ?_⟩
  show isW s (runF (isW s) (s.size - p) p) = false
  rw [e]
  exact isW_end (by omega)
theorem drop_at (s : ByteArray) (p : Nat) (h : p < s.size) : s.data.toList.drop p = s[p] :: s.data.toList.drop (p + 1) := by
  rw [List.drop_eq_getElem_cons (by simpa using h)]
  rfl
theorem sub_split (s : ByteArray) (p q : Nat) (h1 : p ≤ q) (h2 : q ≤ s.size) : s.data.toList.drop p = (s.extract p q).data.toList ++ s.data.toList.drop q := by
  have e : (s.extract p q).data.toList = (s.data.toList.drop p).take (q - p) := by
    simp [List.extract_eq_take_drop]
  rw [e]
  have : s.data.toList.drop q = (s.data.toList.drop p).drop (q - p) := by rw [List.drop_drop]; congr 1; omega
  rw [this, List.take_append_drop]
theorem mem_extract (s : ByteArray) (p q : Nat) (h2 : q ≤ s.size) (c : UInt8) (h : c ∈ (s.extract p q).data.toList) : ∃ i, ∃ hi : i < s.size, p ≤ i ∧ i < q ∧ s[i] = c := by
  have e : (s.extract p q).data.toList = (s.data.toList.drop p).take (q - p) := by
    simp [List.extract_eq_take_drop]
  rw [e] at h
  obtain ⟨j, hj, rfl⟩ := List.mem_iff_getElem.1 h
  rw [List.length_take, List.length_drop] at hj
  have hs : s.data.toList.length = s.size := by simp
  refine ⟨p + j, by omega, by omega, by omega, ?_⟩
  simp
  rfl
theorem blk_of_isB {s : ByteArray} {i : Nat} (hi : i < s.size) (h : isB s i = true) : blkB s[i] = true := by rw [isB_at hi] at h; exact h
theorem blk_of_isW {s : ByteArray} {i : Nat} (hi : i < s.size) (h : isW s i = true) : blkB s[i] = false := by rw [isW_at hi] at h; simpa [blkB] using h
theorem isW_of_isB {s : ByteArray} {i : Nat} (hi : i < s.size) (h : isB s i = false) : isW s i = true := by rw [isB_at hi] at h; rw [isW_at hi, h]; rfl
/-- The words from a place on. -/
def toksAt (s : ByteArray) (p : Nat) : List (Nat × List UInt8) := tokG p [] (s.data.toList.drop p)
theorem toks_none {s : ByteArray} {p : Nat} (hp : p ≤ s.size) (h : past s (skip s p) = skip s p) : toksAt s p = [] := by
  obtain ⟨a1, a2⟩ := skip_spec s p hp
  obtain ⟨l1, l2⟩ := skip_le s p hp
  obtain ⟨-, b2⟩ := past_spec s (skip s p) l2
  have hz : skip s p = s.size := by
    by_cases e : skip s p < s.size
    · rw [h, isW_of_isB e a2] at b2; cases b2
    · omega
  unfold toksAt
  rw [sub_split s p (skip s p) l1 l2, tok_blanks _ _ _ fun c hc => ?_, hz]
  · rw [List.drop_eq_nil_of_le (by simp)]; rfl
  · obtain ⟨i, hi, h1, h2, rfl⟩ := mem_extract s p _ l2 c hc
    exact blk_of_isB hi (a1 i h1 h2)
theorem toks_cons {s : ByteArray} {p : Nat} (hp : p ≤ s.size) (h : past s (skip s p) ≠ skip s p) :
    toksAt s p = (skip s p, (s.extract (skip s p) (past s (skip s p))).data.toList) :: toksAt s (past s (skip s p)) := by
  obtain ⟨a1, a2⟩ := skip_spec s p hp
  obtain ⟨l1, l2⟩ := skip_le s p hp
  obtain ⟨b1, b2⟩ := past_spec s (skip s p) l2
  obtain ⟨m1, m2⟩ := past_le s (skip s p) l2
  have z1 : (s.extract p (skip s p)).data.toList.length = skip s p - p := by simp; omega
  have z2 : (s.extract (skip s p) (past s (skip s p))).data.toList.length = past s (skip s p) - skip s p := by simp; omega
  unfold toksAt
  rw [sub_split s p (skip s p) l1 l2, tok_blanks _ _ _ fun c hc => ?_, sub_split s (skip s p) (past s (skip s p)) m1 m2, tok_one _ ?_ ?_ ?_, z1, z2]
  · rw [show p + (skip s p - p) = skip s p by omega, show skip s p + (past s (skip s p) - skip s p) = past s (skip s p) by omega]
  · intro e; rw [e] at z2; simp at z2; omega
  · intro c hc
    obtain ⟨i, hi, h1, h2, rfl⟩ := mem_extract s _ _ m2 c hc
    exact blk_of_isW hi (b1 i h1 h2)
  · intro c t e
    have hlt : past s (skip s p) < s.size := by
      by_cases hh : past s (skip s p) < s.size
      · exact hh
      · rw [List.drop_eq_nil_of_le (by simp; omega)] at e; cases e
    rw [drop_at s _ hlt] at e
    injection e with e1 e2
    subst e1
    rw [isW_at hlt] at b2
    simpa [blkB] using b2
  · obtain ⟨i, hi, h1, h2, rfl⟩ := mem_extract s p _ l2 c hc
    exact blk_of_isB hi (a1 i h1 h2)
theorem fields_toks (s : ByteArray) : ∀ (ks : List Nat) (o : Op4) (p : Nat), p ≤ s.size →
    fieldsT s.size ks o (toksAt s p) = (match fieldsG s ks o p with | .error e => .error e | .ok x => .ok (x.1, toksAt s x.2))
  | [], o, p, _ => rfl
  | k :: r, o, p, hp => by
    rw [fieldsG]
    unfold fieldG
    by_cases h : past s (skip s p) = skip s p
    · rw [if_pos h, toks_none hp h]
      rfl
    · rw [if_neg h, toks_cons hp h, fieldsT, numB_eq]
      cases numC (s.extract (skip s p) (past s (skip s p))).data.toList with
      | none => rfl
      | some n =>
        simp only
        by_cases hf : fieldsB (fixF (setF o k n) k) = true
        · rw [if_pos hf, if_pos hf]
          exact fields_toks s r _ _ (next_le s p hp).2
        · rw [if_neg hf, if_neg hf]
theorem one_toks (s : ByteArray) (kind : Int) (opn p : Nat) (hp : p ≤ s.size) :
    oneT s.size kind opn (toksAt s p) = (match oneG s kind opn p with | .error e => .error e | .ok x => .ok (x.1, x.2.1, toksAt s x.2.2)) := by
  unfold oneT oneG
  rw [fields_toks s _ _ p hp]
  cases hx : fieldsG s (fieldsOf kind) ⟨kind, 0, 0, 0⟩ p with
  | error e => rfl
  | ok x =>
    obtain ⟨o, p'⟩ := x
    have hp' := (fieldsG_le s _ _ _ _ hp hx).2
    simp only at hp' ⊢
    by_cases h10 : kind = 10
    · rw [if_pos h10, if_pos h10]
      by_cases h : past s (skip s p') = skip s p'
      · rw [if_pos h, toks_none hp' h]
      · rw [if_neg h, toks_cons hp' h]
        simp only
        by_cases hb : s.extract (skip s p') (past s (skip s p')) = ⟨#[123]⟩
        · rw [if_pos hb, if_pos (by rw [hb])]
        · rw [if_neg hb, if_neg (fun e => hb ?_)]
          exact ByteArray.ext (Array.toList_inj.1 e)
    · rw [if_neg h10, if_neg h10]
      by_cases h11 : kind = 11
      · rw [if_pos h11, if_pos h11]
      · rw [if_neg h11, if_neg h11]
theorem kindC_data (w : ByteArray) : kindC w.data.toList = kindW w := by
  unfold kindC
  congr 1
theorem parse_toks (s : ByteArray) : ∀ (f p : Nat) (ops : List Op4) (opn : Nat), p ≤ s.size → parseF s f p ops opn = parseT s.size f (toksAt s p) ops opn
  | 0, p, ops, opn, _ => rfl
  | f + 1, p, ops, opn, hp => by
    rw [parseF]
    by_cases h : past s (skip s p) = skip s p
    · rw [if_pos h, toks_none hp h]
      rfl
    · rw [if_neg h, toks_cons hp h, parseT, kindC_data]
      by_cases hb : beginsG (kindW (s.extract (skip s p) (past s (skip s p)))) ops.length opn = 0
      · rw [if_pos hb, if_pos hb, one_toks s _ opn _ (next_le s p hp).2]
        cases ho : oneG s (kindW (s.extract (skip s p) (past s (skip s p)))) opn (past s (skip s p)) with
        | error e => rfl
        | ok x => exact parse_toks s f _ _ _ (oneG_le s _ _ _ _ (next_le s p hp).2 ho).2.1
      · rw [if_neg hb, if_neg hb]
/-- Parse is a matter of the words. -/
theorem parseB_toks (s : ByteArray) (h : s.size ≤ 4096) : parseB s = parseT s.size (s.size + 1) (tokG 0 [] s.data.toList) [] 0 := by
  unfold parseB
  rw [if_neg (by omega), parse_toks s _ 0 [] 0 (Nat.zero_le _)]
  rfl
end CD
end Go.Proofs.YtnehiooioodkfaaDoor

/-
  CODE: Parse over the words: what lies behind, what lies ahead, what is wrong (plain).
-/
set_option linter.unusedVariables false
set_option linter.unusedSimpArgs false
namespace Go.Proofs.YtnehiooioodkfaaDoor
open Go Go.RowKit
namespace CD
theorem fields_split (z : Nat) : ∀ (ks : List Nat) (o : Op4) (ts : List (Nat × List UInt8)) (x : Op4 × List (Nat × List UInt8)), fieldsT z ks o ts = .ok x → ∃ u, ts = u ++ x.2 ∧ ∀ z' t, fieldsT z' ks o (u ++ t) = .ok (x.1, t)
  | [], o, ts, x, h => by
    rw [fieldsT] at h
    injection h with h
    subst h
    exact ⟨[], rfl, fun _ _ => by rw [fieldsT]; rfl⟩
  | k :: r, o, [], x, h => by rw [fieldsT] at h; cases h
  | k :: r, o, (a, w) :: ts, x, h => by
    rw [fieldsT] at h
    cases hn : numC w with
    | none => rw [hn] at h; cases h
    | some n =>
      rw [hn] at h
      simp only at h
      by_cases hf : fieldsB (fixF (setF o k n) k) = true
      · rw [if_pos hf] at h
        obtain ⟨u, hu, hq⟩ := fields_split z r _ ts x h
        refine ⟨(a, w) :: u, by rw [hu]; rfl, fun z' t => ?_⟩
        rw [List.cons_append, fieldsT, hn]
        simp only
        rw [if_pos hf]
        exact hq z' t
      · rw [if_neg hf] at h; cases h
theorem one_split {z : Nat} {kind : Int} {opn : Nat} {ts : List (Nat × List UInt8)} {x : Op4 × Nat × List (Nat × List UInt8)} (h : oneT z kind opn ts = .ok x) : ∃ u, ts = u ++ x.2.2 ∧ ∀ z' t, oneT z' kind opn (u ++ t) = .ok (x.1, x.2.1, t) := by
  unfold oneT at h ⊢
  cases hf : fieldsT z (fieldsOf kind) ⟨kind, 0, 0, 0⟩ ts with
  | error e => rw [hf] at h; cases h
  | ok y =>
    obtain ⟨o, ts'⟩ := y
    obtain ⟨u, hu, hq⟩ := fields_split z _ _ _ _ hf
    rw [hf] at h
    simp only at h hu hq
    by_cases h10 : kind = 10
    · rw [if_pos h10] at h
      cases ts' with
      | nil => cases h
      | cons c t =>
        obtain ⟨a, w⟩ := c
        simp only at h
        by_cases hw : w = [123]
        · rw [if_pos hw] at h
          injection h with h
          subst h
          refine ⟨u ++ [(a, w)], by rw [hu]; simp, fun z' t' => ?_⟩
          rw [List.append_assoc, hq]
          simp only [if_pos h10, List.cons_append, List.nil_append, if_pos hw]
        · rw [if_neg hw] at h; cases h
    · rw [if_neg h10] at h
      refine ⟨u, ?_, fun z' t' => ?_⟩
      · by_cases h11 : kind = 11
        · rw [if_pos h11] at h; injection h with h; subst h; exact hu
        · rw [if_neg h11] at h; injection h with h; subst h; exact hu
      · rw [hq]
        simp only [if_neg h10]
        by_cases h11 : kind = 11
        · rw [if_pos h11] at h; injection h with h; subst h; rw [if_pos h11]
        · rw [if_neg h11] at h; injection h with h; subst h; rw [if_neg h11]
theorem one_len {z : Nat} {kind : Int} {opn : Nat} {ts : List (Nat × List UInt8)} {x : Op4 × Nat × List (Nat × List UInt8)} (h : oneT z kind opn ts = .ok x) : x.2.2.length ≤ ts.length := by
  obtain ⟨u, hu, -⟩ := one_split h
  rw [hu, List.length_append]
  omega
theorem parse_fuel (z : Nat) : ∀ (f f' : Nat) (ts : List (Nat × List UInt8)) (ops : List Op4) (opn : Nat), ts.length < f → ts.length < f' → parseT z f ts ops opn = parseT z f' ts ops opn
  | 0, f', ts, ops, opn, h, _ => by omega
  | f + 1, 0, ts, ops, opn, _, h => by omega
  | f + 1, f' + 1, [], ops, opn, _, _ => by rw [parseT, parseT]
  | f + 1, f' + 1, (a, w) :: ts, ops, opn, h, h' => by
    rw [List.length_cons] at h h'
    rw [parseT, parseT]
    by_cases hb : beginsG (kindC w) ops.length opn = 0
    · rw [if_pos hb, if_pos hb]
      cases ho : oneT z (kindC w) opn ts with
      | error e => rfl
      | ok x => have := one_len ho; exact parse_fuel z f f' _ _ _ (by omega) (by omega)
    · rw [if_neg hb, if_neg hb]
theorem fields_err_ne (z : Nat) : ∀ (ks : List Nat) (o : Op4) (ts : List (Nat × List UInt8)) (e : Int × Int), fieldsT z ks o ts = .error e → e.2 ≠ 0
  | [], o, ts, e, h => by rw [fieldsT] at h; cases h
  | k :: r, o, [], e, h => by rw [fieldsT] at h; injection h with h; subst h; show (31 : Int) ≠ 0; decide
  | k :: r, o, (a, w) :: ts, e, h => by
    rw [fieldsT] at h
    cases hn : numC w with
    | none => rw [hn] at h; injection h with h; subst h; show (30 : Int) ≠ 0; decide
    | some n =>
      rw [hn] at h
      simp only at h
      by_cases hf : fieldsB (fixF (setF o k n) k) = true
      · rw [if_pos hf] at h; exact fields_err_ne z r _ ts e h
      · rw [if_neg hf] at h; injection h with h; subst h; show (30 : Int) ≠ 0; decide
theorem one_err_ne {z : Nat} {kind : Int} {opn : Nat} {ts : List (Nat × List UInt8)} {e : Int × Int} (h : oneT z kind opn ts = .error e) : e.2 ≠ 0 := by
  unfold oneT at h
  cases hf : fieldsT z (fieldsOf kind) ⟨kind, 0, 0, 0⟩ ts with
  | error d => rw [hf] at h; injection h with h; subst h; exact fields_err_ne z _ _ _ _ hf
  | ok y =>
    obtain ⟨o, ts'⟩ := y
    rw [hf] at h
    simp only at h
    split at h
    · split at h
      · injection h with h; subst h; show (31 : Int) ≠ 0; decide
      · split at h
        · cases h
        · injection h with h; subst h; show (30 : Int) ≠ 0; decide
    · split at h <;> cases h
/-- Parse over the words, as much fuel as it needs. -/
def parT (z : Nat) (ts : List (Nat × List UInt8)) (ops : List Op4) (opn : Nat) : List Op4 × Int × Int := parseT z (ts.length + 1) ts ops opn
theorem parT_nil (z : Nat) (ops : List Op4) (opn : Nat) : parT z [] ops opn = if 0 < opn then ([], (z : Int), 31) else (ops, 0, 0) := rfl
theorem parT_wrong {z a : Nat} {w : List UInt8} {ts : List (Nat × List UInt8)} {ops : List Op4} {opn : Nat} (h : beginsG (kindC w) ops.length opn ≠ 0) : parT z ((a, w) :: ts) ops opn = ([], (a : Int), beginsG (kindC w) ops.length opn) := by
  unfold parT
  rw [parseT, if_neg h]
theorem parT_err {z a : Nat} {w : List UInt8} {ts : List (Nat × List UInt8)} {ops : List Op4} {opn : Nat} (h : beginsG (kindC w) ops.length opn = 0) {e : Int × Int} (ho : oneT z (kindC w) opn ts = .error e) : parT z ((a, w) :: ts) ops opn = ([], e.1, e.2) := by
  unfold parT
  rw [parseT, if_pos h, ho]
theorem parT_ok {z a : Nat} {w : List UInt8} {ts : List (Nat × List UInt8)} {ops : List Op4} {opn : Nat} (h : beginsG (kindC w) ops.length opn = 0) {x : Op4 × Nat × List (Nat × List UInt8)} (ho : oneT z (kindC w) opn ts = .ok x) : parT z ((a, w) :: ts) ops opn = parT z x.2.2 (ops ++ [x.1]) x.2.1 := by
  unfold parT
  rw [parseT, if_pos h, ho]
  have := one_len ho
  exact parse_fuel z _ _ _ _ _ (by rw [List.length_cons]; omega) (by omega)
theorem tok_len : ∀ (l cur : List UInt8) (k : Nat), (tokG k cur l).length ≤ cur.length + l.length
  | [], cur, k => by
    rw [tokG]
    split
    · simp
    · rename_i h
      cases cur with
      | nil => exact absurd rfl h
      | cons a b => simp
  | c :: r, cur, k => by
    rw [tokG]
    split
    · split
      · have := tok_len r [] (k + 1); simp at this ⊢; omega
      · rename_i h
        have := tok_len r [] (k + 1)
        cases cur with
        | nil => exact absurd rfl h
        | cons a b => simp at this ⊢; omega
    · have := tok_len r (cur ++ [c]) (k + 1); simp at this ⊢; omega
theorem parseB_par (s : ByteArray) (h : s.size ≤ 4096) : parseB s = parT s.size (tokG 0 [] s.data.toList) [] 0 := by
  rw [parseB_toks s h]
  have := tok_len s.data.toList [] 0
  exact parse_fuel _ _ _ _ _ _ (by simp at this; omega) (by omega)
/-- What is read stays read, whatever follows; and behind it the rest is read. -/
theorem par_append (z z' : Nat) : ∀ (n : Nat) (ts : List (Nat × List UInt8)) (ops : List Op4) (opn : Nat) (t2 : List (Nat × List UInt8)) (p : List Op4) (k : Int), ts.length ≤ n → parT z ts ops opn = (p, k, 0) → k = 0 ∧ parT z' (ts ++ t2) ops opn = parT z' t2 p 0
  | n, [], ops, opn, t2, p, k, _, h => by
    rw [parT_nil] at h
    by_cases ho : 0 < opn
    · rw [if_pos ho] at h; simp at h
    · rw [if_neg ho] at h
      simp only [Prod.mk.injEq] at h
      obtain ⟨rfl, rfl, -⟩ := h
      rw [show opn = 0 by omega]
      exact ⟨rfl, rfl⟩
  | 0, c :: ts, ops, opn, t2, p, k, hl, h => by simp at hl
  | n + 1, (a, w) :: ts, ops, opn, t2, p, k, hl, h => by
    rw [List.length_cons] at hl
    by_cases hb : beginsG (kindC w) ops.length opn = 0
    · cases ho : oneT z (kindC w) opn ts with
      | error e =>
        exfalso
        rw [parT_err hb ho] at h
        simp only [Prod.mk.injEq] at h
        exact one_err_ne ho h.2.2
      | ok x =>
        rw [parT_ok hb ho] at h
        obtain ⟨u, hu, hq⟩ := one_split ho
        have := one_len ho
        obtain ⟨h0, h1⟩ := par_append z z' n x.2.2 (ops ++ [x.1]) x.2.1 t2 p k (by omega) h
        refine ⟨h0, ?_⟩
        rw [List.cons_append, parT_ok hb (x := (x.1, x.2.1, x.2.2 ++ t2)) (by rw [hu, List.append_assoc]; exact hq z' _)]
        exact h1
    · rw [parT_wrong hb] at h
      simp only [Prod.mk.injEq] at h
      exact absurd h.2.2 hb
/-- The same words behind other operations. -/
theorem par_behind (z z' : Nat) : ∀ (n : Nat) (ts : List (Nat × List UInt8)) (ops : List Op4) (opn : Nat) (q : List Op4) (k : Int), ts.length ≤ n → parT z ts ops opn = (q, k, 0) → ∃ r, q = ops ++ r ∧ ∀ pre : List Op4, pre.length ≤ 256 → (pre.length + r.length ≤ 256 → parT z' ts pre opn = (pre ++ r, 0, 0)) ∧ (256 < pre.length + r.length → (parT z' ts pre opn).2.2 = 4)
  | n, [], ops, opn, q, k, _, h => by
    rw [parT_nil] at h
    by_cases ho : 0 < opn
    · rw [if_pos ho] at h; simp at h
    · rw [if_neg ho] at h
      simp only [Prod.mk.injEq] at h
      obtain ⟨rfl, rfl, -⟩ := h
      refine ⟨[], by simp, fun pre hp => ⟨fun _ => by rw [parT_nil, if_neg ho, List.append_nil], fun h => ?_⟩⟩
      simp at h
      omega
  | 0, c :: ts, ops, opn, q, k, hl, h => by simp at hl
  | n + 1, (a, w) :: ts, ops, opn, q, k, hl, h => by
    rw [List.length_cons] at hl
    by_cases hb : beginsG (kindC w) ops.length opn = 0
    · cases ho : oneT z (kindC w) opn ts with
      | error e =>
        exfalso
        rw [parT_err hb ho] at h
        simp only [Prod.mk.injEq] at h
        exact one_err_ne ho h.2.2
      | ok x =>
        rw [parT_ok hb ho] at h
        obtain ⟨u, hu, hq⟩ := one_split ho
        have := one_len ho
        obtain ⟨r, hr, hp⟩ := par_behind z z' n x.2.2 (ops ++ [x.1]) x.2.1 q k (by omega) h
        have ho' : oneT z' (kindC w) opn ts = .ok x := by rw [hu]; exact hq z' _
        refine ⟨x.1 :: r, by rw [hr, List.append_assoc]; rfl, fun pre hl => ?_⟩
        by_cases h6 : pre.length = 256
        · refine ⟨fun h => by simp at h; omega, fun _ => ?_⟩
          have h4 : beginsG (kindC w) pre.length opn = 4 := by unfold beginsG; rw [if_pos h6]
          rw [parT_wrong (by rw [h4]; decide), h4]
        · have hb' : beginsG (kindC w) pre.length opn = 0 := by
            unfold beginsG at hb ⊢
            rw [if_neg h6]
            by_cases h7 : ops.length = 256
            · rw [if_pos h7] at hb; cases hb
            · rw [if_neg h7] at hb; exact hb
          obtain ⟨e1, e2⟩ := hp (pre ++ [x.1]) (by simp; omega)
          rw [parT_ok hb' ho']
          simp only [List.length_append, List.length_cons, List.length_nil, List.append_assoc, List.singleton_append] at e1 e2 ⊢
          exact ⟨fun h => e1 (by omega), fun h => e2 (by omega)⟩
    · rw [parT_wrong hb] at h
      simp only [Prod.mk.injEq] at h
      exact absurd h.2.2 hb
/-! ### What is wrong, and where -/
theorem fields_err (z : Nat) : ∀ (ks : List Nat) (o : Op4) (ts : List (Nat × List UInt8)) (e : Int × Int), fieldsT z ks o ts = .error e → e.2 ≠ 31 → ∃ (t1 : List (Nat × List UInt8)) (a : Nat) (w : List UInt8) (t2 : List (Nat × List UInt8)), ts = t1 ++ (a, w) :: t2 ∧ e.1 = (a : Int) ∧ ∀ z' t, fieldsT z' ks o (t1 ++ (a, w) :: t) = .error e
  | [], o, ts, e, h, _ => by rw [fieldsT] at h; cases h
  | k :: r, o, [], e, h, h31 => by rw [fieldsT] at h; injection h with h; subst h; exact absurd rfl h31
  | k :: r, o, (a, w) :: ts, e, h, h31 => by
    rw [fieldsT] at h
    cases hn : numC w with
    | none =>
      rw [hn] at h
      injection h with h
      subst h
      exact ⟨[], a, w, ts, rfl, rfl, fun z' t => by rw [List.nil_append, fieldsT, hn]⟩
    | some n =>
      rw [hn] at h
      simp only at h
      by_cases hf : fieldsB (fixF (setF o k n) k) = true
      · rw [if_pos hf] at h
        obtain ⟨t1, b, v, t2, e1, e2, e3⟩ := fields_err z r _ ts e h h31
        refine ⟨(a, w) :: t1, b, v, t2, by rw [e1]; rfl, e2, fun z' t => ?_⟩
        rw [List.cons_append, fieldsT, hn]
        simp only
        rw [if_pos hf]
        exact e3 z' t
      · rw [if_neg hf] at h
        injection h with h
        subst h
        refine ⟨[], a, w, ts, rfl, rfl, fun z' t => ?_⟩
        rw [List.nil_append, fieldsT, hn]
        simp only
        rw [if_neg hf]
theorem one_wrong {z : Nat} {kind : Int} {opn : Nat} {ts : List (Nat × List UInt8)} {e : Int × Int} (h : oneT z kind opn ts = .error e) (h31 : e.2 ≠ 31) : ∃ (t1 : List (Nat × List UInt8)) (a : Nat) (w : List UInt8) (t2 : List (Nat × List UInt8)), ts = t1 ++ (a, w) :: t2 ∧ e.1 = (a : Int) ∧ ∀ z' t, oneT z' kind opn (t1 ++ (a, w) :: t) = .error e := by
  unfold oneT at h ⊢
  cases hf : fieldsT z (fieldsOf kind) ⟨kind, 0, 0, 0⟩ ts with
  | error e' =>
    rw [hf] at h
    injection h with h
    subst h
    obtain ⟨t1, a, w, t2, e1, e2, e3⟩ := fields_err z _ _ _ _ hf h31
    exact ⟨t1, a, w, t2, e1, e2, fun z' t => by rw [e3]⟩
  | ok y =>
    obtain ⟨o, ts'⟩ := y
    obtain ⟨u, hu, hq⟩ := fields_split z _ _ _ _ hf
    rw [hf] at h
    simp only at h hu hq
    by_cases h10 : kind = 10
    · rw [if_pos h10] at h
      cases ts' with
      | nil => injection h with h; subst h; exact absurd rfl h31
      | cons c t =>
        obtain ⟨a, w⟩ := c
        simp only at h
        by_cases hw : w = [123]
        · rw [if_pos hw] at h; cases h
        · rw [if_neg hw] at h
          injection h with h
          subst h
          refine ⟨u, a, w, t, hu, rfl, fun z' t' => ?_⟩
          rw [hq]
          simp only [if_pos h10, if_neg hw]
    · rw [if_neg h10] at h
      by_cases h11 : kind = 11
      · rw [if_pos h11] at h; cases h
      · rw [if_neg h11] at h; cases h
theorem par_wrong (z : Nat) : ∀ (n : Nat) (ts : List (Nat × List UInt8)) (ops : List Op4) (opn : Nat) (p : List Op4) (k e : Int), ts.length ≤ n → parT z ts ops opn = (p, k, e) → e ≠ 0 → e ≠ 31 → ∃ (t1 : List (Nat × List UInt8)) (a : Nat) (w : List UInt8) (t2 : List (Nat × List UInt8)), ts = t1 ++ (a, w) :: t2 ∧ k = (a : Int) ∧ ∀ z' t, parT z' (t1 ++ (a, w) :: t) ops opn = ([], k, e)
  | n, [], ops, opn, p, k, e, _, h, h0, h31 => by
    rw [parT_nil] at h
    split at h
    · simp only [Prod.mk.injEq] at h; exact absurd h.2.2.symm h31
    · simp only [Prod.mk.injEq] at h; exact absurd h.2.2.symm h0
  | 0, c :: ts, ops, opn, p, k, e, hl, _, _, _ => by simp at hl
  | n + 1, (a, w) :: ts, ops, opn, p, k, e, hl, h, h0, h31 => by
    rw [List.length_cons] at hl
    by_cases hb : beginsG (kindC w) ops.length opn = 0
    · cases ho : oneT z (kindC w) opn ts with
      | error d =>
        rw [parT_err hb ho] at h
        simp only [Prod.mk.injEq] at h
        obtain ⟨-, rfl, rfl⟩ := h
        obtain ⟨t1, b, v, t2, e1, e2, e3⟩ := one_wrong ho h31
        refine ⟨(a, w) :: t1, b, v, t2, by rw [e1]; rfl, e2, fun z' t => ?_⟩
        rw [List.cons_append, parT_err hb (e3 z' t)]
      | ok x =>
        rw [parT_ok hb ho] at h
        obtain ⟨u, hu, hq⟩ := one_split ho
        have := one_len ho
        obtain ⟨t1, b, v, t2, e1, e2, e3⟩ := par_wrong z n x.2.2 (ops ++ [x.1]) x.2.1 p k e (by omega) h h0 h31
        refine ⟨(a, w) :: (u ++ t1), b, v, t2, by rw [hu, e1]; simp, e2, fun z' t => ?_⟩
        rw [List.cons_append, List.append_assoc, parT_ok hb (hq z' _)]
        exact e3 z' t
    · rw [parT_wrong hb] at h
      simp only [Prod.mk.injEq] at h
      obtain ⟨-, rfl, rfl⟩ := h
      exact ⟨[], a, w, ts, rfl, rfl, fun z' t => by rw [List.nil_append, parT_wrong hb]⟩
/-! ### The places do not matter -/
theorem fields_words (z z' : Nat) : ∀ (ks : List Nat) (o : Op4) (ts ts' : List (Nat × List UInt8)), ts.map (·.2) = ts'.map (·.2) →
    (∀ e, fieldsT z ks o ts = .error e → ∃ e', fieldsT z' ks o ts' = .error e' ∧ e'.2 = e.2) ∧ (∀ x, fieldsT z ks o ts = .ok x → ∃ t, fieldsT z' ks o ts' = .ok (x.1, t) ∧ x.2.map (·.2) = t.map (·.2))
  | [], o, ts, ts', hm => by
    rw [fieldsT, fieldsT]
    exact ⟨(fun e h => by cases h), fun x h => by injection h with h; subst h; exact ⟨ts', rfl, hm⟩⟩
  | k :: r, o, [], ts', hm => by
    cases ts' with
    | cons c t => cases hm
    | nil =>
      rw [fieldsT, fieldsT]
      exact ⟨fun e h => by injection h with h; subst h; exact ⟨_, rfl, rfl⟩, fun x h => by cases h⟩
  | k :: r, o, (a, w) :: ts, ts', hm => by
    cases ts' with
    | nil => cases hm
    | cons c t =>
      obtain ⟨b, v⟩ := c
      simp only [List.map_cons, List.cons.injEq] at hm
      obtain ⟨rfl, hm⟩ := hm
      rw [fieldsT, fieldsT]
      cases hn : numC w with
      | none => exact ⟨fun e h => by injection h with h; subst h; exact ⟨_, rfl, rfl⟩, fun x h => by cases h⟩
      | some n =>
        simp only
        by_cases hf : fieldsB (fixF (setF o k n) k) = true
        · rw [if_pos hf, if_pos hf]
          exact fields_words z z' r _ ts t hm
        · rw [if_neg hf, if_neg hf]
          exact ⟨fun e h => by injection h with h; subst h; exact ⟨_, rfl, rfl⟩, fun x h => by cases h⟩
theorem one_words (z z' : Nat) (kind : Int) (opn : Nat) (ts ts' : List (Nat × List UInt8)) (hm : ts.map (·.2) = ts'.map (·.2)) :
    (∀ e, oneT z kind opn ts = .error e → ∃ e', oneT z' kind opn ts' = .error e' ∧ e'.2 = e.2) ∧ (∀ x, oneT z kind opn ts = .ok x → ∃ t, oneT z' kind opn ts' = .ok (x.1, x.2.1, t) ∧ x.2.2.map (·.2) = t.map (·.2)) := by
  obtain ⟨h1, h2⟩ := fields_words z z' (fieldsOf kind) ⟨kind, 0, 0, 0⟩ ts ts' hm
  unfold oneT
  cases hf : fieldsT z (fieldsOf kind) ⟨kind, 0, 0, 0⟩ ts with
  | error e =>
    obtain ⟨e', he, h⟩ := h1 e hf
    rw [he]
    exact ⟨fun d hd => by injection hd with hd; subst hd; exact ⟨_, rfl, h⟩, fun x hx => by cases hx⟩
  | ok y =>
    obtain ⟨o, u⟩ := y
    obtain ⟨u', hu, hm'⟩ := h2 _ hf
    rw [hu]
    simp only at hm' ⊢
    by_cases h10 : kind = 10
    · rw [if_pos h10, if_pos h10]
      cases u with
      | nil =>
        cases u' with
        | cons c t => cases hm'
        | nil => exact ⟨fun d hd => by injection hd with hd; subst hd; exact ⟨_, rfl, rfl⟩, fun x hx => by cases hx⟩
      | cons c t =>
        cases u' with
        | nil => cases hm'
        | cons c' t' =>
          obtain ⟨a, w⟩ := c
          obtain ⟨b, v⟩ := c'
          simp only [List.map_cons, List.cons.injEq] at hm'
          obtain ⟨rfl, hm'⟩ := hm'
          simp only
          by_cases hw : w = [123]
          · rw [if_pos hw, if_pos hw]
            exact ⟨(fun d hd => by cases hd), fun x hx => by injection hx with hx; subst hx; exact ⟨_, rfl, hm'⟩⟩
          · rw [if_neg hw, if_neg hw]
            exact ⟨fun d hd => by injection hd with hd; subst hd; exact ⟨_, rfl, rfl⟩, fun x hx => by cases hx⟩
    · rw [if_neg h10, if_neg h10]
      by_cases h11 : kind = 11
      · rw [if_pos h11, if_pos h11]
        exact ⟨(fun d hd => by cases hd), fun x hx => by injection hx with hx; subst hx; exact ⟨_, rfl, hm'⟩⟩
      · rw [if_neg h11, if_neg h11]
        exact ⟨(fun d hd => by cases hd), fun x hx => by injection hx with hx; subst hx; exact ⟨_, rfl, hm'⟩⟩
theorem par_words (z z' : Nat) : ∀ (n : Nat) (ts ts' : List (Nat × List UInt8)) (ops : List Op4) (opn : Nat), ts.length ≤ n → ts.map (·.2) = ts'.map (·.2) → (parT z' ts' ops opn).1 = (parT z ts ops opn).1 ∧ (parT z' ts' ops opn).2.2 = (parT z ts ops opn).2.2
  | n, [], ts', ops, opn, _, hm => by
    cases ts' with
    | cons c t => cases hm
    | nil =>
      rw [parT_nil, parT_nil]
      split <;> exact ⟨rfl, rfl⟩
  | 0, c :: ts, ts', ops, opn, hl, _ => by simp at hl
  | n + 1, (a, w) :: ts, ts', ops, opn, hl, hm => by
    rw [List.length_cons] at hl
    cases ts' with
    | nil => cases hm
    | cons c t =>
      obtain ⟨b, v⟩ := c
      simp only [List.map_cons, List.cons.injEq] at hm
      obtain ⟨rfl, hm⟩ := hm
      by_cases hb : beginsG (kindC w) ops.length opn = 0
      · obtain ⟨h1, h2⟩ := one_words z z' (kindC w) opn ts t hm
        cases ho : oneT z (kindC w) opn ts with
        | error e =>
          obtain ⟨e', he, h⟩ := h1 e ho
          rw [parT_err hb ho, parT_err hb he]
          exact ⟨rfl, h⟩
        | ok x =>
          obtain ⟨u, hu, hm'⟩ := h2 x ho
          have := one_len ho
          rw [parT_ok hb ho, parT_ok hb hu]
          exact par_words z z' n x.2.2 u _ _ (by omega) hm'
      · rw [parT_wrong hb, parT_wrong hb]
        exact ⟨rfl, rfl⟩
end CD
end Go.Proofs.YtnehiooioodkfaaDoor

/-
  CODE: what is read is right; what is printed is read (plain).
-/
set_option linter.unusedVariables false
set_option linter.unusedSimpArgs false
namespace Go.Proofs.YtnehiooioodkfaaDoor
open Go Go.RowKit
namespace CD
theorem setF_kind (o : Op4) (k : Nat) (n : Int) : (setF o k n).kind = o.kind := by
  unfold setF
  split
  · rfl
  · split <;> rfl
theorem eleven {k : Int} (h : 1 ≤ k ∧ k ≤ 11) : k = 1 ∨ k = 2 ∨ k = 3 ∨ k = 4 ∨ k = 5 ∨ k = 6 ∨ k = 7 ∨ k = 8 ∨ k = 9 ∨ k = 10 ∨ k = 11 := by omega
theorem fieldsB_kind {o : Op4} (h : fieldsB o = true) : 1 ≤ o.kind ∧ o.kind ≤ 11 := by
  unfold fieldsB at h
  by_cases hk : kindB o.kind = false
  · rw [if_pos hk] at h; cases h
  · unfold kindB at hk
    simpa using hk
theorem fields_ok (z : Nat) : ∀ (ks : List Nat) (o : Op4) (ts : List (Nat × List UInt8)) (x : Op4 × List (Nat × List UInt8)), fieldsT z ks o ts = .ok x → x.1.kind = o.kind ∧ (ks = [] ∧ x.1 = o ∨ ∃ k, ks.getLast? = some k ∧ fieldsB (fixF x.1 k) = true)
  | [], o, ts, x, h => by
    rw [fieldsT] at h
    injection h with h
    subst h
    exact ⟨rfl, .inl ⟨rfl, rfl⟩⟩
  | k :: r, o, [], x, h => by rw [fieldsT] at h; cases h
  | k :: r, o, (a, w) :: ts, x, h => by
    rw [fieldsT] at h
    cases hn : numC w with
    | none => rw [hn] at h; cases h
    | some n =>
      rw [hn] at h
      simp only at h
      by_cases hf : fieldsB (fixF (setF o k n) k) = true
      · rw [if_pos hf] at h
        obtain ⟨h1, h2⟩ := fields_ok z r _ ts x h
        refine ⟨h1.trans (setF_kind o k n), .inr ?_⟩
        rcases h2 with ⟨rfl, hx⟩ | ⟨j, hj, hx⟩
        · exact ⟨k, rfl, by rw [hx]; exact hf⟩
        · refine ⟨j, ?_, hx⟩
          rw [List.getLast?_cons, hj]
          rfl
      · rw [if_neg hf] at h; cases h
theorem fieldsOf_tab : (List.range 11).all (fun i => decide (fieldsOf ((i : Int) + 1) = [] ∧ fieldsB ⟨(i : Int) + 1, 0, 0, 0⟩ = true ∨ (fieldsOf ((i : Int) + 1)).getLast? ≠ none ∧ ((fieldsOf ((i : Int) + 1)).getLast? = some 1 → i ≠ 0))) = true := by decide
theorem one_good {z : Nat} {kind : Int} {opn : Nat} {ts : List (Nat × List UInt8)} {x : Op4 × Nat × List (Nat × List UInt8)} (hk : 1 ≤ kind ∧ kind ≤ 11) (h : oneT z kind opn ts = .ok x) : fieldsB x.1 = true ∧ x.1.kind = kind ∧ x.2.1 = (if kind = 10 then opn + 1 else if kind = 11 then opn - 1 else opn) := by
  unfold oneT at h
  cases hf : fieldsT z (fieldsOf kind) ⟨kind, 0, 0, 0⟩ ts with
  | error d => rw [hf] at h; cases h
  | ok y =>
    obtain ⟨o, ts'⟩ := y
    obtain ⟨h1, h2⟩ := fields_ok z _ _ _ _ hf
    simp only at h1 h2
    have hfo : fieldsB o = true := by
      have ht := List.all_eq_true.1 fieldsOf_tab (kind.toNat - 1) (List.mem_range.2 (by omega))
      rw [show ((kind.toNat - 1 : Nat) : Int) + 1 = kind by omega] at ht
      have ht := of_decide_eq_true ht
      rcases h2 with ⟨h0, rfl⟩ | ⟨k, hl, hb⟩
      · rcases ht with ⟨-, h⟩ | ⟨h, -⟩
        · exact h
        · rw [h0] at h; exact absurd rfl h
      · rcases ht with ⟨h, -⟩ | ⟨-, h⟩
        · rw [h] at hl; cases hl
        · rw [hl] at h
          unfold fixF at hb
          rw [if_neg] at hb
          · exact hb
          · rintro ⟨hk1, rfl⟩
            exact h rfl (by rw [h1] at hk1; rw [hk1]; rfl)
    rw [hf] at h
    simp only at h
    by_cases h10 : kind = 10
    · rw [if_pos h10] at h ⊢
      cases ts' with
      | nil => cases h
      | cons c t =>
        obtain ⟨a, w⟩ := c
        simp only at h
        by_cases hw : w = [123]
        · rw [if_pos hw] at h; injection h with h; subst h; exact ⟨hfo, h1, rfl⟩
        · rw [if_neg hw] at h; cases h
    · rw [if_neg h10] at h ⊢
      by_cases h11 : kind = 11
      · rw [if_pos h11] at h ⊢; injection h with h; subst h; exact ⟨hfo, h1, rfl⟩
      · rw [if_neg h11] at h ⊢; injection h with h; subst h; exact ⟨hfo, h1, rfl⟩
theorem kindC_range (w : List UInt8) : kindC w = 0 ∨ (1 ≤ kindC w ∧ kindC w ≤ 11) := kindW_range _
/-- What is read is a right program. -/
theorem par_good (z : Nat) : ∀ (n : Nat) (ts : List (Nat × List UInt8)) (ops : List Op4) (opn : Nat) (q : List Op4) (k : Int), ts.length ≤ n → parT z ts ops opn = (q, k, 0) → opG ops 0 = some opn → ops.length ≤ 256 → (checkB q).2 = 0
  | n, [], ops, opn, q, k, _, h, ho, hl => by
    rw [parT_nil] at h
    by_cases h0 : 0 < opn
    · rw [if_pos h0] at h; simp at h
    · rw [if_neg h0] at h
      simp only [Prod.mk.injEq] at h
      obtain ⟨rfl, -, -⟩ := h
      exact checkB_op.2 ⟨hl, by rw [ho, show opn = 0 by omega]⟩
  | 0, c :: ts, ops, opn, q, k, hn, _, _, _ => by simp at hn
  | n + 1, (a, w) :: ts, ops, opn, q, k, hn, h, hg, hl => by
    rw [List.length_cons] at hn
    by_cases hb : beginsG (kindC w) ops.length opn = 0
    · cases ho : oneT z (kindC w) opn ts with
      | error e =>
        exfalso
        rw [parT_err hb ho] at h
        simp only [Prod.mk.injEq] at h
        exact one_err_ne ho h.2.2
      | ok x =>
        rw [parT_ok hb ho] at h
        have := one_len ho
        obtain ⟨b1, b2, b3, b4⟩ := begins_ok hb
        obtain ⟨g1, g2, g3⟩ := one_good ((kindC_range w).resolve_left b2) ho
        refine par_good z n x.2.2 (ops ++ [x.1]) x.2.1 q k (by omega) h ?_ (by simp; omega)
        rw [opG_append, hg]
        simp only [Option.bind_some]
        rw [opG, if_neg (by rw [g1]; decide), g2, g3]
        by_cases h10 : kindC w = 10
        · rw [if_pos h10, if_pos h10, if_neg (b4 h10), opG]
        · rw [if_neg h10, if_neg h10]
          by_cases h11 : kindC w = 11
          · rw [if_pos h11, if_pos h11, if_neg (b3 h11), opG]
          · rw [if_neg h11, if_neg h11, opG]
    · rw [parT_wrong hb] at h
      simp only [Prod.mk.injEq] at h
      exact absurd h.2.2 hb
theorem parseB_size {s : ByteArray} (h : (parseB s).2.2 ≠ 5) : s.size ≤ 4096 := by
  by_cases hs : 4096 < s.size
  · unfold parseB at h; rw [if_pos hs] at h; exact absurd rfl h
  · omega
theorem parse_good {s : ByteArray} (h : (parseB s).2.2 = 0) : (checkB (parseB s).1).2 = 0 := by
  have hp := parseB_par s (parseB_size (by rw [h]; decide))
  generalize parseB s = R at *
  obtain ⟨q, k, e⟩ := R
  obtain rfl : e = 0 := h
  exact par_good s.size _ _ [] 0 q k (Nat.le_refl _) hp.symm rfl (by simp)
/-- Nothing is told but operations that were read. -/
theorem par_no (z : Nat) : ∀ (n : Nat) (ts : List (Nat × List UInt8)) (ops : List Op4) (opn : Nat), ts.length ≤ n → (parT z ts ops opn).2.2 ≠ 0 → (parT z ts ops opn).1 = []
  | n, [], ops, opn, _, h => by
    rw [parT_nil] at h ⊢
    split
    · rfl
    · rename_i h0; rw [if_neg h0] at h; exact absurd rfl h
  | 0, c :: ts, ops, opn, hn, _ => by simp at hn
  | n + 1, (a, w) :: ts, ops, opn, hn, h => by
    rw [List.length_cons] at hn
    by_cases hb : beginsG (kindC w) ops.length opn = 0
    · cases ho : oneT z (kindC w) opn ts with
      | error e => rw [parT_err hb ho]
      | ok x =>
        have := one_len ho
        rw [parT_ok hb ho] at h ⊢
        exact par_no z n x.2.2 _ _ (by omega) h
    · rw [parT_wrong hb]
theorem parse_no {s : ByteArray} (h : (parseB s).2.2 ≠ 0) : (parseB s).1 = [] := by
  by_cases hs : 4096 < s.size
  · unfold parseB; rw [if_pos hs]
  · have hp := parseB_par s (by omega)
    rw [hp] at h ⊢
    exact par_no _ _ _ _ _ (Nat.le_refl _) h
/-! ### What Print writes -/
def tokW (l : List UInt8) : List (List UInt8) := (tokG 0 [] l).map (·.2)
def hdB (r : List UInt8) : Prop := ∀ c t, r = c :: t → blkB c = true
theorem hdB_nil : hdB [] := fun c t h => by cases h
theorem hdB_cons {c : UInt8} {t : List UInt8} (h : blkB c = true) : hdB (c :: t) := fun d u e => by injection e with e1 e2; subst e1; exact h
theorem tokW_blank {c : UInt8} {r : List UInt8} (h : blkB c = true) : tokW (c :: r) = tokW r := by
  unfold tokW
  rw [tok_blank 0 h]
  exact tok_snd _ _ _ _
theorem tokW_one {w r : List UInt8} (h0 : w ≠ []) (hw : ∀ c ∈ w, blkB c = false) (h : hdB r) : tokW (w ++ r) = w :: tokW r := by
  unfold tokW
  rw [tok_one 0 h0 hw h, List.map_cons]
  congr 1
  exact tok_snd _ _ _ _
def spaced (ws : List (List UInt8)) : List UInt8 := ws.flatMap fun w => 32 :: w
theorem tokW_spaced : ∀ (ws : List (List UInt8)) (r : List UInt8), (∀ w ∈ ws, w ≠ [] ∧ ∀ c ∈ w, blkB c = false) → hdB r → hdB (spaced ws ++ r) ∧ tokW (spaced ws ++ r) = ws ++ tokW r
  | [], r, _, hr => ⟨hr, rfl⟩
  | w :: ws, r, h, hr => by
    obtain ⟨i1, i2⟩ := tokW_spaced ws r (fun v hv => h v (List.mem_cons_of_mem _ hv)) hr
    obtain ⟨w1, w2⟩ := h w (List.mem_cons_self ..)
    have e : spaced (w :: ws) ++ r = 32 :: (w ++ (spaced ws ++ r)) := by simp [spaced]
    rw [e]
    refine ⟨hdB_cons (by decide), ?_⟩
    rw [tokW_blank (by decide), tokW_one w1 w2 i1, i2]
    rfl
def numsW (o : Op4) : List (List UInt8) :=
  if hasOf o.kind = 1 then [Lib.itoa o.res, Lib.itoa o.n]
  else if hasOf o.kind = 2 then [Lib.itoa o.res]
  else if hasOf o.kind = 3 then [Lib.itoa o.v]
  else if hasOf o.kind = 4 then [Lib.itoa o.n]
  else []
def braceW (o : Op4) : List (List UInt8) := if o.kind = 10 then [[123]] else []
def wdsO (o : Op4) : List (List UInt8) := (wordOf o.kind).data.toList :: (numsW o ++ braceW o)
theorem textO_spaced (o : Op4) : textO o = (wordOf o.kind).data.toList ++ spaced (numsW o ++ braceW o) := by
  have e1 : numsT o = spaced (numsW o) := by
    unfold numsT numsW
    split
    · simp [spaced]
    · split
      · simp [spaced]
      · split
        · simp [spaced]
        · split <;> simp [spaced]
  have e2 : (if o.kind = 10 then [32, 123] else [] : List UInt8) = spaced (braceW o) := by
    unfold braceW
    split <;> simp [spaced]
  unfold textO
  rw [e1, e2, List.append_assoc]
  congr 1
  simp [spaced]
theorem digs_all : ∀ (l : List UInt8) (acc u : Nat), digs l acc = some u → ∀ c ∈ l, isD c
  | [], _, _, _, c, hc => by cases hc
  | d :: l, acc, u, h, c, hc => by
    rw [digs] at h
    by_cases hd : isD d
    · rw [if_pos hd] at h
      rcases List.mem_cons.1 hc with rfl | hc
      · exact hd
      · exact digs_all l _ u h c hc
    · rw [if_neg hd] at h; cases h
theorem blk_dig {c : UInt8} (h : isD c) : blkB c = false := by
  unfold isD at h
  unfold blkB blankC
  have h1 : ((c.toNat : Int) == 9) = false := beq_eq_false_iff_ne.2 (by omega)
  have h2 : ((c.toNat : Int) == 10) = false := beq_eq_false_iff_ne.2 (by omega)
  have h3 : ((c.toNat : Int) == 13) = false := beq_eq_false_iff_ne.2 (by omega)
  have h4 : ((c.toNat : Int) == 32) = false := beq_eq_false_iff_ne.2 (by omega)
  have h5 : ((c.toNat : Int) == 59) = false := beq_eq_false_iff_ne.2 (by omega)
  rw [h1, h2, h3, h4, h5]
  rfl
theorem dec_bytes (u : Nat) : Lib.decDigits u ≠ [] ∧ ∀ c ∈ Lib.decDigits u, blkB c = false := by
  obtain ⟨h1, c, r, h2, -⟩ := dec_digs u
  exact ⟨by rw [h2]; exact List.cons_ne_nil _ _, fun c hc => blk_dig (digs_all _ _ _ h1 c hc)⟩
theorem itoa_bytes (v : Int) : Lib.itoa v ≠ [] ∧ ∀ c ∈ Lib.itoa v, blkB c = false := by
  unfold Lib.itoa
  split
  · refine ⟨List.cons_ne_nil _ _, fun c hc => ?_⟩
    rcases List.mem_cons.1 hc with rfl | hc
    · decide
    · exact (dec_bytes _).2 c hc
  · exact dec_bytes _
theorem words_tab : (List.range 11).all (fun i => decide ((wordOf ((i : Int) + 1)).data.toList ≠ []) && (wordOf ((i : Int) + 1)).data.toList.all (fun c => blkB c == false) && decide (kindC (wordOf ((i : Int) + 1)).data.toList = (i : Int) + 1)) = true := by kernel_rfl
theorem word_facts {k : Int} (h : 1 ≤ k ∧ k ≤ 11) : (wordOf k).data.toList ≠ [] ∧ (∀ c ∈ (wordOf k).data.toList, blkB c = false) ∧ kindC (wordOf k).data.toList = k := by
  have ht := List.all_eq_true.1 words_tab (k.toNat - 1) (List.mem_range.2 (by omega))
  rw [show ((k.toNat - 1 : Nat) : Int) + 1 = k by omega] at ht
  rw [Bool.and_eq_true, Bool.and_eq_true] at ht
  obtain ⟨⟨t1, t2⟩, t3⟩ := ht
  exact ⟨of_decide_eq_true t1, fun c hc => by simpa using List.all_eq_true.1 t2 c hc, of_decide_eq_true t3⟩
theorem numsW_ok (o : Op4) : ∀ w ∈ numsW o ++ braceW o, w ≠ [] ∧ ∀ c ∈ w, blkB c = false := by
  intro w hw
  rcases List.mem_append.1 hw with h | h
  · unfold numsW at h
    split at h
    · rcases List.mem_cons.1 h with rfl | h
      · exact itoa_bytes _
      · rw [List.mem_singleton.1 h]; exact itoa_bytes _
    · split at h
      · rw [List.mem_singleton.1 h]; exact itoa_bytes _
      · split at h
        · rw [List.mem_singleton.1 h]; exact itoa_bytes _
        · split at h
          · rw [List.mem_singleton.1 h]; exact itoa_bytes _
          · cases h
  · unfold braceW at h
    split at h
    · rw [List.mem_singleton.1 h]
      exact ⟨List.cons_ne_nil _ _, fun c hc => by rw [List.mem_singleton.1 hc]; decide⟩
    · cases h
theorem tokW_textO {o : Op4} {r : List UInt8} (h : 1 ≤ o.kind ∧ o.kind ≤ 11) (hr : hdB r) : tokW (textO o ++ r) = wdsO o ++ tokW r := by
  obtain ⟨w1, w2, -⟩ := word_facts h
  obtain ⟨i1, i2⟩ := tokW_spaced (numsW o ++ braceW o) r (numsW_ok o) hr
  rw [textO_spaced, List.append_assoc, tokW_one w1 w2 i1, i2]
  rfl
theorem hdB_textG (a : Op4) (r : List Op4) : hdB (textG a r) := by
  cases r with
  | nil => exact hdB_nil
  | cons o r =>
    unfold textG sepO
    split
    · exact hdB_cons (by decide)
    · exact hdB_cons (by decide)
theorem tokW_textG : ∀ (r : List Op4) (a : Op4), (∀ o ∈ r, 1 ≤ o.kind ∧ o.kind ≤ 11) → tokW (textG a r) = r.flatMap wdsO
  | [], a, _ => rfl
  | o :: r, a, h => by
    have hh := tokW_textG r o fun x hx => h x (List.mem_cons_of_mem _ hx)
    have h1 := tokW_textO (h o (List.mem_cons_self ..)) (hdB_textG o r)
    rw [hh] at h1
    rw [textG, List.flatMap_cons, ← h1, List.append_assoc]
    unfold sepO
    split
    · exact tokW_blank (by decide)
    · rw [List.cons_append, tokW_blank (by decide)]
      exact tokW_blank (by decide)
theorem tokW_textB (xs : List Op4) (h : ∀ o ∈ xs, 1 ≤ o.kind ∧ o.kind ≤ 11) : tokW (textB xs) = xs.flatMap wdsO := by
  cases xs with
  | nil => rfl
  | cons o r =>
    have h1 := tokW_textO (h o (List.mem_cons_self ..)) (hdB_textG o r)
    rw [tokW_textG r o fun x hx => h x (List.mem_cons_of_mem _ hx)] at h1
    rw [textB, h1, List.flatMap_cons]
theorem num_back {z k : Nat} {r : List Nat} {o : Op4} {n : Int} {ts : List (Nat × List UInt8)} {rest : List (List UInt8)} (hm : ts.map (·.2) = Lib.itoa n :: rest) (h0 : -9223372036854775808 ≤ n ∧ n ≤ 9223372036854775807) (hf : fieldsB (fixF (setF o k n) k) = true) : ∃ t, fieldsT z (k :: r) o ts = fieldsT z r (setF o k n) t ∧ t.map (·.2) = rest := by
  cases ts with
  | nil => cases hm
  | cons c t =>
    obtain ⟨a, w⟩ := c
    simp only [List.map_cons, List.cons.injEq] at hm
    obtain ⟨rfl, hm⟩ := hm
    refine ⟨t, ?_, hm⟩
    rw [fieldsT, numC_itoa n h0.1 h0.2]
    simp only
    rw [if_pos hf]
theorem fields_back {z : Nat} {o : Op4} (hf : fieldsB o = true) (hr : Rg o) {ts : List (Nat × List UInt8)} {rest : List (List UInt8)} (hm : ts.map (·.2) = numsW o ++ rest) : ∃ t, fieldsT z (fieldsOf o.kind) ⟨o.kind, 0, 0, 0⟩ ts = .ok (o, t) ∧ t.map (·.2) = rest := by
  have hk := fieldsB_kind hf
  obtain ⟨k, a, b, c⟩ := o
  obtain ⟨r1, r2, r3⟩ := hr
  simp only at hk r1 r2 r3 ⊢
  have hf0 := hf
  unfold fieldsB kindB at hf
  have hkb : decide (1 ≤ k ∧ k ≤ 11) = true := decide_eq_true hk
  simp only [hkb] at hf
  unfold numsW at hm
  simp only at hm
  by_cases h1 : hasOf k = 1
  · have k1 : k = 1 := by
      rcases eleven hk with rfl | rfl | rfl | rfl | rfl | rfl | rfl | rfl | rfl | rfl | rfl <;> first | rfl | (exfalso; revert h1; decide)
    subst k1
    have ef : fieldsOf 1 = [1, 2] := by decide
    rw [if_neg (by decide), if_pos h1] at hf
    rw [if_pos h1] at hm
    simp only [Bool.and_eq_true, decide_eq_true_eq] at hf
    obtain ⟨⟨⟨⟨f1, f2⟩, f3⟩, f4⟩, rfl⟩ := hf
    have g1 : fieldsB (fixF (setF ⟨1, 0, 0, 0⟩ 1 a) 1) = true := by
      have e : fixF (setF ⟨1, 0, 0, 0⟩ 1 a) 1 = ⟨1, a, 1, 0⟩ := rfl
      rw [e]
      have e2 : fieldsB ⟨1, a, 1, 0⟩ = (decide (0 ≤ a) && decide (a < 16) && decide ((1 : Int) ≤ 1) && decide ((1 : Int) ≤ 255) && decide ((0 : Int) = 0)) := rfl
      rw [e2, decide_eq_true f1, decide_eq_true f2]
      rfl
    rw [ef]
    obtain ⟨t, e, hm⟩ := num_back (z := z) (k := 1) (r := [2]) (o := ⟨1, 0, 0, 0⟩) hm r1 g1
    obtain ⟨t', e', hm'⟩ := num_back (z := z) (k := 2) (r := []) (o := setF ⟨1, 0, 0, 0⟩ 1 a) hm r2 hf0
    exact ⟨t', by rw [e, e', fieldsT]; rfl, hm'⟩
  · have hk1 : k ≠ 1 := fun e => h1 (by rw [e]; decide)
    have hfx : ∀ (o : Op4) (j : Nat), o.kind = k → fixF o j = o := fun o j e => by unfold fixF; rw [if_neg]; rintro ⟨h, -⟩; exact hk1 (e.symm.trans h)
    rw [if_neg (by decide), if_neg h1] at hf
    rw [if_neg h1] at hm
    by_cases h2 : hasOf k = 2
    · have ef : fieldsOf k = [1] := by unfold fieldsOf; rw [if_neg h1, if_pos h2]
      rw [if_pos h2] at hf hm
      simp only [Bool.and_eq_true, decide_eq_true_eq] at hf
      obtain ⟨⟨⟨f1, f2⟩, rfl⟩, rfl⟩ := hf
      rw [ef]
      obtain ⟨t, e, hm⟩ := num_back (z := z) (k := 1) (r := []) (o := ⟨k, 0, 0, 0⟩) hm r1 (by rw [hfx _ _ rfl]; exact hf0)
      exact ⟨t, by rw [e, fieldsT]; rfl, hm⟩
    · rw [if_neg h2] at hf hm
      by_cases h3 : hasOf k = 3
      · have ef : fieldsOf k = [3] := by unfold fieldsOf; rw [if_neg h1, if_neg h2, if_pos h3]
        rw [if_pos h3] at hf hm
        simp only [Bool.and_eq_true, decide_eq_true_eq] at hf
        obtain ⟨rfl, rfl⟩ := hf
        rw [ef]
        obtain ⟨t, e, hm⟩ := num_back (z := z) (k := 3) (r := []) (o := ⟨k, 0, 0, 0⟩) hm r3 (by rw [hfx _ _ rfl]; exact hf0)
        exact ⟨t, by rw [e, fieldsT]; rfl, hm⟩
      · rw [if_neg h3] at hf hm
        by_cases h4 : hasOf k = 4
        · have ef : fieldsOf k = [2] := by unfold fieldsOf; rw [if_neg h1, if_neg h2, if_neg h3, if_pos h4]
          rw [if_pos h4] at hf hm
          simp only [Bool.and_eq_true, decide_eq_true_eq] at hf
          obtain ⟨⟨⟨rfl, f2⟩, f3⟩, rfl⟩ := hf
          rw [ef]
          obtain ⟨t, e, hm⟩ := num_back (z := z) (k := 2) (r := []) (o := ⟨k, 0, 0, 0⟩) hm r2 (by rw [hfx _ _ rfl]; exact hf0)
          exact ⟨t, by rw [e, fieldsT]; rfl, hm⟩
        · have ef : fieldsOf k = [] := by unfold fieldsOf; rw [if_neg h1, if_neg h2, if_neg h3, if_neg h4]
          rw [if_neg h4] at hf hm
          simp only [Bool.and_eq_true, decide_eq_true_eq] at hf
          obtain ⟨⟨rfl, rfl⟩, rfl⟩ := hf
          rw [ef]
          exact ⟨ts, by rw [fieldsT], hm⟩
theorem one_back {z : Nat} {o : Op4} (opn : Nat) (hf : fieldsB o = true) (hr : Rg o) {ts : List (Nat × List UInt8)} {rest : List (List UInt8)} (hm : ts.map (·.2) = numsW o ++ braceW o ++ rest) : ∃ t, oneT z o.kind opn ts = .ok (o, (if o.kind = 10 then opn + 1 else if o.kind = 11 then opn - 1 else opn), t) ∧ t.map (·.2) = rest := by
  rw [List.append_assoc] at hm
  obtain ⟨t, e, hm'⟩ := fields_back (z := z) hf hr hm
  unfold oneT
  rw [e]
  simp only
  unfold braceW at hm'
  by_cases h10 : o.kind = 10
  · rw [if_pos h10] at hm' ⊢
    rw [if_pos h10]
    cases t with
    | nil => cases hm'
    | cons c t =>
      obtain ⟨a, w⟩ := c
      simp only [List.map_cons, List.cons_append, List.nil_append, List.cons.injEq] at hm'
      obtain ⟨rfl, hm'⟩ := hm'
      exact ⟨t, by simp, hm'⟩
  · rw [if_neg h10] at hm' ⊢
    rw [if_neg h10]
    by_cases h11 : o.kind = 11
    · rw [if_pos h11, if_pos h11]; exact ⟨t, rfl, hm'⟩
    · rw [if_neg h11, if_neg h11]; exact ⟨t, rfl, hm'⟩
theorem par_back (z : Nat) : ∀ (xs : List Op4) (ops : List Op4) (opn : Nat) (ts : List (Nat × List UInt8)), ts.map (·.2) = xs.flatMap wdsO → opG xs opn = some 0 → (∀ o ∈ xs, Rg o) → ops.length + xs.length ≤ 256 → parT z ts ops opn = (ops ++ xs, 0, 0)
  | [], ops, opn, ts, hm, ho, _, _ => by
    cases ts with
    | cons c t => cases hm
    | nil =>
      rw [opG] at ho
      injection ho with ho
      subst ho
      rw [parT_nil, if_neg (by omega), List.append_nil]
  | o :: r, ops, opn, ts, hm, ho, hr, hl => by
    rw [List.length_cons] at hl
    cases ts with
    | nil => cases hm
    | cons c t =>
      obtain ⟨a, w⟩ := c
      rw [List.flatMap_cons] at hm
      unfold wdsO at hm
      simp only [List.map_cons, List.cons_append, List.cons.injEq] at hm
      obtain ⟨rfl, hm⟩ := hm
      rw [opG] at ho
      by_cases hf : fieldsB o = false
      · rw [if_pos hf] at ho; cases ho
      · rw [if_neg hf] at ho
        have hf : fieldsB o = true := by simpa using hf
        have hk := fieldsB_kind hf
        obtain ⟨-, -, w3⟩ := word_facts hk
        have hrr := fun x hx => hr x (List.mem_cons_of_mem _ hx)
        obtain ⟨u, e, hu⟩ := one_back (z := z) opn hf (hr o (List.mem_cons_self ..)) hm
        have hb : beginsG o.kind ops.length opn = 0 := by
          unfold beginsG
          rw [if_neg (by omega), if_neg, if_neg]
          · rintro ⟨h, h4⟩; rw [if_pos h, if_pos h4] at ho; cases ho
          · rintro (h | ⟨h, h0⟩)
            · omega
            · rw [if_neg (by rw [h]; decide), if_pos h, if_pos h0] at ho; cases ho
        rw [parT_ok (by rw [w3]; exact hb) (by rw [w3]; exact e)]
        simp only
        rw [par_back z r (ops ++ [o]) _ u hu ?_ hrr (by simp; omega), List.append_assoc]
        · rfl
        · by_cases h10 : o.kind = 10
          · rw [if_pos h10] at ho ⊢
            split at ho
            · cases ho
            · exact ho
          · rw [if_neg h10] at ho ⊢
            by_cases h11 : o.kind = 11
            · rw [if_pos h11] at ho ⊢
              split at ho
              · cases ho
              · exact ho
            · rw [if_neg h11] at ho ⊢; exact ho
/-- What is printed is read back. -/
theorem print_back {xs : List Op4} (h : (printB xs).2 = 0) (hr : ∀ o ∈ xs, Rg o) : parseB (printB xs).1 = (xs, 0, 0) := by
  unfold printB at h ⊢
  by_cases hc : (checkB xs).2 = 0
  · rw [if_pos hc] at h ⊢
    by_cases hl : 4096 < (textB xs).length
    · rw [if_pos hl] at h; cases h
    · rw [if_neg hl]
      obtain ⟨h1, h2⟩ := checkB_op.1 hc
      have hk : ∀ o ∈ xs, 1 ≤ o.kind ∧ o.kind ≤ 11 := fun o ho => fieldsB_kind (checkG_all _ _ _ (checkB_zero hc).2 o ho)
      rw [parseB_par _ (by show (textB xs).toArray.size ≤ 4096; simpa using hl)]
      exact par_back _ xs [] 0 _ (tokW_textB xs hk) h2 hr (by simpa using h1)
  · rw [if_neg hc] at h; exact absurd h hc
end CD
end Go.Proofs.YtnehiooioodkfaaDoor

/-
  CODE: the greatest program, the longest text, the most steps (plain).
-/
set_option linter.unusedVariables false
set_option linter.unusedSimpArgs false
namespace Go.Proofs.YtnehiooioodkfaaDoor
open Go Go.RowKit
namespace CD
def popO : Op4 := ⟨4, 0, 0, 0⟩
def popB : List UInt8 := [112, 111, 112, 32]
def popsB (n : Nat) : List UInt8 := (List.replicate n popB).flatten
theorem popsB_succ (n : Nat) : popsB (n + 1) = [112, 111, 112] ++ 32 :: popsB n := by
  unfold popsB
  rw [List.replicate_succ, List.flatten_cons]
  rfl
theorem popsB_next (n : Nat) : popsB (n + 1) = popsB n ++ popB := by
  unfold popsB
  rw [List.replicate_succ', List.flatten_append]
  simp
theorem popsB_len (n : Nat) : (popsB n).length = 4 * n := by
  induction n with
  | zero => rfl
  | succ n ih => rw [popsB_next, List.length_append, ih]; rfl
theorem opG_pops (n op : Nat) : opG (List.replicate n popO) op = some op := by
  induction n with
  | zero => rfl
  | succ n ih =>
    rw [List.replicate_succ, opG, if_neg (by decide), if_neg (by decide), if_neg (by decide)]
    exact ih
theorem check_pops {n : Nat} (h : n ≤ 256) : (checkB (List.replicate n popO)).2 = 0 := checkB_op.2 ⟨by simpa using h, opG_pops n 0⟩
theorem check_many : checkB (List.replicate 257 popO) = (256, 4) := by
  unfold checkB
  rw [if_pos (by rw [List.length_replicate]; decide)]
theorem kindC_pop : kindC [112, 111, 112] = 4 := (word_facts (k := 4) (by decide)).2.2
theorem one_pop (z opn : Nat) (ts : List (Nat × List UInt8)) : oneT z 4 opn ts = .ok (popO, opn, ts) := by
  unfold oneT
  rw [show fieldsOf 4 = [] by decide, fieldsT]
  rfl
theorem tok_pops (n k : Nat) : tokG k [] (popsB (n + 1)) = (k, [112, 111, 112]) :: tokG (k + 4) [] (popsB n) := by
  rw [popsB_succ, tok_one k (by decide) (by decide) (fun c t h => by injection h with h1 h2; subst h1; decide), tok_blank _ (by decide)]
  rfl
theorem par_pops (z : Nat) : ∀ (n k : Nat) (ops : List Op4), ops.length ≤ 256 → (ops.length + n ≤ 256 → parT z (tokG k [] (popsB n)) ops 0 = (ops ++ List.replicate n popO, 0, 0)) ∧ (256 < ops.length + n → parT z (tokG k [] (popsB n)) ops 0 = ([], ((k + 4 * (256 - ops.length) : Nat) : Int), 4))
  | 0, k, ops, hl => by
    have e : tokG k [] (popsB 0) = [] := rfl
    rw [e]
    refine ⟨fun _ => by rw [parT_nil, if_neg (by omega)]; simp, fun h => by omega⟩
  | n + 1, k, ops, hl => by
    rw [tok_pops]
    by_cases h6 : ops.length = 256
    · refine ⟨fun h => by omega, fun _ => ?_⟩
      have hb : beginsG (kindC [112, 111, 112]) ops.length 0 = 4 := by unfold beginsG; rw [if_pos h6]
      rw [parT_wrong (by rw [hb]; decide), hb, h6]
      simp
    · have hb : beginsG (kindC [112, 111, 112]) ops.length 0 = 0 := by
        rw [kindC_pop]
        unfold beginsG
        rw [if_neg h6]
        decide
      obtain ⟨h1, h2⟩ := par_pops z n (k + 4) (ops ++ [popO]) (by simp; omega)
      rw [parT_ok hb (x := (popO, 0, tokG (k + 4) [] (popsB n))) (by rw [kindC_pop]; exact one_pop _ _ _)]
      simp only [List.length_append, List.length_cons, List.length_nil] at h1 h2
      refine ⟨fun h => ?_, fun h => ?_⟩
      · rw [h1 (by omega), List.replicate_succ]; simp
      · rw [h2 (by omega)]
        congr 2
        omega
theorem parse_pops {n : Nat} (h : n ≤ 256) : parseB ⟨(popsB n).toArray⟩ = (List.replicate n popO, 0, 0) := by
  have hl := popsB_len n
  rw [parseB_par _ (by show (popsB n).toArray.size ≤ 4096; simp; omega)]
  exact (par_pops _ n 0 [] (by simp)).1 (by simpa using h)
theorem parse_many : parseB ⟨(popsB 257).toArray⟩ = ([], 1024, 4) := by
  have hl := popsB_len 257
  rw [parseB_par _ (by show (popsB 257).toArray.size ≤ 4096; simp; omega)]
  exact (par_pops _ 257 0 [] (by simp)).2 (by simp)
theorem parse_blanks {n : Nat} (h : n ≤ 4096) : parseB ⟨(List.replicate n (32 : UInt8)).toArray⟩ = ([], 0, 0) := by
  rw [parseB_par _ (by show (List.replicate n (32 : UInt8)).toArray.size ≤ 4096; simpa using h)]
  have e : tokG 0 [] (List.replicate n (32 : UInt8)) = [] := by
    have := tok_blanks (List.replicate n (32 : UInt8)) [] 0 (fun c hc => by rw [(List.mem_replicate.1 hc).2]; decide)
    rw [List.append_nil] at this
    rw [this]
    rfl
  show parT _ (tokG 0 [] (List.replicate n (32 : UInt8))) [] 0 = _
  rw [e, parT_nil, if_neg (by omega)]
theorem parse_long : parseB ⟨(List.replicate 4097 (32 : UInt8)).toArray⟩ = ([], 0, 5) := by
  unfold parseB
  rw [if_pos (by show 4096 < (List.replicate 4097 (32 : UInt8)).toArray.size; rw [List.size_toArray, List.length_replicate]; decide)]
/-! ### The most steps -/
def lim3 : List Op4 := [⟨10, 0, 2, 0⟩, ⟨5, 0, 2047, 0⟩, ⟨11, 0, 0, 0⟩]
def lim4 : List Op4 := [⟨10, 0, 2, 0⟩, ⟨5, 0, 2047, 0⟩, ⟨11, 0, 0, 0⟩, ⟨4, 0, 0, 0⟩]
def lim5 : List Op4 := [⟨10, 0, 2, 0⟩, ⟨5, 0, 2047, 0⟩, ⟨11, 0, 0, 0⟩, ⟨4, 0, 0, 0⟩, ⟨8, 0, 0, 0⟩]
def addO : Op4 := ⟨8, 0, 0, 0⟩
theorem whole_lim (r R : List Op4) (f : Nat) (h : Whole f r R) (hf : 2 ≤ f) : Whole (f + 1) (⟨10, 0, 2, 0⟩ :: ([⟨5, 0, 2047, 0⟩] ++ ⟨11, 0, 0, 0⟩ :: r)) (List.replicate 4094 work1 ++ R) := by
  refine .inr (.inl ⟨⟨10, 0, 2, 0⟩, [⟨5, 0, 2047, 0⟩], ⟨11, 0, 0, 0⟩, r, List.replicate 2047 work1 ++ [], R, rfl, ?_, rfl, rfl, ?_, h⟩)
  · rw [List.append_nil]
    show _ = (List.replicate 2 (List.replicate 2047 work1)).flatten ++ R
    rw [show (List.replicate 2 (List.replicate 2047 work1)).flatten = List.replicate 2047 work1 ++ (List.replicate 2047 work1 ++ []) from rfl, List.append_nil, List.replicate_append_replicate]
  · obtain ⟨g, rfl⟩ : ∃ g, f = g + 1 := ⟨f - 1, by omega⟩
    refine .inr (.inr (.inl ⟨⟨5, 0, 2047, 0⟩, [], [], rfl, rfl, rfl, ?_⟩))
    cases g with
    | zero => exact ⟨rfl, rfl⟩
    | succ g => exact .inl ⟨rfl, rfl⟩
theorem runG_works : ∀ (n k : Nat) (r : List Op4), k + n ≤ 4096 → runG (List.replicate n work1 ++ r) k = comb (List.replicate n work1) (runG r (k + n))
  | 0, k, r, _ => by simp [comb]
  | n + 1, k, r, h => by
    rw [List.replicate_succ, List.cons_append, runG_one _ _ _ (by omega) (by decide), runG_works n (k + 1) r (by omega), comb_comb, show k + 1 + n = k + (n + 1) by omega]
    rfl
theorem nilW (f : Nat) : Whole f [] [] := by
  cases f with
  | zero => exact ⟨rfl, rfl⟩
  | succ f => exact .inl ⟨rfl, rfl⟩
theorem oneW (f : Nat) (o : Op4) (r R : List Op4) (h10 : o.kind ≠ 10) (h11 : o.kind ≠ 11) (h5 : o.kind ≠ 5) (h : Whole f r R) : Whole (f + 1) (o :: r) (o :: R) := .inr (.inr (.inr ⟨o, r, R, rfl, h10, h11, h5, rfl, h⟩))
theorem lim_seg3 : segB lim3 = List.replicate 4094 work1 := by
  have := (whole_of_check (xs := lim3) (by decide)).uniq (whole_lim [] [] 2 (nilW 2) (by omega))
  rw [List.append_nil] at this
  exact this
theorem lim_seg4 : segB lim4 = List.replicate 4094 work1 ++ [popO] :=
  (whole_of_check (xs := lim4) (by decide)).uniq (whole_lim [popO] [popO] 2 (oneW 1 popO [] [] (by decide) (by decide) (by decide) (nilW 1)) (by omega))
theorem lim_seg5 : segB lim5 = List.replicate 4094 work1 ++ [popO, addO] :=
  (whole_of_check (xs := lim5) (by decide)).uniq (whole_lim [popO, addO] [popO, addO] 2 (oneW 1 popO _ _ (by decide) (by decide) (by decide) (oneW 0 addO [] [] (by decide) (by decide) (by decide) (nilW 0))) (by omega))
theorem lim_run3 : runG (segB lim3) 0 = (List.replicate 4094 work1, false, true) := by
  have := runG_works 4094 0 [] (by omega)
  rw [List.append_nil] at this
  rw [lim_seg3, this, runG]
  show (List.replicate 4094 work1 ++ [], false, true) = _
  rw [List.append_nil]
theorem lim_run4 : runG (segB lim4) 0 = (List.replicate 4094 work1 ++ [popO], false, true) := by
  rw [lim_seg4, runG_works 4094 0 [popO] (by omega), runG_one _ _ _ (by decide) (by decide), runG]
  rfl
theorem lim_run5 : runG (segB lim5) 0 = (List.replicate 4094 work1 ++ [popO, addO], false, true) := by
  rw [lim_seg5, runG_works 4094 0 [popO, addO] (by omega), runG_one _ _ _ (by decide) (by decide), runG_one _ _ _ (by decide) (by decide), runG]
  rfl
theorem lim_list3 : (listB lim3).2 = 0 ∧ (listB lim3).1.length = 4095 := by
  rw [listB_res (by decide), lim_run3]
  unfold res
  rw [if_pos rfl, if_neg (by rw [List.length_replicate]; decide)]
  exact ⟨rfl, by rw [List.length_append, List.length_replicate]; rfl⟩
theorem lim_list4 : (listB lim4).2 = 0 ∧ (listB lim4).1.length = 4096 := by
  rw [listB_res (by decide), lim_run4]
  unfold res
  rw [if_pos rfl, if_neg (by rw [List.length_append, List.length_replicate]; decide)]
  exact ⟨rfl, by rw [List.length_append, List.length_append, List.length_replicate]; rfl⟩
theorem lim_list5 : listB lim5 = ([], 5) := by
  rw [listB_res (by decide), lim_run5]
  unfold res
  rw [if_pos rfl, if_pos (by rw [List.length_append, List.length_replicate]; rfl)]
theorem lim_count3 : countB lim3 = (4095, 0) := by rw [count_len lim_list3.1, lim_list3.2]; rfl
theorem lim_count4 : countB lim4 = (4096, 0) := by rw [count_len lim_list4.1, lim_list4.2]; rfl
theorem lim_count5 : countB lim5 = (0, 5) := by
  have h : allE lim5 = (List.replicate 4094 work1 ++ [popO, addO], false, true) := lim_run5
  unfold countB walkN
  rw [if_pos (by decide), h, if_pos rfl, if_pos (by rw [List.length_append, List.length_replicate]; rfl)]
end CD
end Go.Proofs.YtnehiooioodkfaaDoor
