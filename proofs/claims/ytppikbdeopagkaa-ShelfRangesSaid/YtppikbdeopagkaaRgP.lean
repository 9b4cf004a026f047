/-
  LAW 1: ShelfRanges: plain words: the rows that are laid; what is taken of Levels, whatever stands in them.
-/
import Derived.Test.YtppikbdeopagkaaEIntLIN
import Derived.Test.YtppikbdeopagkaaEIntQIN
import Derived.Test.YtppikbdeopagkaaTIIIN
import Derived.Test.YtppikbdeopagkaaTIIP
import Derived.Test.YtppikbdeopagkaaST
import Derived.Test.YtppikbdeopagkaaWithin
set_option linter.unusedVariables false
set_option linter.unusedSimpArgs false
namespace Go.Proofs.Ytppikbdeopagkaa
open Go Go.RowKit
namespace RG

/-- Each number with its place. -/
def idx (xs : List Int) : List (Int × Int) := xs.mapIdx fun i x => ((i : Int), x)
theorem idx_length (xs : List Int) : (idx xs).length = xs.length := by simp [idx]
theorem idx_at (xs : List Int) (k : Nat) (r : Int × Int) (h : (idx xs)[k]? = some r) : ∃ x, xs[k]? = some x ∧ r = ((k : Int), x) := by
  simp only [idx, List.getElem?_mapIdx, Option.map_eq_some_iff] at h
  obtain ⟨x, h1, h2⟩ := h
  exact ⟨x, h1, h2.symm⟩
theorem idx_snoc (xs : List Int) (x : Int) : idx (xs ++ [x]) = idx xs ++ [((xs.length : Int), x)] := by
  simp [idx, List.mapIdx_append]
theorem idx_lt (xs : List Int) : ∀ r ∈ idx xs, 0 ≤ r.1 ∧ r.1 < (xs.length : Int) := fun r hr => by
  obtain ⟨k, hk⟩ := List.mem_iff_getElem?.1 hr
  obtain ⟨x, hx, rfl⟩ := idx_at xs k r hk
  have := (List.getElem?_eq_some_iff.1 hx).1
  exact ⟨by simp, by simpa using this⟩
theorem idx_rise (xs : List Int) : TII.Rise (idx xs) := List.pairwise_iff_getElem.2 fun i j hi hj hij => by
  obtain ⟨x, -, hx⟩ := idx_at xs i _ (List.getElem?_eq_getElem hi)
  obtain ⟨y, -, hy⟩ := idx_at xs j _ (List.getElem?_eq_getElem hj)
  rw [hx, hy]
  simpa using hij
theorem posN_end (k : Int) : ∀ (rows : List (Int × Int)), (∀ r ∈ rows, r.1 < k) → TII.posN k rows = rows.length
  | [], _ => rfl
  | r :: rs, h => by
    unfold TII.posN
    rw [if_pos (h r List.mem_cons_self), posN_end k rs fun x hx => h x (List.mem_cons_of_mem _ hx)]
    rfl
theorem set_idx (xs : List Int) (x : Int) : TII.has (idx xs) (xs.length : Int) = false ∧ TII.setT (idx xs) (xs.length : Int) x = idx (xs ++ [x]) := by
  have hp := posN_end (xs.length : Int) (idx xs) fun r hr => (idx_lt xs r hr).2
  have hf : TII.has (idx xs) (xs.length : Int) = false := by
    unfold TII.has TII.foundB
    rw [hp, List.getElem?_eq_none (Nat.le_refl _)]
  refine ⟨hf, ?_⟩
  unfold TII.setT
  rw [if_neg (by rw [hf]; simp), hp, idx_snoc]
  simp [TII.insR]
theorem targs_idx (xs : List Int) (k : Nat) (a : Array Value) (h : (TII.targs (idx xs))[k]? = some a) : ∃ x, xs[k]? = some x ∧ a = #[.int .i64 (k : Int), .int .i64 x] := by
  obtain ⟨r, hr, rfl⟩ := TII.targs_at (idx xs) k a h
  obtain ⟨x, hx, rfl⟩ := idx_at xs k r hr
  exact ⟨x, hx, rfl⟩
theorem targs_idx_length (xs : List Int) : (TII.targs (idx xs)).length = xs.length := by rw [TII.targs_length, idx_length]

/-- Five levels, all on the third. -/
def on3 (xs : List Int) : List (List Int) := [[], [], xs, [], []]
theorem lpre_on3 (xs : List Int) : EInt.lpre (on3 xs) 0 = xs.map fun x => (3, x) := by
  simp [EInt.lpre, on3, List.range_succ]
theorem largs_on3 (xs : List Int) : EInt.largs (on3 xs) = xs.map fun x => #[.int .i64 3, .int .i64 x] := by
  simp [EInt.largs, lpre_on3]
theorem largs_at3 (xs : List Int) (k : Nat) (a : Array Value) (h : (EInt.largs (on3 xs))[k]? = some a) : ∃ x, xs[k]? = some x ∧ a = #[.int .i64 3, .int .i64 x] := by
  rw [largs_on3, List.getElem?_map, Option.map_eq_some_iff] at h
  obtain ⟨x, h1, h2⟩ := h
  exact ⟨x, h1, h2.symm⟩
theorem largs_len3 (xs : List Int) : (EInt.largs (on3 xs)).length = xs.length := by rw [largs_on3, List.length_map]
theorem on3_small (xs : List Int) (h : xs.length ≤ 1000000) : ∀ l ∈ on3 xs, l.length ≤ 1000000 := fun l hl => by
  by_cases e : l = []
  · rw [e]; exact Nat.zero_le _
  · have e2 : l = xs := by simpa [on3, e] using hl
    rw [e2]; exact h

def LL (w : World) (ow : Ow) (p : List Nat) (g : Nat) (v : Value) (qs : List (List Int)) (e : Ending) (w' : World) : Prop := ∃ ow', e = .returned v ∧ EInt.L w' ow' p g 0 qs ∧ Turn p w ow w' ow'
/-- Five levels of at most M each. -/
def Five (qs : List (List Int)) (M : Nat) : Prop := qs.length = 5 ∧ ∀ l ∈ qs, l.length ≤ M
theorem Five.on3 (xs : List Int) (h : xs.length ≤ 1000000) (hl : xs.length ≤ 100) : Five (RG.on3 xs) 100 := ⟨rfl, fun l hl2 => by
  by_cases e : l = []
  · rw [e]; exact Nat.zero_le _
  · have e2 : l = xs := by simpa [RG.on3, e] using hl2
    rw [e2]; exact hl⟩
theorem takeAny {qs : List (List Int)} {M : Nat} (h : Five qs M) (hM : M ≤ 1000000) :
    ∃ (v : Value) (qs' : List (List Int)), Five qs' M ∧ ∀ w ow p g, EInt.L w ow p g 0 qs → Calls Try.prog 67 #[.pointer (some ⟨g, 0, none⟩)] w (LL w ow p g v qs') := by
  obtain ⟨h5, hb⟩ := h
  have hn : ∀ xs ∈ qs, xs.length ≤ 1099511627776 := fun xs hx => by have := hb xs hx; omega
  have hl : qs.length ≤ 32 := by omega
  rcases SH.hi_cases qs qs.length (Nat.le_refl _) with ⟨i, x, xs, h1, h2, h3, -⟩ | ⟨h1, -⟩
  · refine ⟨_, qs.set i xs, ⟨by rw [List.length_set]; exact h5, fun l hl2 => ?_⟩, fun w ow p g hL => EInt.l_take_some w ow p g 0 qs i x xs hL hn hl h1 h3⟩
    rcases List.mem_or_eq_of_mem_set hl2 with hl2 | rfl
    · exact hb l hl2
    · have := hb _ (List.mem_of_getElem? h3)
      simp at this; omega
  · refine ⟨.tuple #[.int .i64 0, .int .i64 0, .bool false], qs, ⟨h5, hb⟩, fun w ow p g hL => (EInt.l_take_none w ow p g 0 qs hL hn hl h1).mono ?_⟩
    rintro e w' ⟨rfl, bd⟩
    exact ⟨ow, rfl, hL.new_ (bd.nw ow), (bd.nw ow).turn p⟩
theorem put4 {qs : List (List Int)} {M : Nat} (h : Five qs M) (hM : M ≤ 1000000) :
    ∃ (qs' : List (List Int)), Five qs' (M + 1) ∧ ∀ w ow p g, EInt.L w ow p g 0 qs → Calls Try.prog 66 #[.pointer (some ⟨g, 0, none⟩), .int .i64 4, .int .i64 9] w (LL w ow p g (.int .i64 0) qs') := by
  obtain ⟨h5, hb⟩ := h
  obtain ⟨l, hl⟩ : ∃ l, qs[3]? = some l := ⟨_, List.getElem?_eq_getElem (by omega)⟩
  have hbl := hb l (List.mem_of_getElem? hl)
  refine ⟨qs.set 3 (l ++ [9]), ⟨by rw [List.length_set]; exact h5, fun l' hl2 => ?_⟩, fun w ow p g hL => EInt.l_put w ow p g 0 qs 4 3 l 9 hL (by omega) rfl hl (by omega)⟩
  rcases List.mem_or_eq_of_mem_set hl2 with hl2 | rfl
  · have := hb l' hl2; omega
  · simp; exact hbl
theorem put3 (xs : List Int) (x : Int) (hn : xs.length ≤ 1000000) (w : World) (ow : Ow) (p : List Nat) (g : Nat) (hL : EInt.L w ow p g 0 (on3 xs)) :
    Calls Try.prog 66 #[.pointer (some ⟨g, 0, none⟩), .int .i64 3, .int .i64 x] w (LL w ow p g (.int .i64 0) (on3 (xs ++ [x]))) :=
  EInt.l_put w ow p g 0 (on3 xs) 3 2 xs x hL (by simp [on3]) rfl rfl (by omega)

/-- A cut around a statement that leaves the frame but for what is deferred. -/
theorem cut_defers {P : Program} {s : Code} {K : Act → World → Prop} {Q' : Exit → Act → World → Prop} {l : Array Value} {ds0 : List Deferred} {w : World} (R : List Deferred → World → Prop)
    (rest : ∀ ds w', R ds w' → K ⟨l, ds⟩ w') (first : ∀ K' : Act → World → Prop, (∀ ds w', R ds w' → K' ⟨l, ds⟩ w') → s.wp P (Exit.then K' Q') ⟨l, ds0⟩ w) : s.wp P (Exit.then K Q') ⟨l, ds0⟩ w := by
  refine wp_mono (first (fun a' w' => ∃ ds, a' = ⟨l, ds⟩ ∧ R ds w') fun ds w' h => ⟨ds, rfl, h⟩) ?_
  intro e a' w' hq
  cases e with
  | normal => obtain ⟨ds, rfl, h⟩ := hq; exact rest _ _ h
  | exit id => exact hq
  | goto l => exact hq
  | ret => exact hq
  | panic ch => exact hq
  | outgrown => exact hq
end RG
end Go.Proofs.Ytppikbdeopagkaa
