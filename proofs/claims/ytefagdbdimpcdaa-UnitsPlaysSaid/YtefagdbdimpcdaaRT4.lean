/-
  KEELREF5: who holds.
-/
import Derived.Test.YtefagdbdimpcdaaRT2
import Derived.Test.YtefagdbdimpcdaaU8
set_option linter.unusedVariables false
set_option linter.unusedSimpArgs false
namespace Go.Proofs.Ytefagdbdimpcdaa
open Go Go.RowKit

namespace RT5
open UN
/-- The least job above 'last' that holds of 'res'. -/
def Bst (ts : List Tk) (res last b : Int) : Prop :=
  (b = -1 ∧ ∀ t ∈ ts, t.res = res → t.job ≤ last) ∨ (last < b ∧ 0 ≤ b ∧ (∃ t ∈ ts, t.res = res ∧ t.job = b) ∧ ∀ t ∈ ts, t.res = res → last < t.job → b ≤ t.job)
theorem Bst.yes {ts : List Tk} {res last b : Int} {x : Tk} (h : Bst ts res last b) (hx : 0 ≤ x.job) (h1 : x.res = res) (h2 : last < x.job) (h3 : b < 0 ∨ x.job < b) : Bst (ts ++ [x]) res last x.job := by
  refine .inr ⟨h2, hx, ⟨x, by simp, h1, rfl⟩, fun t ht hr hj => ?_⟩
  rcases List.mem_append.1 ht with ht | ht
  · rcases h with ⟨rfl, h4⟩ | ⟨h4, h5, -, h6⟩
    · have := h4 t ht hr; omega
    · have := h6 t ht hr hj; omega
  · rw [List.mem_singleton.1 ht]; exact Int.le_refl _
theorem Bst.no {ts : List Tk} {res last b : Int} {x : Tk} (h : Bst ts res last b) (h3 : x.res = res → last < x.job → 0 ≤ b ∧ b ≤ x.job) : Bst (ts ++ [x]) res last b := by
  rcases h with ⟨rfl, h4⟩ | ⟨h4, h5, ⟨t, h7, h8⟩, h6⟩
  · refine .inl ⟨rfl, fun t ht hr => ?_⟩
    rcases List.mem_append.1 ht with ht | ht
    · exact h4 t ht hr
    · rw [List.mem_singleton.1 ht] at hr ⊢
      apply Classical.byContradiction
      intro hc
      have := h3 hr (by omega)
      omega
  · refine .inr ⟨h4, h5, ⟨t, by simp [h7], h8⟩, fun t ht hr hj => ?_⟩
    rcases List.mem_append.1 ht with ht | ht
    · exact h6 t ht hr hj
    · rw [List.mem_singleton.1 ht] at hr hj ⊢
      exact (h3 hr hj).2
theorem held_mem {T : List Tk} {job res : Int} (h : 0 < heldT T job res) : ∃ t ∈ T, t.job = job ∧ t.res = res := by
  induction T with
  | nil => exact absurd h (Int.lt_irrefl 0)
  | cons t T ih =>
    unfold heldT at h ih
    rw [locksOf_cons] at h
    by_cases e : t.job = job
    · rw [if_pos e, heldL_cons] at h
      by_cases e2 : t.res = res
      · exact ⟨t, List.mem_cons_self, e, e2⟩
      · have h : 0 < (if t.res = res then t.n else 0) + heldL (locksOf T job) res := h
        rw [if_neg e2, Int.zero_add] at h
        obtain ⟨x, h1, h2⟩ := ih h
        exact ⟨x, List.mem_cons_of_mem _ h1, h2⟩
    · rw [if_neg e] at h
      obtain ⟨x, h1, h2⟩ := ih h
      exact ⟨x, List.mem_cons_of_mem _ h1, h2⟩
theorem filter_le {α : Type} (p q : α → Bool) : ∀ l : List α, (∀ x ∈ l, p x = true → q x = true) → (l.filter p).length ≤ (l.filter q).length
  | [], _ => Nat.le_refl _
  | x :: l, h => by
    have ih := filter_le p q l fun y hy => h y (List.mem_cons_of_mem _ hy)
    have hx := h x List.mem_cons_self
    by_cases hp : p x = true
    · rw [List.filter_cons_of_pos hp, List.filter_cons_of_pos (hx hp), List.length_cons, List.length_cons]; omega
    · rw [List.filter_cons_of_neg hp]
      by_cases hq : q x = true
      · rw [List.filter_cons_of_pos hq, List.length_cons]; omega
      · rw [List.filter_cons_of_neg hq]; exact ih
theorem filter_lt {α : Type} (p q : α → Bool) : ∀ l : List α, (∀ x ∈ l, p x = true → q x = true) → (∃ x ∈ l, q x = true ∧ ¬ p x = true) → (l.filter p).length < (l.filter q).length
  | [], _, h => by obtain ⟨x, hx, -⟩ := h; cases hx
  | x :: l, h, he => by
    have hx := h x List.mem_cons_self
    have hl := fun y hy => h y (List.mem_cons_of_mem x hy)
    by_cases hp : p x = true
    · rw [List.filter_cons_of_pos hp, List.filter_cons_of_pos (hx hp), List.length_cons, List.length_cons]
      obtain ⟨y, hy, h1, h2⟩ := he
      rcases List.mem_cons.1 hy with rfl | hy
      · exact absurd hp h2
      · have := filter_lt p q l hl ⟨y, hy, h1, h2⟩
        omega
    · rw [List.filter_cons_of_neg hp]
      by_cases hq : q x = true
      · have := filter_le p q l hl
        rw [List.filter_cons_of_pos hq, List.length_cons]; omega
      · rw [List.filter_cons_of_neg hq]
        obtain ⟨y, hy, h1, h2⟩ := he
        rcases List.mem_cons.1 hy with rfl | hy
        · exact absurd h1 hq
        · exact filter_lt p q l hl ⟨y, hy, h1, h2⟩
/-- How many locks are left. -/
def above (T : List Tk) (res last : Int) : Nat := (T.filter fun t => decide (t.res = res ∧ last < t.job)).length
theorem above_lt {T : List Tk} {res last b : Int} (h : last < b) (he : ∃ t ∈ T, t.res = res ∧ t.job = b) : above T res b < above T res last := by
  obtain ⟨t, ht, h1, h2⟩ := he
  refine filter_lt _ _ T (fun x _ hx => ?_) ⟨t, ht, ?_, ?_⟩
  · have := of_decide_eq_true hx
    exact decide_eq_true ⟨this.1, by omega⟩
  · exact decide_eq_true ⟨h1, by omega⟩
  · intro hh
    have := of_decide_eq_true hh
    omega
/-- What has been found so far. -/
def Found (T : List Tk) (res last : Int) (hs : List Hd) : Prop :=
  -1 ≤ last ∧ hs.Pairwise (fun a b => a.job < b.job) ∧ (∀ h, h ∈ hs ↔ h.n = heldT T h.job res ∧ 0 < h.n ∧ h.job ≤ last) ∧ hs.length + above T res last ≤ T.length
theorem found0 {U C : List Int} {T : List Tk} (hi : Inv U C T) (res : Int) : Found T res (-1) [] := by
  refine ⟨Int.le_refl _, List.Pairwise.nil, fun h => ⟨fun hh => by (cases hh), fun ⟨h1, h2, h3⟩ => ?_⟩, ?_⟩
  · obtain ⟨t, ht, e1, -⟩ := held_mem (T := T) (job := h.job) (res := res) (by omega)
    have := (hi.tb t ht).1
    omega
  · rw [List.length_nil, Nat.zero_add]; exact List.length_filter_le _ _
theorem Found.next {U C : List Int} {T : List Tk} {res last b : Int} {hs : List Hd} (hi : Inv U C T) (h : Found T res last hs) (h1 : last < b) (h2 : 0 ≤ b) (h3 : ∃ t ∈ T, t.res = res ∧ t.job = b) (h4 : ∀ t ∈ T, t.res = res → last < t.job → b ≤ t.job) : Found T res b (hs ++ [⟨b, heldT T b res⟩]) := by
  obtain ⟨f1, f2, f3, f4⟩ := h
  have hal := above_lt h1 h3
  obtain ⟨t, ht, e1, e2⟩ := h3
  have hp := held_pos T b t hi.pos ht e2
  rw [e1] at hp
  have htn := hi.pos t ht
  refine ⟨by omega, ?_, fun x => ?_, ?_⟩
  · rw [List.pairwise_append]
    refine ⟨f2, by simp, fun a ha c hc => ?_⟩
    rw [List.mem_singleton.1 hc]
    have := ((f3 a).1 ha).2.2
    show a.job < b
    omega
  · rw [List.mem_append, f3 x, List.mem_singleton]
    constructor
    · rintro (⟨g1, g2, g3⟩ | rfl)
      · exact ⟨g1, g2, by omega⟩
      · exact ⟨rfl, by show 0 < heldT T b res; omega, Int.le_refl _⟩
    · rintro ⟨g1, g2, g3⟩
      by_cases hc : x.job ≤ last
      · exact .inl ⟨g1, g2, hc⟩
      · obtain ⟨y, hy, j1, j2⟩ := held_mem (T := T) (job := x.job) (res := res) (by omega)
        have := h4 y hy j2 (by omega)
        have hj : x.job = b := by omega
        refine .inr ?_
        cases x
        simp only at hj g1
        subst hj
        rw [g1]
  · rw [List.length_append, List.length_singleton]; omega
theorem Found.last {T : List Tk} {res last : Int} {hs : List Hd} (h : Found T res last hs) (h4 : ∀ t ∈ T, t.res = res → t.job ≤ last) : IsH T res hs := by
  obtain ⟨f1, f2, f3, f4⟩ := h
  refine ⟨f2, fun x => ?_⟩
  rw [f3 x]
  constructor
  · rintro ⟨g1, g2, -⟩; exact ⟨g1, g2⟩
  · rintro ⟨g1, g2⟩
    obtain ⟨y, hy, j1, j2⟩ := held_mem (T := T) (job := x.job) (res := res) (by omega)
    have := h4 y hy j2
    exact ⟨g1, g2, by omega⟩

def hoR (w : World) (T : List Tk) (res : Int) (gn : Nat) (v la : Value) (wr : World) : Prop :=
  ∃ (hs : List Hd) (last : Int) (OW : Ow), gn = above T res last ∧ la = .int .i64 last ∧ Found T res last hs ∧ Row wr OW [1] 31 2 v hs.length (EHd.css hs) ∧ Turn [1] w ow0 wr OW

set_option maxRecDepth 100000 in
set_option maxHeartbeats 4000000 in
theorem rholders (w : World) (ow : Ow) (p q : List Nat) (g : Nat) (U C : List Int) (T : List Tk) (h : RT w ow p g U C T) (res : Int) :
    Calls Try.prog 72 #[.pointer (some ⟨g, 0, none⟩), .int .i64 res] w fun e w' => ∃ v' ow' hs, e = .returned v' ∧ IsH T res hs ∧ hs.length ≤ 4080 ∧ Row w' ow' q 31 2 v' hs.length (EHd.css hs) ∧ New w ow w' ow' := by
  have hl := h.1.len
  have H := Lib.hid h
  obtain ⟨A, c, c1, lg, hat⟩ := h.at_
  have C1 := Lib.hid c1
  have Hat := Lib.hid hat
  clear h hat
  go_enter Try.func72, Try.ntmps72
  go_wp2_with fail
  go_loopg [5, 6] (above T res (-1)) (fun gn v la wr => hoR w T res gn v la wr)
  case atStart => exact ⟨[], -1, ow0, rfl, rfl, found0 H.out.1 res, Row.nil _ _ _ _ _, Turn.refl _ _ _⟩
  case round =>
    clear c1
    obtain ⟨hs, last, OW, hgk, rfl, hF, hr, t⟩ := hrel
    have Hgk := Lib.hid hgk
    have HF := Lib.hid hF
    clear hgk hF
    have bw := (t.new_ ow [1]).below
    have c1 := up_cell bw C1.out
    have lg1 : g < wr.heap.size := Nat.lt_of_lt_of_le lg bw.size
    have Bw := Lib.hid bw
    clear bw
    go_wp2_with fail
    go_loopg [7, 8] T.length (fun gn b i wx => ∃ (k : Nat) (B : Int), gn = T.length - k ∧ k ≤ T.length ∧ i = .int .i64 (k : Int) ∧ b = .int .i64 B ∧ Bst (T.take k) res last B ∧ wx = wr)
    case atStart => exact ⟨0, -1, rfl, Nat.zero_le _, rfl, rfl, .inl ⟨rfl, fun t ht => by (cases ht)⟩, rfl⟩
    case round =>
      obtain ⟨k, B, hgk, hk, rfl, rfl, hB, rfl⟩ := hrel
      have Hgm := Lib.hid hgk
      have HB := Lib.hid hB
      clear hgk hB
      by_cases hlt : k < T.length
      · obtain ⟨x, hx⟩ : ∃ x, T[k]? = some x := ⟨_, List.getElem?_eq_getElem hlt⟩
        obtain ⟨b, off, rfl, lb, E0, E1, E2⟩ := Hat.out k x hx
        have hxj : 0 ≤ x.job := (H.out.1.tb x (List.mem_of_getElem? hx)).1
        have lb1 : b < wr.heap.size := Nat.lt_of_lt_of_le lb Bw.out.size
        have e0 := up_cell Bw.out E0
        have e1 := up_cell Bw.out E1
        have hts := take_snoc k x hx
        have Hts := Lib.hid hts
        have i0 : (k : Int) < (T.length : Int) := by omega
        clear hx E0 E1 E2 hts
        by_cases q1 : x.res = res
        · have b1 : (x.res == res) = true := beq_iff_eq.2 q1
          by_cases q2 : last < x.job
          · by_cases q3 : B < 0
            · have hst := Bst.yes HB.out hxj q1 q2 (.inl q3)
              have Hst := Lib.hid hst
              clear hst q1
              go_wp2
              go_roundg (T.length - (k + 1))
              case measure => have := Hgm.out; omega
              case rel => exact ⟨k + 1, x.job, rfl, by omega, by go_num, rfl, by rw [Hts.out]; exact Hst.out, rfl⟩
            · by_cases q4 : x.job < B
              · have hst := Bst.yes HB.out hxj q1 q2 (.inr q4)
                have Hst := Lib.hid hst
                clear hst q1
                go_wp2
                go_roundg (T.length - (k + 1))
                case measure => have := Hgm.out; omega
                case rel => exact ⟨k + 1, x.job, rfl, by omega, by go_num, rfl, by rw [Hts.out]; exact Hst.out, rfl⟩
              · have hst := Bst.no (x := x) HB.out (fun _ _ => by omega)
                have Hst := Lib.hid hst
                clear hst q1
                go_wp2
                go_roundg (T.length - (k + 1))
                case measure => have := Hgm.out; omega
                case rel => exact ⟨k + 1, B, rfl, by omega, by go_num, rfl, by rw [Hts.out]; exact Hst.out, rfl⟩
          · have hst := Bst.no (x := x) HB.out (fun _ h => absurd h q2)
            have Hst := Lib.hid hst
            clear hst q1
            go_wp2
            go_roundg (T.length - (k + 1))
            case measure => have := Hgm.out; omega
            case rel => exact ⟨k + 1, B, rfl, by omega, by go_num, rfl, by rw [Hts.out]; exact Hst.out, rfl⟩
        · have b1 : (x.res == res) = false := beq_eq_false_iff_ne.2 q1
          have hst := Bst.no (x := x) HB.out (fun h => absurd h q1)
          have Hst := Lib.hid hst
          clear hst q1
          go_wp2
          go_roundg (T.length - (k + 1))
          case measure => have := Hgm.out; omega
          case rel => exact ⟨k + 1, B, rfl, by omega, by go_num, rfl, by rw [Hts.out]; exact Hst.out, rfl⟩
      · obtain rfl : k = T.length := by omega
        have hB := HB.out
        rw [List.take_length] at hB
        clear hlt Hgm HB hk
        rcases hB with ⟨rfl, h4⟩ | ⟨h1, h2, h3, h4⟩
        · have his := HF.out.last h4
          have hfl := HF.out.2.2.2
          have His := Lib.hid his
          clear his h4
          go_wp2
          go_ret
          exact ⟨_, ow.ren w.heap.size OW q, hs, rfl, His.out, by omega, by simpa using hr.ren t ow q, t.new_ ow q⟩
        · have hn := HF.out.next H.out.1 h1 h2 h3 h4
          have hal := above_lt h1 h3
          have hfl := HF.out.2.2.2
          have hR := H.out.new_ (t.new_ ow [1])
          have hcall := rheld wr _ p g U C T hR B res
          rw [heldQ_eq hR.1] at hcall
          have Hn := Lib.hid hn
          have Hal := Lib.hid hal
          have b2 : ¬ B < 0 := by omega
          clear hn hal h3 h4 hR
          obtain ⟨Av, cv, rfl, hcv⟩ := hr.slice
          generalize heldT T B res = hv at *
          go_wp2_with fail
          refine hcall.mono ?_
          rintro e w' ⟨rfl, rfl⟩
          clear hcall
          go_wp2_with (at_builtin; refine wpList_append_row (m := 1) rfl (.tmp 67) (.tmp 74) 32 32 rfl 31 _ 2 16 Try.underlying32 EHd.info rfl rfl (hr.alloc_ (Obj.cells #[Value.int .i64 B, Value.int .i64 hv] 31)) rfl ((Reads.new w' (EHd.cs ⟨B, hv⟩) 31 1 1 (Nat.le_refl _)).src Try.underlying32 rfl (EHd.cs_one ⟨B, hv⟩)) (by unfold maxLen; omega) (by omega) ?_)
          intro v3 w3 ow3 hr3 t3
          have t3 := (t.alloc_ (Obj.cells #[Value.int .i64 B, Value.int .i64 hv] 31)).trans t3
          clear c1 lg1 hcv hr t
          go_wp2
          go_roundg (above T res B)
          case measure => have := Hgk.out; have := Hal.out; omega
          case rel => exact ⟨hs ++ [⟨B, hv⟩], B, ow3, rfl, rfl, Hn.out, by rw [List.length_append, EHd.css_snoc]; exact hr3, t3⟩
end RT5
end Go.Proofs.Ytefagdbdimpcdaa
