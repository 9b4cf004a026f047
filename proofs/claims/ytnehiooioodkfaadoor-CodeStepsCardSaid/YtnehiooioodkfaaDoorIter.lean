/-
  ITER: a range over a function, in CORE's words: what an iterator promises ('Iter'), what the loop's body owes, and what the whole statement does ('wp_range').
-/
import Derived.Test.YtnehiooioodkfaaDoorOps
import Derived.RangeFuncBox
import Derived.RangeFuncLeaves
import Derived.TacticsInMore
import Derived.LoopIn
import Derived.OwnWalkIn
import Derived.OrdersHeld
import Derived.OrdersIn
import Derived.Deep.RegionHeld
import Derived.Deep.RegionHeld3
set_option linter.unusedVariables false
set_option linter.unusedSimpArgs false
namespace Go.Proofs.YtnehiooioodkfaaDoor
open Go Go.RowKit

/-- What is not cells. -/
theorem Turn.other {p : List Nat} {w w1 : World} {ow ow1 : Ow} (t : Turn p w ow w1 ow1) {b : Nat} {o : Obj} (h : w.heap[b]? = some o) (hc : o.isCells = false) (hp : ¬ p <+: ow b 0) : w1.heap[b]? = some o := by
  have hlt : b < w.heap.size := (Array.getElem?_eq_some_iff.1 h).1
  have hk := t.blk b hlt
  rw [h] at hk
  unfold Keep1 at hk
  split at hk
  · rename_i c e f heq
    cases heq
    simp [Obj.isCells] at hc
  · exact hk hp

theorem Turn.putObj {p : List Nat} {w w1 : World} {ow ow1 : Ow} {l : Nat} {o : Obj} (h : Turn p w ow w1 ow1) (hl : w1.heap[l]? = some o) (hc : o.isCells = false) (hp : p <+: ow1 l 0) (o' : Obj) : Turn p w ow (w1.putObj l o') ow1 := by
  refine h.trans ⟨rfl, rfl, rfl, by simp, fun _ _ _ => rfl, fun b _ => ?_⟩
  by_cases e : b = l
  · subst e
    rw [hl]
    unfold Keep1
    split
    · rename_i c e f heq
      cases heq
      simp [Obj.isCells] at hc
    · intro h0
      exact absurd hp h0
  · exact Keep1.of_eq (World.putObj_heap_other e)

/-- The two blocks that the machine keeps for a range over a function. -/
structure Book (pl : List Nat) (l D : Nat) (r : Loop) (W : World) (OW : Ow) : Prop where
  loop : W.heap[l]? = some (.loop r)
  defs : W.heap[D]? = some (.deferred (some []))
  ol : OW l 0 = pl
  od : OW D 0 = pl

theorem Book.turn {pl q : List Nat} {l D : Nat} {r : Loop} {W W' : World} {OW OW' : Ow} (h : Book pl l D r W OW) (t : Turn q W OW W' OW') (hq : ¬ q <+: pl) : Book pl l D r W' OW' :=
  ⟨t.other h.loop rfl (by rw [h.ol]; exact hq), t.other h.defs rfl (by rw [h.od]; exact hq), (t.own _ _ (Array.getElem?_eq_some_iff.1 h.loop).1).trans h.ol, (t.own _ _ (Array.getElem?_eq_some_iff.1 h.defs).1).trans h.od⟩
theorem Book.new_ {pl : List Nat} {l D : Nat} {r : Loop} {W W' : World} {OW OW' : Ow} (h : Book pl l D r W OW) (t : New W OW W' OW') : Book pl l D r W' OW' :=
  ⟨(t.below.block _ (Array.getElem?_eq_some_iff.1 h.loop).1).trans h.loop, (t.below.block _ (Array.getElem?_eq_some_iff.1 h.defs).1).trans h.defs, (t.own _ _ (Array.getElem?_eq_some_iff.1 h.loop).1).trans h.ol, (t.own _ _ (Array.getElem?_eq_some_iff.1 h.defs).1).trans h.od⟩
theorem Book.drew {pl : List Nat} {l D : Nat} {r : Loop} {W : World} {OW : Ow} (h : Book pl l D r W OW) : Book pl l D r W.drew OW := ⟨h.loop, h.defs, h.ol, h.od⟩
theorem Book.drewN {pl : List Nat} {l D : Nat} {r : Loop} {W : World} {OW : Ow} (h : Book pl l D r W OW) (n : Nat) : Book pl l D r (W.drewN n) OW := ⟨h.loop, h.defs, h.ol, h.od⟩
theorem Book.alloc_ {pl : List Nat} {l D : Nat} {r : Loop} {W : World} {OW : Ow} (h : Book pl l D r W OW) (ob : Obj) : Book pl l D r (W.alloc ob) OW := h.new_ (((Below.refl _ _).alloc (Nat.le_refl _) _).nw OW)
theorem Book.setCell {pl : List Nat} {l D : Nat} {r : Loop} {W : World} {OW : Ow} (h : Book pl l D r W OW) (a : Addr) (u : Value) : Book pl l D r (W.setCell a u) OW :=
  ⟨(KeepsOthers.setCell W a u).same _ _ h.loop rfl, (KeepsOthers.setCell W a u).same _ _ h.defs rfl, h.ol, h.od⟩
theorem Book.sizes {pl : List Nat} {l D : Nat} {r : Loop} {W : World} {OW : Ow} (h : Book pl l D r W OW) : l < W.heap.size ∧ D < W.heap.size := ⟨(Array.getElem?_eq_some_iff.1 h.loop).1, (Array.getElem?_eq_some_iff.1 h.defs).1⟩
theorem Book.putLoop {pl : List Nat} {l D : Nat} {r : Loop} {W : World} {OW : Ow} (h : Book pl l D r W OW) (r' : Loop) : Book pl l D r' (W.putObj l (.loop r')) OW := by
  have hne : D ≠ l := by
    rintro rfl
    have := h.loop.symm.trans h.defs
    cases this
  exact ⟨World.putObj_heap_same h.sizes.1, (World.putObj_heap_other hne).trans h.defs, h.ol, h.od⟩

/-- What holds stays, whatever turns under q. -/
def Stab (q : List Nat) (I : World → Ow → Prop) : Prop := ∀ W OW W' OW', I W OW → Turn q W OW W' OW' → I W' OW'

/-- AN ITERATOR: a function value that hands out xs, one behind the other, from memory of its own (pi), whatever the loop's body does under pb. -/
def Iter (P : Program) (gf : Nat) (lb : Array Value) (xs : List (Array Value)) (pi pb : List Nat) (w : World) (ow : Ow) : Prop :=
  ∀ (l : Nat) (J Jx : Nat → World → Ow → Prop) (W : World) (OW : Ow), Turn pb w ow W OW → (∀ k, Stab pi (J k)) → (∀ k, Stab pi (Jx k)) →
    (∀ k args W OW, xs[k]? = some args → J k W OW → YieldAt Fence.wide 0 P l args W fun e W' => ∃ OW', Turn pb W OW W' OW' ∧ ((e = .returned (.bool true) ∧ J (k + 1) W' OW') ∨ (e = .returned (.bool false) ∧ Jx (k + 1) W' OW'))) →
    J 0 W OW →
    CallsIn Fence.wide 0 P gf (#[.func (.yield l) #[] #[]] ++ lb) W fun e W' => ∃ v OW', e = .returned v ∧ (J xs.length W' OW' ∨ ∃ k, k ≤ xs.length ∧ Jx k W' OW')

/-- How the body of a round may be left. -/
def roundEnd (pb pl : List Nat) (l D : Nat) (rb : Loop) (I : Nat → World → Ow → Prop) (Ix : Code → Nat → World → Ow → Prop) (k : Nat) (W : World) (OW : Ow) : Exit → Act → World → Prop
  | .normal, _, W' => ∃ OW', Turn pb W OW W' OW' ∧ Book pl l D rb W' OW' ∧ I (k + 1) W' OW'
  | .ret, _, W' => ∃ OW', Turn pb W OW W' OW' ∧ Book pl l D rb W' OW' ∧ Ix .ret (k + 1) W' OW'
  | .exit id, _, W' => ∃ OW', Turn pb W OW W' OW' ∧ Book pl l D rb W' OW' ∧ Ix (.exit id) (k + 1) W' OW'
  | .goto t, _, W' => ∃ OW', Turn pb W OW W' OW' ∧ Book pl l D rb W' OW' ∧ Ix (.goto t) (k + 1) W' OW'
  | .panic _, _, _ => False
  | .outgrown, _, _ => False

/-- What stands behind the assignment to the loop's variables: the body. -/
def roundHead (P : Program) (pb pl : List Nat) (l D : Nat) (rr rb : Loop) (body : Code) (I : Nat → World → Ow → Prop) (Ix : Code → Nat → World → Ow → Prop) (k : Nat) (W : World) (OW : Ow) (a₁ : Act) (W₁ : World) : Prop :=
  ∃ OW₁, Turn pb W OW W₁ OW₁ ∧ Book pl l D rr W₁ OW₁ ∧
    ∀ W₂, Turn pl W₁ OW₁ W₂ OW₁ → Book pl l D rb W₂ OW₁ → body.wpIn (Fence.wide.inRound l) 0 P (roundEnd pb pl l D rb I Ix k W₂ OW₁) a₁ W₂

theorem roundIn_wide {m n : Nat} {P : Program} {l : Nat} {f : FuncId} {tmps : Array Value} {assign body : Code} {w : World} {R : Ending → World → Prop} (h : RoundIn Fence.wide m P l f tmps assign body w R) : RoundIn Fence.wide n P l f tmps assign body w R :=
  ⟨h.1, fun c cs _ => h.2 c cs (room_wide _)⟩

/-- THE STATEMENT 'for .. := range g { .. }'. -/
theorem wp_range {P : Program} {g : Operand} {ps : Array Tmp} {assign body : Code} {Q : Exit → Act → World → Prop} {a : Act} {w : World} {ow : Ow}
    {gf : Nat} {lb : Array Value} (hg : a.eval g = .func (.func gf) #[] lb) (eg : ∀ args w, (callFunc gf args).run P w = .ok (.enter gf args) w)
    (xs : List (Array Value)) (pi pb pl : List Nat) (w0 : World) (ow0 : Ow) (hit : Iter P gf lb xs pi pb w0 ow0) (ht0 : Turn pb w0 ow0 w ow) (hpl : pb <+: pl) (hpi : ¬ pi <+: pl) (hps : ∀ (k : Nat) (args : Array Value), xs[k]? = some args → args.size = ps.size)
    (I : Nat → World → Ow → Prop) (Ix : Code → Nat → World → Ow → Prop) (sI : ∀ k, Stab pi (I k)) (sX : ∀ c k, Stab pi (Ix c k)) (sI' : ∀ k, Stab pl (I k)) (sX' : ∀ c k, Stab pl (Ix c k))
    (h0 : I 0 w ow)
    (hround : ∀ (l D k : Nat) (rr rb : Loop) (args : Array Value) (W : World) (OW : Ow), xs[k]? = some args → I k W OW → Book pl l D rr W OW →
      assign.wpIn (Fence.wide.inRound l) 0 P (Exit.then (roundHead P pb pl l D rr rb body I Ix k W OW) (fun _ _ _ => False))
        { tmps := (ps.zip args).foldl (fun t (p, v) => t.setIfInBounds p v) a.tmps, defers := [] } W)
    (hdone : ∀ (D : Nat) (W : World) (OW : Ow), I xs.length W OW → W.heap[D]? = some (.deferred (some [])) → OW D 0 = pl → w.heap.size ≤ D → Q .normal { a with defers := { target := .collected D, args := #[] } :: a.defers } W)
    (hstop : ∀ (D : Nat) (c : Code) (k : Nat) (W : World) (OW : Ow), k ≤ xs.length → Ix c k W OW → W.heap[D]? = some (.deferred (some [])) → OW D 0 = pl → w.heap.size ≤ D → c.wp P Q { a with defers := { target := .collected D, args := #[] } :: a.defers } W) :
    (Code.rangeFunc g ps assign body).wp P Q a w := by
  rw [← wpIn_wide (n := 0)]
  refine wpIn_rangeFunc ?_
  intro fn hfn
  obtain ⟨rec, hrec⟩ : ∃ rec : LoopState → Option Code → Loop, rec = fun st pe => { state := st, pending := pe, fn, tmps := a.tmps, params := ps, assign, body, defers := w.heap.size } := ⟨_, rfl⟩
  obtain ⟨W1, hW1⟩ : ∃ W1, (w.alloc (.deferred (some []))).alloc (.loop (rec .ready none)) = W1 := ⟨_, rfl⟩
  obtain ⟨OW1, hOW1⟩ : ∃ OW1, (ow.set w.heap.size pl).set (w.alloc (.deferred (some []))).heap.size pl = OW1 := ⟨_, rfl⟩
  have hn1 : New w ow W1 OW1 := by
    rw [← hW1, ← hOW1]
    exact ((New.refl w ow).alloc _ _).alloc _ _
  have hB1 : Book pl (w.heap.size + 1) w.heap.size (rec .ready none) W1 OW1 := by
    rw [← hW1, ← hOW1]
    refine ⟨?_, ?_, ?_, ?_⟩
    · have := World.alloc_heap_new (w.alloc (.deferred (some []))) (.loop (rec .ready none)); rwa [World.size_alloc] at this
    · exact (Below.heap_alloc _ _ _ (by simp)).trans (World.alloc_heap_new w _)
    · rw [World.size_alloc]; exact Ow.set_same _ _ _ _
    · rw [World.size_alloc, Ow.set_other _ _ _ _ (by omega)]; exact Ow.set_same _ _ _ _
  have hI1 : I 0 W1 OW1 := sI 0 _ _ _ _ h0 (hn1.turn _)
  refine ⟨w.heap.size + 1, [{ target := .collected w.heap.size, args := #[] }], W1, { target := .fn (.func gf) lb, args := #[.func (.yield (w.heap.size + 1)) #[] #[]] }, W1, gf,
    #[.func (.yield (w.heap.size + 1)) #[] #[]] ++ lb, W1, ?_, ?_, fun _ _ => trivial, ?_, fun h => by simp [Fence.wide] at h, ?_⟩
  · rw [← hW1, hrec]; exact run_enterLoop_outer _ _ _ _ _
  · simp only [resolve, hg]
    simp [go_sem]
  · simp [invoke, go_sem, eg]
  · refine CallsIn.mono (hit (w.heap.size + 1) (fun k W OW => I k W OW ∧ Book pl (w.heap.size + 1) w.heap.size (rec .ready none) W OW)
      (fun k W OW => ∃ c, Ix c k W OW ∧ Book pl (w.heap.size + 1) w.heap.size (rec .done (some c)) W OW) W1 OW1 (ht0.trans (hn1.turn pb))
      (fun k W OW W' OW' h t => ⟨sI k _ _ _ _ h.1 t, h.2.turn t hpi⟩) (fun k W OW W' OW' ⟨c, h, hb⟩ t => ⟨c, sX c k _ _ _ _ h t, hb.turn t hpi⟩) ?_ ⟨hI1, hB1⟩) ?_
    · rintro k args W OW hx ⟨hi, hb⟩
      have hy := run_yield (P := P) (args := args) hb.loop (by rw [hrec]; exact hps _ _ hx)
      rw [hrec] at hy
      refine ⟨fn, _, assign, body, hy, roundIn_wide (m := 0) (roundIn_of_wpIn hfn (wpIn_mono (hround _ _ k _ (rec .busy none) args W OW hx hi hb) ?_))⟩
      rintro e a1 w1 he
      cases e with
      | normal =>
        obtain ⟨OW₁, t1, b1, hbody⟩ := he
        refine ⟨w1.putObj (w.heap.size + 1) (.loop (rec .busy none)), ?_, wpIn_mono (hbody _ ((Turn.refl _ _ _).putObj b1.loop rfl (by rw [b1.ol]; exact List.prefix_refl _) _) (b1.putLoop _)) ?_⟩
        · have := run_beginRound (P := P) b1.loop (by rw [hrec])
          rw [hrec] at this ⊢
          exact this
        · have fin : ∀ (jump : Option Code) (W3 : World) (OW3 : Ow), Book pl (w.heap.size + 1) w.heap.size (rec .busy none) W3 OW3 →
              (Instr.endRound (w.heap.size + 1) jump).run P W3 = .ok (.bool jump.isNone) (W3.putObj (w.heap.size + 1) (.loop (rec (if jump.isNone then .ready else .done) jump))) := fun jump W3 OW3 b3 => by
            have := run_endRound (P := P) jump b3.loop
            rw [hrec] at this ⊢
            exact this
          have tt : ∀ (W3 : World) (OW3 : Ow) (r : Loop), Turn pb (w1.putObj (w.heap.size + 1) (.loop (rec .busy none))) OW₁ W3 OW3 → Book pl (w.heap.size + 1) w.heap.size (rec .busy none) W3 OW3 → Turn pb W OW (W3.putObj (w.heap.size + 1) (.loop r)) OW3 := fun W3 OW3 r t3 b3 =>
            ((t1.putObj b1.loop rfl (by rw [b1.ol]; exact hpl) _).trans t3).putObj b3.loop rfl (by rw [b3.ol]; exact hpl) _
          rintro e a3 W3 hp
          cases e with
          | normal =>
            obtain ⟨OW3, t3, b3, hi3⟩ := hp
            exact ⟨_, _, fin none W3 OW3 b3, OW3, tt _ _ _ t3 b3, .inl ⟨rfl, sI' _ _ _ _ _ hi3 ((Turn.refl _ _ _).putObj b3.loop rfl (by rw [b3.ol]; exact List.prefix_refl _) _), b3.putLoop _⟩⟩
          | ret =>
            obtain ⟨OW3, t3, b3, hi3⟩ := hp
            exact ⟨_, _, fin (some .ret) W3 OW3 b3, OW3, tt _ _ _ t3 b3, .inr ⟨rfl, .ret, sX' _ _ _ _ _ _ hi3 ((Turn.refl _ _ _).putObj b3.loop rfl (by rw [b3.ol]; exact List.prefix_refl _) _), b3.putLoop _⟩⟩
          | exit id =>
            obtain ⟨OW3, t3, b3, hi3⟩ := hp
            exact ⟨_, _, fin (some (.exit id)) W3 OW3 b3, OW3, tt _ _ _ t3 b3, .inr ⟨rfl, .exit id, sX' _ _ _ _ _ _ hi3 ((Turn.refl _ _ _).putObj b3.loop rfl (by rw [b3.ol]; exact List.prefix_refl _) _), b3.putLoop _⟩⟩
          | goto t =>
            obtain ⟨OW3, t3, b3, hi3⟩ := hp
            exact ⟨_, _, fin (some (.goto t)) W3 OW3 b3, OW3, tt _ _ _ t3 b3, .inr ⟨rfl, .goto t, sX' _ _ _ _ _ _ hi3 ((Turn.refl _ _ _).putObj b3.loop rfl (by rw [b3.ol]; exact List.prefix_refl _) _), b3.putLoop _⟩⟩
          | panic ch => exact hp.elim
          | outgrown => exact hp.elim
      | _ => exact he.elim
    · rintro e W2 ⟨v, OW2, rfl, (⟨hi, hb⟩ | ⟨k, hk, c, hi, hb⟩)⟩
      · refine ⟨none, _, by have := run_endLoop (P := P) hb.loop (by rw [hrec]; simp); rw [hrec] at this; exact this, ?_⟩
        exact hdone w.heap.size _ OW2 (sI' _ _ _ _ _ hi ((Turn.refl _ _ _).putObj hb.loop rfl (by rw [hb.ol]; exact List.prefix_refl _) _)) ((hb.putLoop _).defs) hb.od (Nat.le_refl _)
      · refine ⟨some c, _, by have := run_endLoop (P := P) hb.loop (by rw [hrec]; simp); rw [hrec] at this; exact this, ?_⟩
        show c.wpIn Fence.wide 0 P Q _ _
        rw [wpIn_wide]
        exact hstop w.heap.size c k _ OW2 hk (sX' _ _ _ _ _ _ hi ((Turn.refl _ _ _).putObj hb.loop rfl (by rw [hb.ol]; exact List.prefix_refl _) _)) ((hb.putLoop _).defs) hb.od (Nat.le_refl _)

/-- The marks that such statements leave on the activation: each names a block of its own; 'ok': whose they may be. -/
def Marks (ok : List Nat → Prop) (W : World) (OW : Ow) : List Deferred → Prop
  | [] => True
  | d :: ds => (∃ D, d.target = .collected D ∧ W.heap[D]? = some (.deferred (some [])) ∧ ok (OW D 0) ∧ ∀ d' ∈ ds, d'.target ≠ .collected D) ∧ Marks ok W OW ds

theorem Marks.turn {ok : List Nat → Prop} {q : List Nat} {W W' : World} {OW OW' : Ow} (hq : ∀ x, ok x → ¬ q <+: x) (t : Turn q W OW W' OW') : ∀ {ds : List Deferred}, Marks ok W OW ds → Marks ok W' OW' ds
  | [], _ => trivial
  | _ :: _, ⟨⟨D, h1, h2, h3, h4⟩, h5⟩ => ⟨⟨D, h1, t.other h2 rfl (hq _ h3), by rw [t.own _ _ (Array.getElem?_eq_some_iff.1 h2).1]; exact h3, h4⟩, h5.turn hq t⟩
theorem Marks.new_ {ok : List Nat → Prop} {W W' : World} {OW OW' : Ow} (t : New W OW W' OW') : ∀ {ds : List Deferred}, Marks ok W OW ds → Marks ok W' OW' ds
  | [], _ => trivial
  | _ :: _, ⟨⟨D, h1, h2, h3, h4⟩, h5⟩ => ⟨⟨D, h1, (t.below.block _ (Array.getElem?_eq_some_iff.1 h2).1).trans h2, by rw [t.own _ _ (Array.getElem?_eq_some_iff.1 h2).1]; exact h3, h4⟩, h5.new_ t⟩
theorem Marks.mono {ok ok' : List Nat → Prop} {W : World} {OW : Ow} (h : ∀ x, ok x → ok' x) : ∀ {ds : List Deferred}, Marks ok W OW ds → Marks ok' W OW ds
  | [], _ => trivial
  | _ :: _, ⟨⟨D, h1, h2, h3, h4⟩, h5⟩ => ⟨⟨D, h1, h2, h _ h3, h4⟩, h5.mono h⟩
theorem Marks.fresh {ok : List Nat → Prop} {W : World} {OW : Ow} {D : Nat} (hD : W.heap.size ≤ D) : ∀ {ds : List Deferred}, Marks ok W OW ds → ∀ d' ∈ ds, d'.target ≠ .collected D
  | [], _, d', hd => by cases hd
  | d :: ds, ⟨⟨D', h1, h2, h3, h4⟩, h5⟩, d', hd => by
    rcases List.mem_cons.1 hd with rfl | hd
    · rw [h1]
      intro e
      have := (Array.getElem?_eq_some_iff.1 h2).1
      cases e
      omega
    · exact h5.fresh hD d' hd

theorem Marks.put {ok : List Nat → Prop} {W : World} {OW : Ow} {D : Nat} (o : Obj) : ∀ {ds : List Deferred}, Marks ok W OW ds → (∀ d' ∈ ds, d'.target ≠ .collected D) → Marks ok (W.putObj D o) OW ds
  | [], _, _ => trivial
  | d :: ds, ⟨⟨D', h1, h2, h3, h4⟩, h5⟩, hn => ⟨⟨D', h1, by
      have : D' ≠ D := fun e => hn d (by simp) (by rw [h1, e])
      rw [World.putObj_heap_other this]; exact h2, h3, h4⟩, h5.put o (fun d' hd => hn d' (by simp [hd]))⟩

theorem leaves_marks {P : Program} {fn : Func} {tmps : Array Value} {R : Ending → World → Prop} {pl : List Nat} {ok : List Nat → Prop} {OW : Ow} (hok : ∀ x, ok x → pl <+: x) : ∀ (ds : List Deferred) (W : World), Marks ok W OW ds →
    (∀ W', Turn pl W OW W' OW → ∃ v, (results fn tmps).run P W' = .ok v W' ∧ R (.returned v) W') → LeavesInM Fence.wide 0 P fn tmps R ds .returning W
  | [], W, _, h => h W (Turn.refl _ _ _)
  | d :: ds, W, ⟨⟨D, h1, h2, h3, h4⟩, h5⟩, h => by
    refine ⟨by simp, .inl ⟨D, _, h1, run_takeDeferred h2, leaves_marks hok ds _ (h5.put _ h4) fun W' t => h W' (((Turn.refl _ _ _).putObj h2 rfl (hok _ h3) _).trans t)⟩⟩

/-- A function that holds such statements. -/
theorem calls_marks {P : Program} {f : FuncId} {fn : Func} {c : Code} {args : Array Value} {w : World} {R : Ending → World → Prop} (hf : P.funcs[f]? = some fn) (hb : fn.body = some c)
    (h : c.wp P (bodyPostM Fence.wide 0 P fn R) { tmps := args ++ Array.replicate (fn.ntmps - args.size) undef, defers := [] } w) : Calls P f args w R :=
  callsIn_wide.1 (callsIn_of_wp_marks (n := 0) hf hb trivial (wpIn_wide.2 h))

/-- Its end. -/
theorem bodyM_ret {P : Program} {fn : Func} {R : Ending → World → Prop} {a : Act} {W : World} {ok : List Nat → Prop} {OW : Ow} (pl : List Nat) (hok : ∀ x, ok x → pl <+: x) (hm : Marks ok W OW a.defers)
    (h : ∀ W', Turn pl W OW W' OW → ∃ v, (results fn a.tmps).run P W' = .ok v W' ∧ R (.returned v) W') : bodyPostM Fence.wide 0 P fn R .ret a W := leaves_marks hok _ _ hm h
theorem bodyM_normal {P : Program} {fn : Func} {R : Ending → World → Prop} {a : Act} {W : World} {ok : List Nat → Prop} {OW : Ow} (pl : List Nat) (hok : ∀ x, ok x → pl <+: x) (hm : Marks ok W OW a.defers)
    (h : ∀ W', Turn pl W OW W' OW → ∃ v, (results fn a.tmps).run P W' = .ok v W' ∧ R (.returned v) W') : bodyPostM Fence.wide 0 P fn R .normal a W := leaves_marks hok _ _ hm h

/-! ### A region that draws its order, in a round's frame -/
section
variable {P : Program} {ops : Array Oper} {Q : Exit → Act → World → Prop} {l n : Nat} {md : Region.Mode}

theorem wpIn_of_wp {o : Oper} {a : Act} {w : World} {K : Act → World → Prop} (hnd : ∀ c, o.op ≠ .defer c) (h : o.wp P a w K Q) : o.wpIn (Fence.wide.inRound l) n P a w K Q := by
  refine ⟨fun _ _ => trivial, ?_⟩
  unfold Oper.wp at h
  rw [Fence.inRound_round, Oper.semAt_some l _ _ hnd]
  generalize (execOp a.eval o).run P w = r at *
  cases r with
  | ok x w' =>
    cases x <;> simp only [Oper.upon, Oper.uponIn] at h ⊢ <;>
      first
        | exact h
        | exact h.elim
        | exact ⟨fun h => by simp [Fence.wide] at h, callsIn_wide.2 h⟩
        | exact ⟨fun h => by simp [Fence.wide] at h, fun c cs _ => let ⟨v, w', r, s⟩ := h c cs; ⟨v, w', r, stepsIn_wide.2 s⟩⟩
  | halt x w' => cases x <;> simp only [Oper.upon, Oper.uponIn] at h ⊢ <;> first | exact h | exact h.elim

/-- An operation as in any other frame, in the list's walk: at home (wide) and in a round. -/
theorem wpListIn_of_wp {o : Oper} {rest : List Oper} {a : Act} {w : World} (hg : o.guard = none) (hnd : ∀ c, o.op ≠ .defer c)
    (h : ∀ K : Act → World → Prop, (∀ a w, wpListIn Fence.wide n P ops Q rest a w → K a w) → o.wp P a w K Q) : wpListIn Fence.wide n P ops Q (o :: rest) a w := by
  refine wpListIn_plain hg fun K hK => ?_
  have h := h K hK
  refine ⟨fun _ _ => trivial, ?_⟩
  unfold Oper.wp at h
  rw [Oper.semAt_plain Fence.wide _ _ hnd]
  generalize (execOp a.eval o).run P w = r at *
  cases r with
  | ok x w' =>
    cases x <;> simp only [Oper.upon, Oper.uponIn] at h ⊢ <;>
      first
        | exact h
        | exact h.elim
        | exact ⟨fun h => by simp [Fence.wide] at h, callsIn_wide.2 h⟩
        | exact ⟨fun h => by simp [Fence.wide] at h, fun c cs _ => let ⟨v, w', r, s⟩ := h c cs; ⟨v, w', r, stepsIn_wide.2 s⟩⟩
  | halt x w' => cases x <;> simp only [Oper.upon, Oper.uponIn] at h ⊢ <;> first | exact h | exact h.elim
theorem wpListIn_round {o : Oper} {rest : List Oper} {a : Act} {w : World} (hg : o.guard = none) (hnd : ∀ c, o.op ≠ .defer c)
    (h : ∀ K : Act → World → Prop, (∀ a w, wpListIn (Fence.wide.inRound l) n P ops Q rest a w → K a w) → o.wp P a w K Q) : wpListIn (Fence.wide.inRound l) n P ops Q (o :: rest) a w :=
  wpListIn_plain hg fun K hK => wpIn_of_wp hnd (h K hK)

def noDefer (ops : Array Oper) : Bool := ops.all fun o => match o.op with | .defer _ => false | _ => true

theorem anyIn_of_any (hnd : noDefer ops = true) (hQ : ¬ LetsOut Q) : ∀ (fuel : Nat) (listed : Array Bool) (a : Act) (w : World), wpAny P md ops Q fuel listed a w → wpAnyIn (Fence.wide.inRound l) n P md ops Q fuel listed a w
  | 0, _, _, _, h => h
  | fuel + 1, _, _, _, h => by
    refine ⟨h.1, fun i hi => ?_⟩
    have h1 := h.2 i hi
    unfold wpOp at h1
    unfold wpOpIn
    cases ho : ops[i]? with
    | none =>
      simp only [ho] at h1
      exact anyIn_of_any hnd hQ fuel _ _ _ h1
    | some o =>
      simp only [ho] at h1 ⊢
      have hd : ∀ c, o.op ≠ .defer c := by
        intro c hc
        have hmem : o ∈ ops := Array.mem_of_getElem? ho
        have := Array.all_eq_true_iff_forall_mem.1 hnd o hmem
        rw [hc] at this
        cases this
      split
      · rename_i hw
        simp only [hw, if_true] at h1
        rcases h1 with h1 | h1
        · exact Oper.wpIn_mono (fun a w => anyIn_of_any hnd hQ fuel _ a w) (wpIn_of_wp hd h1)
        · exact absurd h1.2 hQ
      · rename_i hw
        simp only [hw] at h1
        exact ⟨fun _ _ => trivial, anyIn_of_any hnd hQ fuel _ _ _ h1⟩

/-- Whatever order is picked: S holds behind every operation but those of X. -/
def anyX (P : Program) (md : Region.Mode) (ops : Array Oper) (Q : Exit → Act → World → Prop) (S : World → Prop) (X : List Nat) : Nat → Array Bool → Act → World → Prop
  | 0, listed, a, w => Region.ready md ops listed = [] ∧ Q .normal a w
  | fuel + 1, listed, a, w => (Region.ready md ops listed = [] → Q .normal a w) ∧
    ∀ i ∈ Region.ready md ops listed, wpOp P ops Q i (fun a' w' => (i ∉ X → S w') ∧ anyX P md ops Q S X fuel (listed.setIfInBounds i true) a' w') a w

theorem any_of_anyX {S : World → Prop} {X : List Nat} : ∀ (fuel : Nat) (listed : Array Bool) (a : Act) (w : World), anyX P md ops Q S X fuel listed a w → wpAny P md ops Q fuel listed a w
  | 0, _, _, _, h => h
  | fuel + 1, _, _, _, h => ⟨h.1, fun i hi => wpOp_mono (fun a' w' k => any_of_anyX fuel _ a' w' k.2) (h.2 i hi)⟩

/-- Each of X waits for i. -/
def waits (md : Region.Mode) (ops : Array Oper) (X : List Nat) (i : Nat) : Bool :=
  X.all fun x => match ops[x]? with
    | some o => o.after.any fun e => Region.binds md e && e.on == i
    | none => false

theorem anyX_first {S : World → Prop} {X : List Nat} {i : Nat} {oi : Oper} {v : Value} (hi : ops[i]? = some oi) (hsel : ∀ (j : Nat) (o : Oper) cs b, ops[j]? = some o → o.op ≠ .select cs b)
    (hQ : ∀ c a w, Q (.panic c) (a.put oi.dst v) w → Q (.panic c) a w) (hw : waits md ops X i = true) (hiX : i ∉ X) :
    ∀ (fuel : Nat) (listed : Array Bool) (a : Act) (w : World),
      (∀ j oj, ops[j]? = some oj → j ≠ i → listed.getD j true = false → (∀ e ∈ oj.after, Region.binds md e = true → e.on ≠ i) → oi.apart ops oj = true) →
      i ∈ Region.ready md ops listed → YieldsIf P ops S oi v a → S w →
      anyX P md ops Q S X fuel (listed.setIfInBounds i true) (a.put oi.dst v) w → anyX P md ops Q S X (fuel + 1) listed a w := by
  intro fuel
  induction fuel with
  | zero =>
    intro listed a w _ hr hy hS H
    refine ⟨fun h => (by rw [h] at hr; cases hr), fun j hj => ?_⟩
    by_cases hji : j = i
    · subst hji; exact hy.wpOp hi hS ⟨fun _ => hS, H⟩
    · have := ready_mono hj hji
      rw [H.1] at this
      cases this
  | succ fuel ih =>
    intro listed a w hfree hr hy hS H
    refine ⟨fun h => (by rw [h] at hr; cases hr), fun j hj => ?_⟩
    by_cases hji : j = i
    · subst hji; exact hy.wpOp hi hS ⟨fun _ => hS, H⟩
    · have h1 := H.2 j (ready_mono hj hji)
      obtain ⟨hjun, oj, hoj, hall⟩ := mem_ready.1 hj
      have hnot : ∀ e ∈ oj.after, Region.binds md e = true → e.on ≠ i := fun e he hb heq => by
        have h1 := hall e he hb
        have h0 := (mem_ready.1 hr).1
        rw [heq] at h1
        rcases Nat.lt_or_ge i listed.size with h' | h'
        · simp [h'] at h0 h1; rw [h0] at h1; cases h1
        · simp [Array.getElem?_eq_none h'] at h1
      have hjX : j ∉ X := fun hx => by
        have hwj := List.all_eq_true.1 hw j hx
        rw [hoj] at hwj
        obtain ⟨k, hk, hb⟩ := Array.any_eq_true.1 hwj
        simp only [Bool.and_eq_true, beq_iff_eq] at hb
        exact hnot _ (Array.getElem_mem hk) hb.1 hb.2
      have h2 := wpOp_putIf hoj (hfree j oj hoj hji hjun hnot) (fun cs b => hsel i oi cs b hi) (fun cs b => hsel j oj cs b hoj) hQ hy h1
      have hfree' : ∀ k ok, ops[k]? = some ok → k ≠ i → (listed.setIfInBounds j true).getD k true = false →
          (∀ e ∈ ok.after, Region.binds md e = true → e.on ≠ i) → oi.apart ops ok = true := fun k ok hk hki hun hno => by
        refine hfree k ok hk hki ?_ hno
        by_cases hjk : j = k
        · subst hjk; exact hjun
        · rw [getD_set_ne true hjk] at hun; exact hun
      refine wpOp_mono (fun a' w' h3 => ⟨h3.2.1, ih (listed.setIfInBounds j true) a' w' hfree' (ready_mono hr (Ne.symm hji)) h3.1 (h3.2.1 hjX) ?_⟩) h2
      rw [Array.setIfInBounds_comm _ _ hji]
      exact h3.2.2

/-- Take number i first. -/
theorem anyX_take {S : World → Prop} {X : List Nat} {i : Nat} {oi : Oper} {v : Value} {fuel : Nat} {listed : Array Bool} {a : Act} {w : World} (hi : ops[i]? = some oi)
    (hs : Region.noSelect ops = true) (hf : Region.free md ops listed i = true) (hr : (Region.ready md ops listed).contains i = true) (hw : waits md ops X i = true) (hiX : X.contains i = false)
    (hQ : ∀ c a w, Q (.panic c) (a.put oi.dst v) w → Q (.panic c) a w) (hy : YieldsIf P ops S oi v a) (hS : S w)
    (h : anyX P md ops Q S X fuel (listed.setIfInBounds i true) (a.put oi.dst v) w) : anyX P md ops Q S X (fuel + 1) listed a w :=
  anyX_first hi (Region.noSelect_spec hs) hQ hw (by simpa using hiX) fuel listed a w (Region.free_spec hi hf) (by simpa using hr) hy hS h

/-- Take number i first; the frame behind it gets a name. -/
theorem anyX_takeN {S : World → Prop} {X : List Nat} (i : Nat) {oi : Oper} {v : Value} {d : Tmp} {fuel : Nat} {listed : Array Bool} {tm : Array Value} {ds : List Deferred} {w : World} (hi : ops[i]? = some oi) (hd : oi.dst = some d)
    (hs : Region.noSelect ops = true) (hf : Region.free md ops listed i = true) (hr : (Region.ready md ops listed).contains i = true) (hw : waits md ops X i = true) (hiX : X.contains i = false)
    (hQ : ∀ c a w, Q (.panic c) (a.put oi.dst v) w → Q (.panic c) a w) (hg : oi.guard = none) (hy : ∀ w, S w → (execOp (Act.eval ⟨tm, ds⟩) oi).run P w = .ok (.value v) w) (hS : S w)
    (h : ∀ tm', tm.setIfInBounds d v = tm' → anyX P md ops Q S X fuel (listed.setIfInBounds i true) ⟨tm', ds⟩ w) : anyX P md ops Q S X (fuel + 1) listed ⟨tm, ds⟩ w := by
  refine anyX_take hi hs hf hr hw hiX hQ (.inl ⟨by simp [Region.wanted, hg], hy⟩) hS ?_
  have := h _ rfl
  simpa only [Act.put, hd] using this

/-- One alone may come up. -/
theorem anyX_one {S : World → Prop} {X : List Nat} {i : Nat} {o : Oper} {fuel : Nat} {listed : Array Bool} {a : Act} {w : World} (hr : Region.ready md ops listed = [i]) (ho : ops[i]? = some o) (hg : o.guard = none)
    (h : ∀ K : Act → World → Prop, (∀ a' w', (X.contains i = false → S w') → anyX P md ops Q S X fuel (listed.setIfInBounds i true) a' w' → K a' w') → o.wp P a w K Q) : anyX P md ops Q S X (fuel + 1) listed a w := by
  refine ⟨fun h0 => (by rw [h0] at hr; cases hr), fun j hj => ?_⟩
  rw [hr] at hj
  obtain rfl : j = i := by simpa using hj
  unfold wpOp
  simp only [ho, Region.wanted, hg, if_true]
  exact .inl (h _ fun a' w' k1 k2 => ⟨fun hn => k1 (by simpa using hn), k2⟩)

/-- Take number i, guarded, first; the frame behind it gets a name. -/
theorem anyX_takeW {S : World → Prop} {X : List Nat} (i : Nat) {oi : Oper} {v : Value} {d : Tmp} {fuel : Nat} {listed : Array Bool} {tm : Array Value} {ds : List Deferred} {w : World} (hi : ops[i]? = some oi) (hd : oi.dst = some d)
    (hs : Region.noSelect ops = true) (hf : Region.free md ops listed i = true) (hr : (Region.ready md ops listed).contains i = true) (hw : waits md ops X i = true) (hiX : X.contains i = false)
    (hQ : ∀ c a w, Q (.panic c) (a.put oi.dst v) w → Q (.panic c) a w) (hg : Region.wanted oi (yielded ops tm) = true) (hy : ∀ w, S w → (execOp (Act.eval ⟨tm, ds⟩) oi).run P w = .ok (.value v) w) (hS : S w)
    (h : ∀ tm', tm.setIfInBounds d v = tm' → anyX P md ops Q S X fuel (listed.setIfInBounds i true) ⟨tm', ds⟩ w) : anyX P md ops Q S X (fuel + 1) listed ⟨tm, ds⟩ w := by
  refine anyX_take hi hs hf hr hw hiX hQ (.inl ⟨hg, hy⟩) hS ?_
  have := h _ rfl
  simpa only [Act.put, hd] using this
/-- One alone may come up; it is guarded. -/
theorem anyX_oneW {S : World → Prop} {X : List Nat} {i : Nat} {o : Oper} {fuel : Nat} {listed : Array Bool} {a : Act} {w : World} (hr : Region.ready md ops listed = [i]) (ho : ops[i]? = some o) (hg : Region.wanted o (yielded ops a.tmps) = true)
    (h : ∀ K : Act → World → Prop, (∀ a' w', (X.contains i = false → S w') → anyX P md ops Q S X fuel (listed.setIfInBounds i true) a' w' → K a' w') → o.wp P a w K Q) : anyX P md ops Q S X (fuel + 1) listed a w := by
  refine ⟨fun h0 => (by rw [h0] at hr; cases hr), fun j hj => ?_⟩
  rw [hr] at hj
  obtain rfl : j = i := by simpa using hj
  unfold wpOp
  simp only [ho, hg, if_true]
  exact .inl (h _ fun a' w' k1 k2 => ⟨fun hn => k1 (by simpa using hn), k2⟩)

theorem anyX_done {S : World → Prop} {X : List Nat} {listed : Array Bool} {a : Act} {w : World} (hr : Region.ready md ops listed = []) (h : Q .normal a w) : ∀ fuel, anyX P md ops Q S X fuel listed a w
  | 0 => ⟨hr, h⟩
  | _ + 1 => ⟨fun _ => h, by rw [hr]; simp⟩

/-- A region that draws, in a round: as in any other frame. S: what is known of the world till the operations of X. -/
theorem round_region {id : Nat} {a : Act} {w : World} (S : World → Prop) (X : List Nat) (hm : P.follows .mixedOrders = true) (hnd : noDefer ops = true) (hQ : ¬ LetsOut Q)
    (h : anyX P .any ops Q S X ops.size (Array.replicate ops.size false) a w.drew) : (Code.region id ops true).wpIn (Fence.wide.inRound l) n P Q a w :=
  wpIn_region_any hm (anyIn_of_any hnd hQ _ _ _ _ (any_of_anyX _ _ _ _ h))

/-- The same in a frame of any function. -/
theorem plain_region {id : Nat} {a : Act} {w : World} (S : World → Prop) (X : List Nat) (hm : P.follows .mixedOrders = true)
    (h : anyX P .any ops Q S X ops.size (Array.replicate ops.size false) a w.drew) : (Code.region id ops true).wp P Q a w :=
  wp_region_any hm (any_of_anyX _ _ _ _ h)
/-- The same, where nothing panics. -/
theorem plain_regionN {id : Nat} {a : Act} {w : World} (S : World → Prop) (X : List Nat) (hm : P.follows .mixedOrders = true)
    (h : anyX P .any ops (NoPanic Q) S X ops.size (Array.replicate ops.size false) a w.drew) : (Code.region id ops true).wp P Q a w :=
  wp_region_noPanic (plain_region S X hm h)
end

theorem foldl2 (t : Array Value) (a b : Tmp) (x y : Value) : Array.foldl (fun t (z : Tmp × Value) => match z with | (p, v) => t.setIfInBounds p v) t (#[a, b].zip #[x, y]) = (t.setIfInBounds a x).setIfInBounds b y := by simp

theorem set_same {α : Type} (l : List α) (k : Nat) (a : α) (h : l[k]? = some a) : l.set k a = l := by
  apply List.ext_getElem?
  intro i
  by_cases e : i = k
  · subst e
    have hlt : i < l.length := (List.getElem?_eq_some_iff.1 h).1
    simp [hlt] at h ⊢
    exact h.symm
  · rw [List.getElem?_set_ne (Ne.symm e)]

theorem cell_alloc {w : World} {a : Addr} {v : Value} (h : w.cell? a = some v) (o : Obj) : (w.alloc o).cell? a = some v :=
  (World.cell?_alloc_lt _ _ _ (World.block_lt_of_cell? w a h)).trans h

end Go.Proofs.YtnehiooioodkfaaDoor
