/-
  ITERN: an iterator that copies first: the loop's body may turn what it hands out.
-/
import Derived.Test.YtppikbdeopagkaaIter
set_option linter.unusedVariables false
set_option linter.unusedSimpArgs false
namespace Go.Proofs.Ytppikbdeopagkaa
open Go Go.RowKit
/-- An iterator, from where its range begins. -/
def IterN (P : Program) (gf : Nat) (lb : Array Value) (xs : List (Array Value)) (pi pb : List Nat) (w : World) (ow : Ow) : Prop :=
  ∀ (l : Nat) (J Jx : Nat → World → Ow → Prop) (W : World) (OW : Ow), New w ow W OW → (∀ k, Stab pi (J k)) → (∀ k, Stab pi (Jx k)) →
    (∀ k args W OW, xs[k]? = some args → J k W OW → YieldAt Fence.wide 0 P l args W fun e W' => ∃ OW', Turn pb W OW W' OW' ∧ ((e = .returned (.bool true) ∧ J (k + 1) W' OW') ∨ (e = .returned (.bool false) ∧ Jx (k + 1) W' OW'))) →
    J 0 W OW →
    CallsIn Fence.wide 0 P gf (#[.func (.yield l) #[] #[]] ++ lb) W fun e W' => ∃ v OW', e = .returned v ∧ (J xs.length W' OW' ∨ ∃ k, k ≤ xs.length ∧ Jx k W' OW')


theorem wp_rangeN {P : Program} {g : Operand} {ps : Array Tmp} {assign body : Code} {Q : Exit → Act → World → Prop} {a : Act} {w : World} {ow : Ow}
    {gf : Nat} {lb : Array Value} (hg : a.eval g = .func (.func gf) #[] lb) (eg : ∀ args w, (callFunc gf args).run P w = .ok (.enter gf args) w)
    (xs : List (Array Value)) (pi pb pl : List Nat) (hit : IterN P gf lb xs pi pb w ow) (hpl : pb <+: pl) (hpi : ¬ pi <+: pl) (hps : ∀ (k : Nat) (args : Array Value), xs[k]? = some args → args.size = ps.size)
    (I : Nat → World → Ow → Prop) (Ix : Code → Nat → World → Ow → Prop) (sI : ∀ k, Stab pi (I k)) (sX : ∀ c k, Stab pi (Ix c k)) (sI' : ∀ k, Stab pl (I k)) (sX' : ∀ c k, Stab pl (Ix c k))
    (h0 : I 0 w ow)
    (hround : ∀ (l D k : Nat) (rr rb : Loop) (args : Array Value) (W : World) (OW : Ow), xs[k]? = some args → I k W OW → Book pl l D rr W OW →
      assign.wpIn (Fence.wide.inRound l) 0 P (Exit.then (roundHead P pb pl l D rr rb body I Ix k W OW) (fun _ _ _ => False))
        { tmps := (ps.zip args).foldl (fun t (p, v) => t.setIfInBounds p v) a.tmps, defers := [] } W)
    (hdone : ∀ (D : Nat) (W : World) (OW : Ow), I xs.length W OW → W.heap[D]? = some (.deferred (some [])) → OW D 0 = pl → w.heap.size ≤ D → Q .normal { a with defers := { target := .collected D, args := #[] } :: a.defers } W)
    (hstop : ∀ (D : Nat) (c : Code) (k : Nat) (W : World) (OW : Ow), k ≤ xs.length → Ix c k W OW → W.heap[D]? = some (.deferred (some [])) → OW D 0 = pl → w.heap.size ≤ D → c.wp P Q { a with defers := { target := .collected D, args := #[] } :: a.defers } W) :
    (Code.rangeFunc g ps assign body).wp P Q a w := by
  rw [← wpIn_wide (n := 0)]
  refine wpIn_rangeFunc ?_
  intro fn hfn
  obtain ⟨rec, hrec⟩ : ∃ rec : LoopState → Option Code → Loop, rec = fun st pe => { state := st, pending := pe, fn, tmps := a.tmps, params := ps, assign, body, defers := w.heap.size } := ⟨_, rfl⟩
  obtain ⟨W1, hW1⟩ : ∃ W1, (w.alloc (.deferred (some []))).alloc (.loop (rec .ready none)) = W1 := ⟨_, rfl⟩
  obtain ⟨OW1, hOW1⟩ : ∃ OW1, (ow.set w.heap.size pl).set (w.alloc (.deferred (some []))).heap.size pl = OW1 := ⟨_, rfl⟩
  have hn1 : New w ow W1 OW1 := by
    rw [← hW1, ← hOW1]
    exact ((New.refl w ow).alloc _ _).alloc _ _
  have hB1 : Book pl (w.heap.size + 1) w.heap.size (rec .ready none) W1 OW1 := by
    rw [← hW1, ← hOW1]
    refine ⟨?_, ?_, ?_, ?_⟩
    · have := World.alloc_heap_new (w.alloc (.deferred (some []))) (.loop (rec .ready none)); rwa [World.size_alloc] at this
    · exact (Below.heap_alloc _ _ _ (by simp)).trans (World.alloc_heap_new w _)
    · rw [World.size_alloc]; exact Ow.set_same _ _ _ _
    · rw [World.size_alloc, Ow.set_other _ _ _ _ (by omega)]; exact Ow.set_same _ _ _ _
  have hI1 : I 0 W1 OW1 := sI 0 _ _ _ _ h0 (hn1.turn _)
  refine ⟨w.heap.size + 1, [{ target := .collected w.heap.size, args := #[] }], W1, { target := .fn (.func gf) lb, args := #[.func (.yield (w.heap.size + 1)) #[] #[]] }, W1, gf,
    #[.func (.yield (w.heap.size + 1)) #[] #[]] ++ lb, W1, ?_, ?_, fun _ _ => trivial, ?_, fun h => by simp [Fence.wide] at h, ?_⟩
  · rw [← hW1, hrec]; exact run_enterLoop_outer _ _ _ _ _
  · simp only [resolve, hg]
    simp [go_sem]
  · simp [invoke, go_sem, eg]
  · refine CallsIn.mono (hit (w.heap.size + 1) (fun k W OW => I k W OW ∧ Book pl (w.heap.size + 1) w.heap.size (rec .ready none) W OW)
      (fun k W OW => ∃ c, Ix c k W OW ∧ Book pl (w.heap.size + 1) w.heap.size (rec .done (some c)) W OW) W1 OW1 hn1
      (fun k W OW W' OW' h t => ⟨sI k _ _ _ _ h.1 t, h.2.turn t hpi⟩) (fun k W OW W' OW' ⟨c, h, hb⟩ t => ⟨c, sX c k _ _ _ _ h t, hb.turn t hpi⟩) ?_ ⟨hI1, hB1⟩) ?_
    · rintro k args W OW hx ⟨hi, hb⟩
      have hy := run_yield (P := P) (args := args) hb.loop (by rw [hrec]; exact hps _ _ hx)
      rw [hrec] at hy
      refine ⟨fn, _, assign, body, hy, roundIn_wide (m := 0) (roundIn_of_wpIn hfn (wpIn_mono (hround _ _ k _ (rec .busy none) args W OW hx hi hb) ?_))⟩
      rintro e a1 w1 he
      cases e with
      | normal =>
        obtain ⟨OW₁, t1, b1, hbody⟩ := he
        refine ⟨w1.putObj (w.heap.size + 1) (.loop (rec .busy none)), ?_, wpIn_mono (hbody _ ((Turn.refl _ _ _).putObj b1.loop rfl (by rw [b1.ol]; exact List.prefix_refl _) _) (b1.putLoop _)) ?_⟩
        · have := run_beginRound (P := P) b1.loop (by rw [hrec])
          rw [hrec] at this ⊢
          exact this
        · have fin : ∀ (jump : Option Code) (W3 : World) (OW3 : Ow), Book pl (w.heap.size + 1) w.heap.size (rec .busy none) W3 OW3 →
              (Instr.endRound (w.heap.size + 1) jump).run P W3 = .ok (.bool jump.isNone) (W3.putObj (w.heap.size + 1) (.loop (rec (if jump.isNone then .ready else .done) jump))) := fun jump W3 OW3 b3 => by
            have := run_endRound (P := P) jump b3.loop
            rw [hrec] at this ⊢
            exact this
          have tt : ∀ (W3 : World) (OW3 : Ow) (r : Loop), Turn pb (w1.putObj (w.heap.size + 1) (.loop (rec .busy none))) OW₁ W3 OW3 → Book pl (w.heap.size + 1) w.heap.size (rec .busy none) W3 OW3 → Turn pb W OW (W3.putObj (w.heap.size + 1) (.loop r)) OW3 := fun W3 OW3 r t3 b3 =>
            ((t1.putObj b1.loop rfl (by rw [b1.ol]; exact hpl) _).trans t3).putObj b3.loop rfl (by rw [b3.ol]; exact hpl) _
          rintro e a3 W3 hp
          cases e with
          | normal =>
            obtain ⟨OW3, t3, b3, hi3⟩ := hp
            exact ⟨_, _, fin none W3 OW3 b3, OW3, tt _ _ _ t3 b3, .inl ⟨rfl, sI' _ _ _ _ _ hi3 ((Turn.refl _ _ _).putObj b3.loop rfl (by rw [b3.ol]; exact List.prefix_refl _) _), b3.putLoop _⟩⟩
          | ret =>
            obtain ⟨OW3, t3, b3, hi3⟩ := hp
            exact ⟨_, _, fin (some .ret) W3 OW3 b3, OW3, tt _ _ _ t3 b3, .inr ⟨rfl, .ret, sX' _ _ _ _ _ _ hi3 ((Turn.refl _ _ _).putObj b3.loop rfl (by rw [b3.ol]; exact List.prefix_refl _) _), b3.putLoop _⟩⟩
          | exit id =>
            obtain ⟨OW3, t3, b3, hi3⟩ := hp
            exact ⟨_, _, fin (some (.exit id)) W3 OW3 b3, OW3, tt _ _ _ t3 b3, .inr ⟨rfl, .exit id, sX' _ _ _ _ _ _ hi3 ((Turn.refl _ _ _).putObj b3.loop rfl (by rw [b3.ol]; exact List.prefix_refl _) _), b3.putLoop _⟩⟩
          | goto t =>
            obtain ⟨OW3, t3, b3, hi3⟩ := hp
            exact ⟨_, _, fin (some (.goto t)) W3 OW3 b3, OW3, tt _ _ _ t3 b3, .inr ⟨rfl, .goto t, sX' _ _ _ _ _ _ hi3 ((Turn.refl _ _ _).putObj b3.loop rfl (by rw [b3.ol]; exact List.prefix_refl _) _), b3.putLoop _⟩⟩
          | panic ch => exact hp.elim
          | outgrown => exact hp.elim
      | _ => exact he.elim
    · rintro e W2 ⟨v, OW2, rfl, (⟨hi, hb⟩ | ⟨k, hk, c, hi, hb⟩)⟩
      · refine ⟨none, _, by have := run_endLoop (P := P) hb.loop (by rw [hrec]; simp); rw [hrec] at this; exact this, ?_⟩
        exact hdone w.heap.size _ OW2 (sI' _ _ _ _ _ hi ((Turn.refl _ _ _).putObj hb.loop rfl (by rw [hb.ol]; exact List.prefix_refl _) _)) ((hb.putLoop _).defs) hb.od (Nat.le_refl _)
      · refine ⟨some c, _, by have := run_endLoop (P := P) hb.loop (by rw [hrec]; simp); rw [hrec] at this; exact this, ?_⟩
        show c.wpIn Fence.wide 0 P Q _ _
        rw [wpIn_wide]
        exact hstop w.heap.size c k _ OW2 hk (sX' _ _ _ _ _ _ hi ((Turn.refl _ _ _).putObj hb.loop rfl (by rw [hb.ol]; exact List.prefix_refl _) _)) ((hb.putLoop _).defs) hb.od (Nat.le_refl _)


end Go.Proofs.Ytppikbdeopagkaa
