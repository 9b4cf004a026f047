/-
  LAW 7: QueuePlays: the walk.
-/
import Derived.Test.YtnpcikghgfbfoaaLaw7
import Derived.Deep.DeepCutAuto
import Derived.Deep.LoopGhost
import Derived.Test.YtnpcikghgfbfoaaQF2
import Derived.Test.YtnpcikghgfbfoaaEWtA
import Derived.Test.YtnpcikghgfbfoaaQR
import Derived.Test.YtnpcikghgfbfoaaQOP
namespace Go.Proofs.Ytnpcikghgfbfoaa
open Go Go.RowKit
namespace EQ
open EWt

/-- The program's queue, the document's, and the book: what is known of them. -/
def PS (w W : World) (OW : Ow) (g gw gk : Nat) (l : List Wt) (N : Nat) : Prop :=
  QA W OW [1, 0] g l ∧ RQ W OW [1, 1] gw l ∧ EWt.Book W OW [1, 2] gk 0 N ∧ Turn [1] w ow0 W OW
section
variable {w W W1 : World} {OW OW1 : Ow} {g gw gk N : Nat} {l : List Wt}
theorem PS.new_ (h : PS w W OW g gw gk l N) (n : New W OW W1 OW1) : PS w W1 OW1 g gw gk l N := ⟨h.1.new_ n, h.2.1.new_ n, h.2.2.1.new_ n, h.2.2.2.trans (n.turn _)⟩
theorem PS.few (h : PS w W OW g gw gk l N) : l.length ≤ 512 := h.1.1.length
theorem PS.below (h : PS w W OW g gw gk l N) : Below w.heap.size w W := (h.2.2.2.new_ ow0 [1]).below
end
theorem r_putE (w : World) (ow : Ow) (p : List Nat) (g : Nat) (l : List Wt) (h : RQ w ow p g l) (hl : l.length ≤ 512) (t lv j : Int) (e : Int) (m : List Wt) (hr : putA l t lv j = (e, m)) :
    Calls Try.prog 16 #[.pointer (some ⟨g, 0, none⟩), .int .i64 t, .int .i64 lv, .int .i64 j] w (LeftR w ow p g (.int .i64 e) m) := by
  have := r_put w ow p g l h hl t lv j
  rwa [hr] at this
theorem r_takeE (w : World) (ow : Ow) (p : List Nat) (g : Nat) (l : List Wt) (h : RQ w ow p g l) (hl : l.length ≤ 512) (v : Value) (m : List Wt) (h1 : firstV l = v) (h2 : takeL l = m) :
    Calls Try.prog 17 #[.pointer (some ⟨g, 0, none⟩)] w (LeftR w ow p g v m) := by
  have := r_take w ow p g l h hl
  rwa [h1, h2] at this
theorem firstV_form (l : List Wt) : ∃ (a t v : Int) (b : Bool), firstV l = .tuple #[.agg #[.int .i64 a, .int .i64 t, .int .i64 v], .bool b] := by
  unfold firstV
  split
  · exact ⟨_, _, _, _, rfl⟩
  · exact ⟨_, _, _, _, rfl⟩

/-- What the script's loop keeps. -/
def playRel (w : World) (g gw gk n gn : Nat) (i : Value) (wr : World) : Prop :=
  ∃ (k N : Nat) (OW : Ow) (l : List Wt), gn = n - k ∧ k ≤ n ∧ i = .int .i64 (k : Int) ∧ PS w wr OW g gw gk l N

set_option maxRecDepth 100000 in
set_option maxHeartbeats 40000000 in
theorem plays (w : World) (v : Value) (xs : List Op7) (h : In7 w v xs) : Calls Try.prog 5 #[v] w fun e w' => e = .returned (.bool true) ∧ Below w.heap.size w w' := by
  have hfew := few w v xs 250 h (by omega)
  have Hfew := Lib.hid hfew
  clear hfew h
  go_enter Try.func5, Try.ntmps5
  go_wp2_with fail
  refine Hfew.out.mono ?_
  rintro e w1 ⟨v1, rfl, h1, rfl⟩
  have hlen : (xs.take 250).length ≤ 250 := by rw [List.length_take]; omega
  generalize hys : xs.take 250 = ys at *
  clear hys Hfew xs
  go_wp2_with fail
  refine (newA w1 ow0 [1, 0]).mono ?_
  rintro e w2 ⟨g, ow2, rfl, q2, n2, hg⟩
  have t2 := n2.turn [1]
  clear n2 hg
  obtain ⟨A, cap, rfl, hcap, hmax, hcell⟩ := h1
  have Hcell := Lib.hid hcell
  clear hcell
  go_wp2_with fail
  have hst : ∃ OW, PS w1 ((w2.alloc (Obj.cells #[.slice none 0 0] 50)).alloc (Obj.cells #[.slice none 0 0, .slice none 0 0, .int .i64 0, .bool false] 53)) OW g w2.heap.size (w2.heap.size + 1) [] 0 := by
    have nA := (New.refl w2 ow2).alloc (Obj.cells #[.slice none 0 0] 50) [1, 1, 0]
    have hA := Cells.new w2 ow2 [1, 1, 0] [.slice none 0 0] 50
    have nB := (New.refl (w2.alloc (Obj.cells #[.slice none 0 0] 50)) (ow2.set w2.heap.size [1, 1, 0])).alloc (Obj.cells #[.slice none 0 0, .slice none 0 0, .int .i64 0, .bool false] 53) [1, 2, 0]
    have hB := Cells.new (w2.alloc (Obj.cells #[.slice none 0 0] 50)) (ow2.set w2.heap.size [1, 1, 0]) [1, 2, 0] [.slice none 0 0, .slice none 0 0, .int .i64 0, .bool false] 53
    rw [World.size_alloc] at hB nB
    exact ⟨_, (q2.new_ nA).new_ nB, RQ.new_ ⟨_, hA, Row.nil _ _ _ _ _⟩ nB, EWt.Book.nil (p := [1, 2]) 0 hB, (t2.trans (nA.turn _)).trans (nB.turn _)⟩
  obtain ⟨OW3, hst⟩ := hst
  generalize hW3 : ((w2.alloc (Obj.cells #[.slice none 0 0] 50)).alloc (Obj.cells #[.slice none 0 0, .slice none 0 0, .int .i64 0, .bool false] 53)) = w3 at *
  generalize hGW : w2.heap.size = gw at *
  clear hW3 hGW q2 t2
  go_loopg [6] ys.length (fun gn i wr => playRel w1 g gw (gw + 1) ys.length gn i wr)
  case atStart => exact ⟨0, 0, OW3, [], rfl, Nat.zero_le _, rfl, hst⟩
  case round =>
    clear hst
    obtain ⟨k, N, OW, l, hgk, hk, rfl, st⟩ := hrel
    have Hgk := Lib.hid hgk
    clear hgk
    by_cases hlt : k < ys.length
    · obtain ⟨x, hx⟩ : ∃ x, ys[k]? = some x := ⟨_, List.getElem?_eq_getElem hlt⟩
      obtain ⟨b, off, rfl, c0, c1, c2, c3⟩ := Hcell.out k x hx
      have bl := st.below
      have hb : b < w1.heap.size := World.block_lt_of_cell? w1 _ c0
      have hn : ∀ o, wr.cell? ⟨b, o, none⟩ = w1.cell? ⟨b, o, none⟩ := fun o => bl.cell hb
      have c0 := (hn _).trans c0
      have c1 := (hn _).trans c1
      have c2 := (hn _).trans c2
      have c3 := (hn _).trans c3
      have i0 : (k : Int) < (ys.length : Int) := by omega
      have nO := (New.refl wr OW).alloc (Obj.cells #[Value.int .i64 x.kind, Value.int .i64 x.task, Value.int .i64 x.level, Value.int .i64 x.job] 45) [1, 4]
      have hO := Cells.new wr OW [1, 4] [Value.int .i64 x.kind, Value.int .i64 x.task, Value.int .i64 x.level, Value.int .i64 x.job] 45
      have st := st.new_ nO
      change Cells (wr.alloc (Obj.cells #[Value.int .i64 x.kind, Value.int .i64 x.task, Value.int .i64 x.level, Value.int .i64 x.job] 45)) _ _ _ _ _ at hO
      clear hn bl hx nO
      go_upto_if 54 with fail
      generalize hO4 : OW.set wr.heap.size [1, 4] = OW4 at *
      generalize hW4 : wr.alloc (Obj.cells #[Value.int .i64 x.kind, Value.int .i64 x.task, Value.int .i64 x.level, Value.int .i64 x.job] 45) = W4 at *
      generalize hOb : wr.heap.size = Ob at *
      clear hO4 hW4 hOb c0 c1 c2 c3
      go_cut [54] (fun s54 wx => s54 = .bool false ∧ ∃ OW' l', PS w1 wx OW' g gw (gw + 1) l' N ∧ Cells wx OW' [1, 4] Ob 0 [Value.int .i64 x.kind, Value.int .i64 x.task, Value.int .i64 x.level, Value.int .i64 x.job])
      case first =>
        have o0 := hO.get 0 rfl
        have o1 := hO.get 1 rfl
        have o2 := hO.get 2 rfl
        have o3 := hO.get 3 rfl
        simp only [Nat.zero_add] at o0 o1 o2 o3
        by_cases k0 : x.kind = 0
        · have b0 : (x.kind == 0) = true := beq_iff_eq.2 k0
          clear k0
          obtain ⟨q, r, bk, t⟩ := st
          obtain ⟨e, l', hput⟩ : ∃ e m, putA l x.task x.level x.job = (e, m) := ⟨_, _, rfl⟩
          have hl := q.1.length
          go_wp2_with fail
          refine plain_regionN (fun W' => W'.cell? ⟨Ob, 0, none⟩ = some (.int .i64 x.kind) ∧ W'.cell? ⟨Ob, 1, none⟩ = some (.int .i64 x.task) ∧ W'.cell? ⟨Ob, 2, none⟩ = some (.int .i64 x.level) ∧ W'.cell? ⟨Ob, 3, none⟩ = some (.int .i64 x.job)) [] (by kernel_rfl) ?_
          have hS : (fun W' : World => W'.cell? ⟨Ob, 0, none⟩ = some (.int .i64 x.kind) ∧ W'.cell? ⟨Ob, 1, none⟩ = some (.int .i64 x.task) ∧ W'.cell? ⟨Ob, 2, none⟩ = some (.int .i64 x.level) ∧ W'.cell? ⟨Ob, 3, none⟩ = some (.int .i64 x.job)) W4.drew := ⟨o0, o1, o2, o3⟩
          refine anyX_takeN 0 (v := ?va0) rfl rfl (by kernel_rfl) (by kernel_rfl) (by kernel_rfl) (by kernel_rfl) (by kernel_rfl) (fun _ _ _ h => h) rfl ?ya0 hS ?ra0
          case ya0 =>
            intro W' hW'
            obtain ⟨s0, s1, s2, s3⟩ := hW'
            all_goals (go_simp; first | done | rfl)
          intro tm' htm
          simp only [List.setIfInBounds_toArray, List.set_cons_succ, List.set_cons_zero] at htm
          subst htm
          refine anyX_takeN 1 (v := ?va1) rfl rfl (by kernel_rfl) (by kernel_rfl) (by kernel_rfl) (by kernel_rfl) (by kernel_rfl) (fun _ _ _ h => h) rfl ?ya1 hS ?ra1
          case ya1 =>
            intro W' hW'
            obtain ⟨s0, s1, s2, s3⟩ := hW'
            all_goals (go_simp; first | done | rfl)
          intro tm' htm
          simp only [List.setIfInBounds_toArray, List.set_cons_succ, List.set_cons_zero] at htm
          subst htm
          refine anyX_takeN 2 (v := ?va2) rfl rfl (by kernel_rfl) (by kernel_rfl) (by kernel_rfl) (by kernel_rfl) (by kernel_rfl) (fun _ _ _ h => h) rfl ?ya2 hS ?ra2
          case ya2 =>
            intro W' hW'
            obtain ⟨s0, s1, s2, s3⟩ := hW'
            all_goals (go_simp; first | done | rfl)
          intro tm' htm
          simp only [List.setIfInBounds_toArray, List.set_cons_succ, List.set_cons_zero] at htm
          subst htm
          refine anyX_takeN 3 (v := ?va3) rfl rfl (by kernel_rfl) (by kernel_rfl) (by kernel_rfl) (by kernel_rfl) (by kernel_rfl) (fun _ _ _ h => h) rfl ?ya3 hS ?ra3
          case ya3 =>
            intro W' hW'
            obtain ⟨s0, s1, s2, s3⟩ := hW'
            all_goals (go_simp; first | done | rfl)
          intro tm' htm
          simp only [List.setIfInBounds_toArray, List.set_cons_succ, List.set_cons_zero] at htm
          subst htm
          refine anyX_takeW 4 (v := ?va4) rfl rfl (by kernel_rfl) (by kernel_rfl) (by kernel_rfl) (by kernel_rfl) (by kernel_rfl) (fun _ _ _ h => h) (by rfl) ?ya4 hS ?ra4
          case ya4 =>
            intro W' hW'
            obtain ⟨s0, s1, s2, s3⟩ := hW'
            all_goals (go_simp; first | done | rfl)
          intro tm' htm
          simp only [List.setIfInBounds_toArray, List.set_cons_succ, List.set_cons_zero] at htm
          subst htm
          refine anyX_takeW 5 (v := ?va5) rfl rfl (by kernel_rfl) (by kernel_rfl) (by kernel_rfl) (by kernel_rfl) (by kernel_rfl) (fun _ _ _ h => h) (by rfl) ?ya5 hS ?ra5
          case ya5 =>
            intro W' hW'
            obtain ⟨s0, s1, s2, s3⟩ := hW'
            all_goals (go_simp; first | done | rfl)
          intro tm' htm
          simp only [List.setIfInBounds_toArray, List.set_cons_succ, List.set_cons_zero] at htm
          subst htm
          refine anyX_takeW 6 (v := ?va6) rfl rfl (by kernel_rfl) (by kernel_rfl) (by kernel_rfl) (by kernel_rfl) (by kernel_rfl) (fun _ _ _ h => h) (by rfl) ?ya6 hS ?ra6
          case ya6 =>
            intro W' hW'
            obtain ⟨s0, s1, s2, s3⟩ := hW'
            all_goals (go_simp; first | done | rfl)
          intro tm' htm
          simp only [List.setIfInBounds_toArray, List.set_cons_succ, List.set_cons_zero] at htm
          subst htm
          refine anyX_takeW 7 (v := ?va7) rfl rfl (by kernel_rfl) (by kernel_rfl) (by kernel_rfl) (by kernel_rfl) (by kernel_rfl) (fun _ _ _ h => h) (by rfl) ?ya7 hS ?ra7
          case ya7 =>
            intro W' hW'
            obtain ⟨s0, s1, s2, s3⟩ := hW'
            all_goals (go_simp; first | done | rfl)
          intro tm' htm
          simp only [List.setIfInBounds_toArray, List.set_cons_succ, List.set_cons_zero] at htm
          subst htm
          refine anyX_takeW 8 (v := ?va8) rfl rfl (by kernel_rfl) (by kernel_rfl) (by kernel_rfl) (by kernel_rfl) (by kernel_rfl) (fun _ _ _ h => h) (by rfl) ?ya8 hS ?ra8
          case ya8 =>
            intro W' hW'
            obtain ⟨s0, s1, s2, s3⟩ := hW'
            all_goals (go_simp; first | done | rfl)
          intro tm' htm
          simp only [List.setIfInBounds_toArray, List.set_cons_succ, List.set_cons_zero] at htm
          subst htm
          refine anyX_takeW 9 (v := ?va9) rfl rfl (by kernel_rfl) (by kernel_rfl) (by kernel_rfl) (by kernel_rfl) (by kernel_rfl) (fun _ _ _ h => h) (by rfl) ?ya9 hS ?ra9
          case ya9 =>
            intro W' hW'
            obtain ⟨s0, s1, s2, s3⟩ := hW'
            all_goals (go_simp; first | done | rfl)
          intro tm' htm
          simp only [List.setIfInBounds_toArray, List.set_cons_succ, List.set_cons_zero] at htm
          subst htm
          refine anyX_takeW 10 (v := ?va10) rfl rfl (by kernel_rfl) (by kernel_rfl) (by kernel_rfl) (by kernel_rfl) (by kernel_rfl) (fun _ _ _ h => h) (by rfl) ?ya10 hS ?ra10
          case ya10 =>
            intro W' hW'
            obtain ⟨s0, s1, s2, s3⟩ := hW'
            all_goals (go_simp; first | done | rfl)
          intro tm' htm
          simp only [List.setIfInBounds_toArray, List.set_cons_succ, List.set_cons_zero] at htm
          subst htm
          refine anyX_takeW 12 (v := ?va12) rfl rfl (by kernel_rfl) (by kernel_rfl) (by kernel_rfl) (by kernel_rfl) (by kernel_rfl) (fun _ _ _ h => h) (by rfl) ?ya12 hS ?ra12
          case ya12 =>
            intro W' hW'
            obtain ⟨s0, s1, s2, s3⟩ := hW'
            all_goals (go_simp; first | done | rfl)
          intro tm' htm
          simp only [List.setIfInBounds_toArray, List.set_cons_succ, List.set_cons_zero] at htm
          subst htm
          refine anyX_takeW 13 (v := ?va13) rfl rfl (by kernel_rfl) (by kernel_rfl) (by kernel_rfl) (by kernel_rfl) (by kernel_rfl) (fun _ _ _ h => h) (by rfl) ?ya13 hS ?ra13
          case ya13 =>
            intro W' hW'
            obtain ⟨s0, s1, s2, s3⟩ := hW'
            all_goals (go_simp; first | done | rfl)
          intro tm' htm
          simp only [List.setIfInBounds_toArray, List.set_cons_succ, List.set_cons_zero] at htm
          subst htm
          refine anyX_takeW 14 (v := ?va14) rfl rfl (by kernel_rfl) (by kernel_rfl) (by kernel_rfl) (by kernel_rfl) (by kernel_rfl) (fun _ _ _ h => h) (by rfl) ?ya14 hS ?ra14
          case ya14 =>
            intro W' hW'
            obtain ⟨s0, s1, s2, s3⟩ := hW'
            all_goals (go_simp; first | done | rfl)
          intro tm' htm
          simp only [List.setIfInBounds_toArray, List.set_cons_succ, List.set_cons_zero] at htm
          subst htm
          refine anyX_takeW 15 (v := ?va15) rfl rfl (by kernel_rfl) (by kernel_rfl) (by kernel_rfl) (by kernel_rfl) (by kernel_rfl) (fun _ _ _ h => h) (by rfl) ?ya15 hS ?ra15
          case ya15 =>
            intro W' hW'
            obtain ⟨s0, s1, s2, s3⟩ := hW'
            all_goals (go_simp; first | done | rfl)
          intro tm' htm
          simp only [List.setIfInBounds_toArray, List.set_cons_succ, List.set_cons_zero] at htm
          subst htm
          refine anyX_takeW 16 (v := ?va16) rfl rfl (by kernel_rfl) (by kernel_rfl) (by kernel_rfl) (by kernel_rfl) (by kernel_rfl) (fun _ _ _ h => h) (by rfl) ?ya16 hS ?ra16
          case ya16 =>
            intro W' hW'
            obtain ⟨s0, s1, s2, s3⟩ := hW'
            all_goals (go_simp; first | done | rfl)
          intro tm' htm
          simp only [List.setIfInBounds_toArray, List.set_cons_succ, List.set_cons_zero] at htm
          subst htm
          refine anyX_takeW 17 (v := ?va17) rfl rfl (by kernel_rfl) (by kernel_rfl) (by kernel_rfl) (by kernel_rfl) (by kernel_rfl) (fun _ _ _ h => h) (by rfl) ?ya17 hS ?ra17
          case ya17 =>
            intro W' hW'
            obtain ⟨s0, s1, s2, s3⟩ := hW'
            all_goals (go_simp; first | done | rfl)
          intro tm' htm
          simp only [List.setIfInBounds_toArray, List.set_cons_succ, List.set_cons_zero] at htm
          subst htm
          refine anyX_takeW 18 (v := ?va18) rfl rfl (by kernel_rfl) (by kernel_rfl) (by kernel_rfl) (by kernel_rfl) (by kernel_rfl) (fun _ _ _ h => h) (by rfl) ?ya18 hS ?ra18
          case ya18 =>
            intro W' hW'
            obtain ⟨s0, s1, s2, s3⟩ := hW'
            all_goals (go_simp; first | done | rfl)
          intro tm' htm
          simp only [List.setIfInBounds_toArray, List.set_cons_succ, List.set_cons_zero] at htm
          subst htm
          refine anyX_oneW (i := 11) (by kernel_rfl) rfl (by rfl) fun K' hK' => ?_
          unfold Oper.wp
          go_simp
          refine (putE W4.drew OW4 [1, 0] g l (q.new_ (New.refl _ _).drew) x.task x.level x.job e l' hput).mono ?_
          rintro e6 w6 ⟨OW6, rfl, q6, s6⟩
          have s6 := (Turn.refl [1, 0] W4 OW4).drew.trans s6
          have r6 := r.keep s6 (by simp)
          have bk6 := bk.keep s6 (by simp)
          have hO6 := hO.keep s6 (by simp)
          have t6 := t.trans (s6.up (by simp))
          refine hK' _ _ (fun _ => ⟨hO6.get 0 rfl, hO6.get 1 rfl, hO6.get 2 rfl, hO6.get 3 rfl⟩) ?_
          clear hK' K'
          refine anyX_oneW (i := 19) (by kernel_rfl) rfl (by rfl) fun K' hK' => ?_
          unfold Oper.wp
          go_simp
          refine (r_putE w6 OW6 [1, 1] gw l r6 hl x.task x.level x.job e l' hput).mono ?_
          rintro e7 w7 ⟨OW7, rfl, r7, s7⟩
          have q7 := q6.keep s7 (by simp)
          have bk7 := bk6.keep s7 (by simp)
          have hO7 := hO6.keep s7 (by simp)
          have t7 := t6.trans (s7.up (by simp))
          have hS : (fun W' : World => W'.cell? ⟨Ob, 0, none⟩ = some (.int .i64 x.kind) ∧ W'.cell? ⟨Ob, 1, none⟩ = some (.int .i64 x.task) ∧ W'.cell? ⟨Ob, 2, none⟩ = some (.int .i64 x.level) ∧ W'.cell? ⟨Ob, 3, none⟩ = some (.int .i64 x.job)) w7 := ⟨hO7.get 0 rfl, hO7.get 1 rfl, hO7.get 2 rfl, hO7.get 3 rfl⟩
          refine hK' _ _ (fun _ => hS) ?_
          clear hK' K'
          refine anyX_takeW 20 (v := ?vb20) rfl rfl (by kernel_rfl) (by kernel_rfl) (by kernel_rfl) (by kernel_rfl) (by kernel_rfl) (fun _ _ _ h => h) (by rfl) ?yb20 hS ?rb20
          case yb20 =>
            intro W' hW'
            obtain ⟨s0, s1, s2, s3⟩ := hW'
            all_goals (go_simp; first | done | rfl)
          intro tm' htm
          simp only [List.setIfInBounds_toArray, List.set_cons_succ, List.set_cons_zero] at htm
          subst htm
          refine anyX_takeN 21 (v := ?vb21) rfl rfl (by kernel_rfl) (by kernel_rfl) (by kernel_rfl) (by kernel_rfl) (by kernel_rfl) (fun _ _ _ h => h) rfl ?yb21 hS ?rb21
          case yb21 =>
            intro W' hW'
            obtain ⟨s0, s1, s2, s3⟩ := hW'
            all_goals (go_simp; first | done | rfl)
          intro tm' htm
          simp only [List.setIfInBounds_toArray, List.set_cons_succ, List.set_cons_zero] at htm
          subst htm
          refine anyX_done (by kernel_rfl) ?_ _
          refine NoPanic.normal ?_
          go_wp2_with fail
          go_meet
          exact ⟨rfl, OW7, l', ⟨q7, r7, bk7, t7⟩, hO7⟩
        · have b0 : (x.kind == 0) = false := beq_eq_false_iff_ne.2 k0
          clear k0
          go_wp2_with fail
          go_quiet (fail)
          go_wp2_with fail
          go_meet
          exact ⟨rfl, OW4, l, st.new_ (by refine Below.nw ?_ _; repeat (first | (with_reducible assumption) | (with_reducible exact Below.refl _ _) | (with_reducible refine Below.drew ?_) | (with_reducible refine bdN ?_ _) | ((with_reducible refine bdS ?_ ?_ _); · first | (simp; done) | omega | (simp; omega)) | ((with_reducible refine bdA ?_ ?_ _); · first | (simp; done) | omega | (simp; omega)))), hO.new_ (by refine Below.nw ?_ _; repeat (first | (with_reducible assumption) | (with_reducible exact Below.refl _ _) | (with_reducible refine Below.drew ?_) | (with_reducible refine bdN ?_ _) | ((with_reducible refine bdS ?_ ?_ _); · first | (simp; done) | omega | (simp; omega)) | ((with_reducible refine bdA ?_ ?_ _); · first | (simp; done) | omega | (simp; omega))))⟩
      case rest =>
        clear st hO
        obtain ⟨rfl, OW5, l5, st, hO⟩ := hcut
        have o0 := hO.get 0 rfl
        simp only [Nat.zero_add] at o0
        go_upto_if 57 with fail
        obtain ⟨w5, rfl⟩ : ∃ w5 : World, w5 = wc := ⟨_, rfl⟩
        go_cut [] (fun wx => ∃ OW' l', PS w1 wx OW' g gw (gw + 1) l' N ∧ Cells wx OW' [1, 4] Ob 0 [Value.int .i64 x.kind, Value.int .i64 x.task, Value.int .i64 x.level, Value.int .i64 x.job])
        case first =>
          by_cases k1 : x.kind = 1
          · have b1 : (x.kind == 1) = true := beq_iff_eq.2 k1
            clear k1
            obtain ⟨q, r, bk, t⟩ := st
            obtain ⟨fa, ft, fv, fb, hF⟩ := firstV_form l5
            have hl := q.1.length
            have htake := takeE w5 OW5 [1, 0] g l5 q _ _ hF rfl
            have Htake := Lib.hid htake
            have HF := Lib.hid hF
            clear htake hF
            go_wp2_with fail
            refine Htake.out.mono ?_
            rintro e6 w6 ⟨OW6, rfl, q6, s6⟩
            have r6 := r.keep s6 (by simp)
            have bk6 := bk.keep s6 (by simp)
            have hO6 := hO.keep s6 (by simp)
            have t6 := t.trans (s6.up (by simp))
            have nX := (New.refl w6 OW6).alloc (Obj.cells #[.int .i64 fa, .int .i64 ft, .int .i64 fv] 27) [1, 7]
            have hX := Cells.new w6 OW6 [1, 7] [.int .i64 fa, .int .i64 ft, .int .i64 fv] 27
            have r6 := r6.new_ nX
            have q6 := q6.new_ nX
            have bk6 := bk6.new_ nX
            have hO6 := hO6.new_ nX
            have t6 := t6.trans (nX.turn _)
            clear q r bk hO t s6 nX o0
            go_wp2_with fail
            refine (r_takeE _ _ [1, 1] gw l5 r6 hl _ _ HF.out rfl).mono ?_
            rintro e7 w7 ⟨OW7, rfl, r7, s7⟩
            have q7 := q6.keep s7 (by simp)
            have bk7 := bk6.keep s7 (by simp)
            have hO7 := hO6.keep s7 (by simp)
            have hX7 := hX.keep s7 (by simp)
            have t7 := t6.trans (s7.up (by simp))
            have x0 := hX7.get 0 rfl
            have x1 := hX7.get 1 rfl
            have x2 := hX7.get 2 rfl
            simp only [Nat.zero_add] at x0 x1 x2
            have lX := hX7.lt
            have nY := (New.refl w7 OW7).alloc (Obj.cells #[.int .i64 fa, .int .i64 ft, .int .i64 fv] 27) [1, 8]
            have st8 := PS.new_ ⟨q7, r7, bk7, t7⟩ nY
            have hO8 := hO7.new_ nY
            clear q7 r7 bk7 t7 hO7 hX7 s7 q6 r6 bk6 hO6 hX t6 nY
            go_wp2_with fail
            go_meet
            exact ⟨_, _, st8, hO8⟩
          · have b1 : (x.kind == 1) = false := beq_eq_false_iff_ne.2 k1
            clear k1
            go_wp2_with fail
            go_meet
            exact ⟨OW5, l5, st, hO⟩
        case rest =>
          clear st hO o0
          obtain ⟨OW6, l6, st, hO⟩ := hcut
          obtain ⟨w6, rfl⟩ : ∃ w6 : World, w6 = wc := ⟨_, rfl⟩
          obtain ⟨fa, ft, fv, fb, hF⟩ := firstV_form l6
          have hl := st.few
          have hNx := nextQ w6 OW6 [1, 0] g l6 st.1
          rw [hF] at hNx
          have HNx := Lib.hid hNx
          have hRx := fun W (hW : Below w6.heap.size w6 W) => r_Next W OW6 [1, 1] gw l6 (st.2.1.new_ (hW.nw OW6)) hl
          rw [hF] at hRx
          have HRx := Lib.hid hRx
          clear hNx hRx hF
          go_wp2_with fail
          refine HNx.out.mono ?_
          rintro e7 w7 ⟨rfl, b7⟩
          have nX := (New.refl w7 OW6).alloc (Obj.cells #[.int .i64 fa, .int .i64 ft, .int .i64 fv] 27) [1, 7]
          have hX := Cells.new w7 OW6 [1, 7] [.int .i64 fa, .int .i64 ft, .int .i64 fv] 27
          have b8 := b7.trans (((Below.refl _ _).alloc (Nat.le_refl _) (Obj.cells #[.int .i64 fa, .int .i64 ft, .int .i64 fv] 27)).mono b7.size)
          have n8 := (b7.nw OW6).trans nX
          have st := st.new_ n8
          have hO := hO.new_ n8
          go_wp2_with fail
          refine (HRx.out _ b8).mono ?_
          rintro e9 w9 ⟨rfl, b9⟩
          clear HRx HNx b8 n8 nX b7
          have st := st.new_ (b9.nw _)
          have hO := hO.new_ (b9.nw _)
          have hX := hX.new_ (b9.nw _)
          generalize hO9 : OW6.set w7.heap.size [1, 7] = OW9 at *
          have nY := (New.refl w9 OW9).alloc (Obj.cells #[.int .i64 fa, .int .i64 ft, .int .i64 fv] 27) [1, 8]
          have hY := Cells.new w9 OW9 [1, 8] [.int .i64 fa, .int .i64 ft, .int .i64 fv] 27
          have st := st.new_ nY
          have hO := hO.new_ nY
          have hX := hX.new_ nY
          clear hO9 b9 nY
          go_wp2_with fail
          generalize hYb : w9.heap.size = Yb at *
          generalize hXb : w7.heap.size = Xb at *
          generalize hON : OW9.set Yb [1, 8] = OWN at *
          generalize hWN : w9.alloc (Obj.cells #[.int .i64 fa, .int .i64 ft, .int .i64 fv] 27) = wN at *
          obtain ⟨Aq, cq, cgw, lgw, -⟩ := st.2.1.at
          have hSC : ∀ W' : World, Below wN.heap.size wN W' → (W'.cell? ⟨Xb, 0, none⟩ = some (.int .i64 fa) ∧ W'.cell? ⟨Xb, 1, none⟩ = some (.int .i64 ft) ∧ W'.cell? ⟨Xb, 2, none⟩ = some (.int .i64 fv) ∧ W'.cell? ⟨Yb, 0, none⟩ = some (.int .i64 fa) ∧ W'.cell? ⟨Yb, 1, none⟩ = some (.int .i64 ft) ∧ W'.cell? ⟨Yb, 2, none⟩ = some (.int .i64 fv) ∧ W'.cell? ⟨Ob, 1, none⟩ = some (.int .i64 x.task) ∧ W'.cell? ⟨Ob, 2, none⟩ = some (.int .i64 x.level) ∧ W'.cell? ⟨gw, 0, none⟩ = some (.slice Aq l6.length cq)) := fun W' hb => ⟨(hX.new_ (hb.nw _)).get 0 rfl, (hX.new_ (hb.nw _)).get 1 rfl, (hX.new_ (hb.nw _)).get 2 rfl, (hY.new_ (hb.nw _)).get 0 rfl, (hY.new_ (hb.nw _)).get 1 rfl, (hY.new_ (hb.nw _)).get 2 rfl, (hO.new_ (hb.nw _)).get 1 rfl, (hO.new_ (hb.nw _)).get 2 rfl, (hb.cell (p := ⟨gw, 0, none⟩) lgw).trans cgw⟩
          have HSC := Lib.hid hSC
          have hLl := listA_length l6 st.1.1
          have hlv := levelA_le l6 x.level
          clear hSC hYb hXb hON hWN hX hY cgw
          refine plain_regionN (fun W' => W'.cell? ⟨Xb, 0, none⟩ = some (.int .i64 fa) ∧ W'.cell? ⟨Xb, 1, none⟩ = some (.int .i64 ft) ∧ W'.cell? ⟨Xb, 2, none⟩ = some (.int .i64 fv) ∧ W'.cell? ⟨Yb, 0, none⟩ = some (.int .i64 fa) ∧ W'.cell? ⟨Yb, 1, none⟩ = some (.int .i64 ft) ∧ W'.cell? ⟨Yb, 2, none⟩ = some (.int .i64 fv) ∧ W'.cell? ⟨Ob, 1, none⟩ = some (.int .i64 x.task) ∧ W'.cell? ⟨Ob, 2, none⟩ = some (.int .i64 x.level) ∧ W'.cell? ⟨gw, 0, none⟩ = some (.slice Aq l6.length cq)) [] (by kernel_rfl) ?_
          have Bw : Below wN.heap.size wN wN.drew := (Below.refl _ _).drew
          have hS : (fun W' : World => W'.cell? ⟨Xb, 0, none⟩ = some (.int .i64 fa) ∧ W'.cell? ⟨Xb, 1, none⟩ = some (.int .i64 ft) ∧ W'.cell? ⟨Xb, 2, none⟩ = some (.int .i64 fv) ∧ W'.cell? ⟨Yb, 0, none⟩ = some (.int .i64 fa) ∧ W'.cell? ⟨Yb, 1, none⟩ = some (.int .i64 ft) ∧ W'.cell? ⟨Yb, 2, none⟩ = some (.int .i64 fv) ∧ W'.cell? ⟨Ob, 1, none⟩ = some (.int .i64 x.task) ∧ W'.cell? ⟨Ob, 2, none⟩ = some (.int .i64 x.level) ∧ W'.cell? ⟨gw, 0, none⟩ = some (.slice Aq l6.length cq)) wN.drew := HSC.out _ Bw
          refine anyX_takeN 0 (v := ?vc0) rfl rfl (by kernel_rfl) (by kernel_rfl) (by kernel_rfl) (by kernel_rfl) (by kernel_rfl) (fun _ _ _ h => h) rfl ?yc0 hS ?rc0
          case yc0 =>
            intro W' hW'
            obtain ⟨s0, s1, s2, s3, s4, s5, s6, s7, s8⟩ := hW'
            all_goals (go_simp; first | done | rfl)
          intro tm' htm
          simp only [List.setIfInBounds_toArray, List.set_cons_succ, List.set_cons_zero] at htm
          subst htm
          refine anyX_takeN 1 (v := ?vc1) rfl rfl (by kernel_rfl) (by kernel_rfl) (by kernel_rfl) (by kernel_rfl) (by kernel_rfl) (fun _ _ _ h => h) rfl ?yc1 hS ?rc1
          case yc1 =>
            intro W' hW'
            obtain ⟨s0, s1, s2, s3, s4, s5, s6, s7, s8⟩ := hW'
            all_goals (go_simp; first | done | rfl)
          intro tm' htm
          simp only [List.setIfInBounds_toArray, List.set_cons_succ, List.set_cons_zero] at htm
          subst htm
          refine anyX_takeN 2 (v := ?vc2) rfl rfl (by kernel_rfl) (by kernel_rfl) (by kernel_rfl) (by kernel_rfl) (by kernel_rfl) (fun _ _ _ h => h) rfl ?yc2 hS ?rc2
          case yc2 =>
            intro W' hW'
            obtain ⟨s0, s1, s2, s3, s4, s5, s6, s7, s8⟩ := hW'
            all_goals (go_simp; first | done | rfl)
          intro tm' htm
          simp only [List.setIfInBounds_toArray, List.set_cons_succ, List.set_cons_zero] at htm
          subst htm
          refine anyX_takeN 3 (v := ?vc3) rfl rfl (by kernel_rfl) (by kernel_rfl) (by kernel_rfl) (by kernel_rfl) (by kernel_rfl) (fun _ _ _ h => h) rfl ?yc3 hS ?rc3
          case yc3 =>
            intro W' hW'
            obtain ⟨s0, s1, s2, s3, s4, s5, s6, s7, s8⟩ := hW'
            all_goals (go_simp; first | done | rfl)
          intro tm' htm
          simp only [List.setIfInBounds_toArray, List.set_cons_succ, List.set_cons_zero] at htm
          subst htm
          refine anyX_takeW 4 (v := ?vc4) rfl rfl (by kernel_rfl) (by kernel_rfl) (by kernel_rfl) (by kernel_rfl) (by kernel_rfl) (fun _ _ _ h => h) (by rfl) ?yc4 hS ?rc4
          case yc4 =>
            intro W' hW'
            obtain ⟨s0, s1, s2, s3, s4, s5, s6, s7, s8⟩ := hW'
            all_goals (go_simp; first | done | rfl)
          intro tm' htm
          simp only [List.setIfInBounds_toArray, List.set_cons_succ, List.set_cons_zero] at htm
          subst htm
          refine anyX_takeW 5 (v := ?vc5) rfl rfl (by kernel_rfl) (by kernel_rfl) (by kernel_rfl) (by kernel_rfl) (by kernel_rfl) (fun _ _ _ h => h) (by rfl) ?yc5 hS ?rc5
          case yc5 =>
            intro W' hW'
            obtain ⟨s0, s1, s2, s3, s4, s5, s6, s7, s8⟩ := hW'
            all_goals (go_simp; first | done | rfl)
          intro tm' htm
          simp only [List.setIfInBounds_toArray, List.set_cons_succ, List.set_cons_zero] at htm
          subst htm
          refine anyX_takeW 6 (v := ?vc6) rfl rfl (by kernel_rfl) (by kernel_rfl) (by kernel_rfl) (by kernel_rfl) (by kernel_rfl) (fun _ _ _ h => h) (by rfl) ?yc6 hS ?rc6
          case yc6 =>
            intro W' hW'
            obtain ⟨s0, s1, s2, s3, s4, s5, s6, s7, s8⟩ := hW'
            all_goals (go_simp; first | done | rfl)
          intro tm' htm
          simp only [List.setIfInBounds_toArray, List.set_cons_succ, List.set_cons_zero] at htm
          subst htm
          refine anyX_takeN 7 (v := ?vc7) rfl rfl (by kernel_rfl) (by kernel_rfl) (by kernel_rfl) (by kernel_rfl) (by kernel_rfl) (fun _ _ _ h => h) rfl ?yc7 hS ?rc7
          case yc7 =>
            intro W' hW'
            obtain ⟨s0, s1, s2, s3, s4, s5, s6, s7, s8⟩ := hW'
            all_goals (go_simp; first | done | rfl)
          intro tm' htm
          simp only [List.setIfInBounds_toArray, List.set_cons_succ, List.set_cons_zero] at htm
          subst htm
          refine anyX_takeN 8 (v := ?vc8) rfl rfl (by kernel_rfl) (by kernel_rfl) (by kernel_rfl) (by kernel_rfl) (by kernel_rfl) (fun _ _ _ h => h) rfl ?yc8 hS ?rc8
          case yc8 =>
            intro W' hW'
            obtain ⟨s0, s1, s2, s3, s4, s5, s6, s7, s8⟩ := hW'
            all_goals (go_simp; first | done | rfl)
          intro tm' htm
          simp only [List.setIfInBounds_toArray, List.set_cons_succ, List.set_cons_zero] at htm
          subst htm
          refine anyX_takeW 9 (v := ?vc9) rfl rfl (by kernel_rfl) (by kernel_rfl) (by kernel_rfl) (by kernel_rfl) (by kernel_rfl) (fun _ _ _ h => h) (by rfl) ?yc9 hS ?rc9
          case yc9 =>
            intro W' hW'
            obtain ⟨s0, s1, s2, s3, s4, s5, s6, s7, s8⟩ := hW'
            all_goals (go_simp; first | done | rfl)
          intro tm' htm
          simp only [List.setIfInBounds_toArray, List.set_cons_succ, List.set_cons_zero] at htm
          subst htm
          refine anyX_takeW 10 (v := ?vc10) rfl rfl (by kernel_rfl) (by kernel_rfl) (by kernel_rfl) (by kernel_rfl) (by kernel_rfl) (fun _ _ _ h => h) (by rfl) ?yc10 hS ?rc10
          case yc10 =>
            intro W' hW'
            obtain ⟨s0, s1, s2, s3, s4, s5, s6, s7, s8⟩ := hW'
            all_goals (go_simp; first | done | rfl)
          intro tm' htm
          simp only [List.setIfInBounds_toArray, List.set_cons_succ, List.set_cons_zero] at htm
          subst htm
          refine anyX_takeW 11 (v := ?vc11) rfl rfl (by kernel_rfl) (by kernel_rfl) (by kernel_rfl) (by kernel_rfl) (by kernel_rfl) (fun _ _ _ h => h) (by rfl) ?yc11 hS ?rc11
          case yc11 =>
            intro W' hW'
            obtain ⟨s0, s1, s2, s3, s4, s5, s6, s7, s8⟩ := hW'
            all_goals (go_simp; first | done | rfl)
          intro tm' htm
          simp only [List.setIfInBounds_toArray, List.set_cons_succ, List.set_cons_zero] at htm
          subst htm
          refine anyX_takeW 13 (v := ?vc13) rfl rfl (by kernel_rfl) (by kernel_rfl) (by kernel_rfl) (by kernel_rfl) (by kernel_rfl) (fun _ _ _ h => h) (by rfl) ?yc13 hS ?rc13
          case yc13 =>
            intro W' hW'
            obtain ⟨s0, s1, s2, s3, s4, s5, s6, s7, s8⟩ := hW'
            all_goals (go_simp; first | done | rfl)
          intro tm' htm
          simp only [List.setIfInBounds_toArray, List.set_cons_succ, List.set_cons_zero] at htm
          subst htm
          refine anyX_takeW 14 (v := ?vc14) rfl rfl (by kernel_rfl) (by kernel_rfl) (by kernel_rfl) (by kernel_rfl) (by kernel_rfl) (fun _ _ _ h => h) (by rfl) ?yc14 hS ?rc14
          case yc14 =>
            intro W' hW'
            obtain ⟨s0, s1, s2, s3, s4, s5, s6, s7, s8⟩ := hW'
            all_goals (go_simp; first | done | rfl)
          intro tm' htm
          simp only [List.setIfInBounds_toArray, List.set_cons_succ, List.set_cons_zero] at htm
          subst htm
          refine anyX_takeW 15 (v := ?vc15) rfl rfl (by kernel_rfl) (by kernel_rfl) (by kernel_rfl) (by kernel_rfl) (by kernel_rfl) (fun _ _ _ h => h) (by rfl) ?yc15 hS ?rc15
          case yc15 =>
            intro W' hW'
            obtain ⟨s0, s1, s2, s3, s4, s5, s6, s7, s8⟩ := hW'
            all_goals (go_simp; first | done | rfl)
          intro tm' htm
          simp only [List.setIfInBounds_toArray, List.set_cons_succ, List.set_cons_zero] at htm
          subst htm
          refine anyX_takeW 16 (v := ?vc16) rfl rfl (by kernel_rfl) (by kernel_rfl) (by kernel_rfl) (by kernel_rfl) (by kernel_rfl) (fun _ _ _ h => h) (by rfl) ?yc16 hS ?rc16
          case yc16 =>
            intro W' hW'
            obtain ⟨s0, s1, s2, s3, s4, s5, s6, s7, s8⟩ := hW'
            all_goals (go_simp; first | done | rfl)
          intro tm' htm
          simp only [List.setIfInBounds_toArray, List.set_cons_succ, List.set_cons_zero] at htm
          subst htm
          refine anyX_takeW 17 (v := ?vc17) rfl rfl (by kernel_rfl) (by kernel_rfl) (by kernel_rfl) (by kernel_rfl) (by kernel_rfl) (fun _ _ _ h => h) (by rfl) ?yc17 hS ?rc17
          case yc17 =>
            intro W' hW'
            obtain ⟨s0, s1, s2, s3, s4, s5, s6, s7, s8⟩ := hW'
            all_goals (go_simp; first | done | rfl)
          intro tm' htm
          simp only [List.setIfInBounds_toArray, List.set_cons_succ, List.set_cons_zero] at htm
          subst htm
          have st := st.new_ (Bw.nw OWN)
          have hO := hO.new_ (Bw.nw OWN)
          refine anyX_oneW (i := 12) (by kernel_rfl) rfl (by rfl) fun K' hK' => ?_
          unfold Oper.wp
          go_simp
          refine (lenQ wN.drew OWN [1, 0] g l6 st.1).mono ?_
          rintro e20 w20 ⟨rfl, b20⟩
          have Bw := Bw.trans (b20.mono Bw.size)
          have st := st.new_ (b20.nw OWN)
          have hO := hO.new_ (b20.nw OWN)
          refine hK' _ _ (fun _ => HSC.out _ Bw) ?_
          have hS : (fun W' : World => W'.cell? ⟨Xb, 0, none⟩ = some (.int .i64 fa) ∧ W'.cell? ⟨Xb, 1, none⟩ = some (.int .i64 ft) ∧ W'.cell? ⟨Xb, 2, none⟩ = some (.int .i64 fv) ∧ W'.cell? ⟨Yb, 0, none⟩ = some (.int .i64 fa) ∧ W'.cell? ⟨Yb, 1, none⟩ = some (.int .i64 ft) ∧ W'.cell? ⟨Yb, 2, none⟩ = some (.int .i64 fv) ∧ W'.cell? ⟨Ob, 1, none⟩ = some (.int .i64 x.task) ∧ W'.cell? ⟨Ob, 2, none⟩ = some (.int .i64 x.level) ∧ W'.cell? ⟨gw, 0, none⟩ = some (.slice Aq l6.length cq)) w20 := HSC.out _ Bw
          clear hK' K'
          refine anyX_takeW 18 (v := ?vd18) rfl rfl (by kernel_rfl) (by kernel_rfl) (by kernel_rfl) (by kernel_rfl) (by kernel_rfl) (fun _ _ _ h => h) (by rfl) ?yd18 hS ?rd18
          case yd18 =>
            intro W' hW'
            obtain ⟨s0, s1, s2, s3, s4, s5, s6, s7, s8⟩ := hW'
            all_goals (go_simp; first | done | rfl)
          intro tm' htm
          simp only [List.setIfInBounds_toArray, List.set_cons_succ, List.set_cons_zero] at htm
          subst htm
          refine anyX_takeN 19 (v := ?vd19) rfl rfl (by kernel_rfl) (by kernel_rfl) (by kernel_rfl) (by kernel_rfl) (by kernel_rfl) (fun _ _ _ h => h) rfl ?yd19 hS ?rd19
          case yd19 =>
            intro W' hW'
            obtain ⟨s0, s1, s2, s3, s4, s5, s6, s7, s8⟩ := hW'
            all_goals (go_simp; first | done | rfl)
          intro tm' htm
          simp only [List.setIfInBounds_toArray, List.set_cons_succ, List.set_cons_zero] at htm
          subst htm
          refine anyX_takeN 20 (v := ?vd20) rfl rfl (by kernel_rfl) (by kernel_rfl) (by kernel_rfl) (by kernel_rfl) (by kernel_rfl) (fun _ _ _ h => h) rfl ?yd20 hS ?rd20
          case yd20 =>
            intro W' hW'
            obtain ⟨s0, s1, s2, s3, s4, s5, s6, s7, s8⟩ := hW'
            all_goals (go_simp; first | done | rfl)
          intro tm' htm
          simp only [List.setIfInBounds_toArray, List.set_cons_succ, List.set_cons_zero] at htm
          subst htm
          refine anyX_takeW 21 (v := ?vd21) rfl rfl (by kernel_rfl) (by kernel_rfl) (by kernel_rfl) (by kernel_rfl) (by kernel_rfl) (fun _ _ _ h => h) (by rfl) ?yd21 hS ?rd21
          case yd21 =>
            intro W' hW'
            obtain ⟨s0, s1, s2, s3, s4, s5, s6, s7, s8⟩ := hW'
            all_goals (go_simp; first | done | rfl)
          intro tm' htm
          simp only [List.setIfInBounds_toArray, List.set_cons_succ, List.set_cons_zero] at htm
          subst htm
          refine anyX_takeW 22 (v := ?vd22) rfl rfl (by kernel_rfl) (by kernel_rfl) (by kernel_rfl) (by kernel_rfl) (by kernel_rfl) (fun _ _ _ h => h) (by rfl) ?yd22 hS ?rd22
          case yd22 =>
            intro W' hW'
            obtain ⟨s0, s1, s2, s3, s4, s5, s6, s7, s8⟩ := hW'
            all_goals (go_simp; first | done | rfl)
          intro tm' htm
          simp only [List.setIfInBounds_toArray, List.set_cons_succ, List.set_cons_zero] at htm
          subst htm
          refine anyX_takeW 23 (v := ?vd23) rfl rfl (by kernel_rfl) (by kernel_rfl) (by kernel_rfl) (by kernel_rfl) (by kernel_rfl) (fun _ _ _ h => h) (by rfl) ?yd23 hS ?rd23
          case yd23 =>
            intro W' hW'
            obtain ⟨s0, s1, s2, s3, s4, s5, s6, s7, s8⟩ := hW'
            all_goals (go_simp; first | done | rfl)
          intro tm' htm
          simp only [List.setIfInBounds_toArray, List.set_cons_succ, List.set_cons_zero] at htm
          subst htm
          refine anyX_takeW 25 (v := ?vd25) rfl rfl (by kernel_rfl) (by kernel_rfl) (by kernel_rfl) (by kernel_rfl) (by kernel_rfl) (fun _ _ _ h => h) (by rfl) ?yd25 hS ?rd25
          case yd25 =>
            intro W' hW'
            obtain ⟨s0, s1, s2, s3, s4, s5, s6, s7, s8⟩ := hW'
            all_goals (go_simp; first | done | rfl)
          intro tm' htm
          simp only [List.setIfInBounds_toArray, List.set_cons_succ, List.set_cons_zero] at htm
          subst htm
          refine anyX_takeW 26 (v := ?vd26) rfl rfl (by kernel_rfl) (by kernel_rfl) (by kernel_rfl) (by kernel_rfl) (by kernel_rfl) (fun _ _ _ h => h) (by rfl) ?yd26 hS ?rd26
          case yd26 =>
            intro W' hW'
            obtain ⟨s0, s1, s2, s3, s4, s5, s6, s7, s8⟩ := hW'
            all_goals (go_simp; first | done | rfl)
          intro tm' htm
          simp only [List.setIfInBounds_toArray, List.set_cons_succ, List.set_cons_zero] at htm
          subst htm
          refine anyX_takeW 27 (v := ?vd27) rfl rfl (by kernel_rfl) (by kernel_rfl) (by kernel_rfl) (by kernel_rfl) (by kernel_rfl) (fun _ _ _ h => h) (by rfl) ?yd27 hS ?rd27
          case yd27 =>
            intro W' hW'
            obtain ⟨s0, s1, s2, s3, s4, s5, s6, s7, s8⟩ := hW'
            all_goals (go_simp; first | done | rfl)
          intro tm' htm
          simp only [List.setIfInBounds_toArray, List.set_cons_succ, List.set_cons_zero] at htm
          subst htm
          refine anyX_oneW (i := 24) (by kernel_rfl) rfl (by rfl) fun K' hK' => ?_
          unfold Oper.wp
          go_simp
          refine (activeQ w20 OWN [1, 0] g l6 st.1 x.task).mono ?_
          rintro e24 w24 ⟨rfl, b24⟩
          have Bw := Bw.trans (b24.mono Bw.size)
          have st := st.new_ (b24.nw OWN)
          have hO := hO.new_ (b24.nw OWN)
          refine hK' _ _ (fun _ => HSC.out _ Bw) ?_
          clear hK' K'
          refine anyX_oneW (i := 28) (by kernel_rfl) rfl (by rfl) fun K' hK' => ?_
          unfold Oper.wp
          go_simp
          refine (r_active w24 OWN [1, 1] gw l6 st.2.1 hl x.task).mono ?_
          rintro e28 w28 ⟨rfl, d28, rfl⟩
          have Bw := bdN Bw d28
          have st := st.new_ ((drewN_below w24 d28).nw OWN)
          have hO := hO.new_ ((drewN_below w24 d28).nw OWN)
          refine hK' _ _ (fun _ => HSC.out _ Bw) ?_
          have hS : (fun W' : World => W'.cell? ⟨Xb, 0, none⟩ = some (.int .i64 fa) ∧ W'.cell? ⟨Xb, 1, none⟩ = some (.int .i64 ft) ∧ W'.cell? ⟨Xb, 2, none⟩ = some (.int .i64 fv) ∧ W'.cell? ⟨Yb, 0, none⟩ = some (.int .i64 fa) ∧ W'.cell? ⟨Yb, 1, none⟩ = some (.int .i64 ft) ∧ W'.cell? ⟨Yb, 2, none⟩ = some (.int .i64 fv) ∧ W'.cell? ⟨Ob, 1, none⟩ = some (.int .i64 x.task) ∧ W'.cell? ⟨Ob, 2, none⟩ = some (.int .i64 x.level) ∧ W'.cell? ⟨gw, 0, none⟩ = some (.slice Aq l6.length cq)) (w24.drewN d28) := HSC.out _ Bw
          clear hK' K'
          generalize w24.drewN d28 = w28 at *
          refine anyX_takeW 29 (v := ?ve29) rfl rfl (by kernel_rfl) (by kernel_rfl) (by kernel_rfl) (by kernel_rfl) (by kernel_rfl) (fun _ _ _ h => h) (by rfl) ?ye29 hS ?re29
          case ye29 =>
            intro W' hW'
            obtain ⟨s0, s1, s2, s3, s4, s5, s6, s7, s8⟩ := hW'
            all_goals (go_simp; first | done | rfl)
          intro tm' htm
          simp only [List.setIfInBounds_toArray, List.set_cons_succ, List.set_cons_zero] at htm
          subst htm
          refine anyX_takeN 30 (v := ?ve30) rfl rfl (by kernel_rfl) (by kernel_rfl) (by kernel_rfl) (by kernel_rfl) (by kernel_rfl) (fun _ _ _ h => h) rfl ?ye30 hS ?re30
          case ye30 =>
            intro W' hW'
            obtain ⟨s0, s1, s2, s3, s4, s5, s6, s7, s8⟩ := hW'
            all_goals (go_simp; first | done | rfl)
          intro tm' htm
          simp only [List.setIfInBounds_toArray, List.set_cons_succ, List.set_cons_zero] at htm
          subst htm
          refine anyX_takeN 31 (v := ?ve31) rfl rfl (by kernel_rfl) (by kernel_rfl) (by kernel_rfl) (by kernel_rfl) (by kernel_rfl) (fun _ _ _ h => h) rfl ?ye31 hS ?re31
          case ye31 =>
            intro W' hW'
            obtain ⟨s0, s1, s2, s3, s4, s5, s6, s7, s8⟩ := hW'
            all_goals (go_simp; first | done | rfl)
          intro tm' htm
          simp only [List.setIfInBounds_toArray, List.set_cons_succ, List.set_cons_zero] at htm
          subst htm
          refine anyX_takeW 32 (v := ?ve32) rfl rfl (by kernel_rfl) (by kernel_rfl) (by kernel_rfl) (by kernel_rfl) (by kernel_rfl) (fun _ _ _ h => h) (by rfl) ?ye32 hS ?re32
          case ye32 =>
            intro W' hW'
            obtain ⟨s0, s1, s2, s3, s4, s5, s6, s7, s8⟩ := hW'
            all_goals (go_simp; first | done | rfl)
          intro tm' htm
          simp only [List.setIfInBounds_toArray, List.set_cons_succ, List.set_cons_zero] at htm
          subst htm
          refine anyX_takeW 33 (v := ?ve33) rfl rfl (by kernel_rfl) (by kernel_rfl) (by kernel_rfl) (by kernel_rfl) (by kernel_rfl) (fun _ _ _ h => h) (by rfl) ?ye33 hS ?re33
          case ye33 =>
            intro W' hW'
            obtain ⟨s0, s1, s2, s3, s4, s5, s6, s7, s8⟩ := hW'
            all_goals (go_simp; first | done | rfl)
          intro tm' htm
          simp only [List.setIfInBounds_toArray, List.set_cons_succ, List.set_cons_zero] at htm
          subst htm
          refine anyX_takeW 34 (v := ?ve34) rfl rfl (by kernel_rfl) (by kernel_rfl) (by kernel_rfl) (by kernel_rfl) (by kernel_rfl) (fun _ _ _ h => h) (by rfl) ?ye34 hS ?re34
          case ye34 =>
            intro W' hW'
            obtain ⟨s0, s1, s2, s3, s4, s5, s6, s7, s8⟩ := hW'
            all_goals (go_simp; first | done | rfl)
          intro tm' htm
          simp only [List.setIfInBounds_toArray, List.set_cons_succ, List.set_cons_zero] at htm
          subst htm
          refine anyX_takeW 36 (v := ?ve36) rfl rfl (by kernel_rfl) (by kernel_rfl) (by kernel_rfl) (by kernel_rfl) (by kernel_rfl) (fun _ _ _ h => h) (by rfl) ?ye36 hS ?re36
          case ye36 =>
            intro W' hW'
            obtain ⟨s0, s1, s2, s3, s4, s5, s6, s7, s8⟩ := hW'
            all_goals (go_simp; first | done | rfl)
          intro tm' htm
          simp only [List.setIfInBounds_toArray, List.set_cons_succ, List.set_cons_zero] at htm
          subst htm
          refine anyX_takeW 37 (v := ?ve37) rfl rfl (by kernel_rfl) (by kernel_rfl) (by kernel_rfl) (by kernel_rfl) (by kernel_rfl) (fun _ _ _ h => h) (by rfl) ?ye37 hS ?re37
          case ye37 =>
            intro W' hW'
            obtain ⟨s0, s1, s2, s3, s4, s5, s6, s7, s8⟩ := hW'
            all_goals (go_simp; first | done | rfl)
          intro tm' htm
          simp only [List.setIfInBounds_toArray, List.set_cons_succ, List.set_cons_zero] at htm
          subst htm
          refine anyX_takeW 38 (v := ?ve38) rfl rfl (by kernel_rfl) (by kernel_rfl) (by kernel_rfl) (by kernel_rfl) (by kernel_rfl) (fun _ _ _ h => h) (by rfl) ?ye38 hS ?re38
          case ye38 =>
            intro W' hW'
            obtain ⟨s0, s1, s2, s3, s4, s5, s6, s7, s8⟩ := hW'
            all_goals (go_simp; first | done | rfl)
          intro tm' htm
          simp only [List.setIfInBounds_toArray, List.set_cons_succ, List.set_cons_zero] at htm
          subst htm
          refine anyX_oneW (i := 35) (by kernel_rfl) rfl (by rfl) fun K' hK' => ?_
          unfold Oper.wp
          go_simp
          refine (levelQ w28 OWN [1, 0] [1, 9] g l6 st.1 x.level).mono ?_
          rintro e35 w35 ⟨v35, OW35, rfl, r35, n35, -⟩
          have Bw := Bw.trans (n35.below.mono Bw.size)
          have st := st.new_ n35
          have hO := hO.new_ n35
          refine hK' _ _ (fun _ => HSC.out _ Bw) ?_
          clear hK' K'
          refine anyX_oneW (i := 39) (by kernel_rfl) rfl (by rfl) fun K' hK' => ?_
          unfold Oper.wp
          go_simp
          refine (r_level w35 OW35 [1, 1] [1, 10] gw l6 st.2.1 hl x.level).mono ?_
          rintro e39 w39 ⟨v39, OW39, rfl, r39, n39, -⟩
          have Bw := Bw.trans (n39.below.mono Bw.size)
          have st := st.new_ n39
          have hO := hO.new_ n39
          have r35 := r35.new_ n39
          refine hK' _ _ (fun _ => HSC.out _ Bw) ?_
          clear hK' K'
          refine anyX_oneW (i := 40) (by kernel_rfl) rfl (by rfl) fun K' hK' => ?_
          unfold Oper.wp
          go_simp
          refine (same_yes w39 v35 v39 (levelA l6 x.level) (by omega) r35.reads r39.reads).mono ?_
          rintro e40 w40 ⟨rfl, d40, rfl⟩
          have Bw := bdN Bw d40
          have st := st.new_ ((drewN_below w39 d40).nw OW39)
          have hO := hO.new_ ((drewN_below w39 d40).nw OW39)
          refine hK' _ _ (fun _ => HSC.out _ Bw) ?_
          have hS : (fun W' : World => W'.cell? ⟨Xb, 0, none⟩ = some (.int .i64 fa) ∧ W'.cell? ⟨Xb, 1, none⟩ = some (.int .i64 ft) ∧ W'.cell? ⟨Xb, 2, none⟩ = some (.int .i64 fv) ∧ W'.cell? ⟨Yb, 0, none⟩ = some (.int .i64 fa) ∧ W'.cell? ⟨Yb, 1, none⟩ = some (.int .i64 ft) ∧ W'.cell? ⟨Yb, 2, none⟩ = some (.int .i64 fv) ∧ W'.cell? ⟨Ob, 1, none⟩ = some (.int .i64 x.task) ∧ W'.cell? ⟨Ob, 2, none⟩ = some (.int .i64 x.level) ∧ W'.cell? ⟨gw, 0, none⟩ = some (.slice Aq l6.length cq)) (w39.drewN d40) := HSC.out _ Bw
          clear hK' K' r35 r39
          generalize w39.drewN d40 = w40 at *
          refine anyX_takeW 41 (v := ?vf41) rfl rfl (by kernel_rfl) (by kernel_rfl) (by kernel_rfl) (by kernel_rfl) (by kernel_rfl) (fun _ _ _ h => h) (by rfl) ?yf41 hS ?rf41
          case yf41 =>
            intro W' hW'
            obtain ⟨s0, s1, s2, s3, s4, s5, s6, s7, s8⟩ := hW'
            all_goals (go_simp; first | done | rfl)
          intro tm' htm
          simp only [List.setIfInBounds_toArray, List.set_cons_succ, List.set_cons_zero] at htm
          subst htm
          refine anyX_takeN 42 (v := ?vf42) rfl rfl (by kernel_rfl) (by kernel_rfl) (by kernel_rfl) (by kernel_rfl) (by kernel_rfl) (fun _ _ _ h => h) rfl ?yf42 hS ?rf42
          case yf42 =>
            intro W' hW'
            obtain ⟨s0, s1, s2, s3, s4, s5, s6, s7, s8⟩ := hW'
            all_goals (go_simp; first | done | rfl)
          intro tm' htm
          simp only [List.setIfInBounds_toArray, List.set_cons_succ, List.set_cons_zero] at htm
          subst htm
          refine anyX_takeN 43 (v := ?vf43) rfl rfl (by kernel_rfl) (by kernel_rfl) (by kernel_rfl) (by kernel_rfl) (by kernel_rfl) (fun _ _ _ h => h) rfl ?yf43 hS ?rf43
          case yf43 =>
            intro W' hW'
            obtain ⟨s0, s1, s2, s3, s4, s5, s6, s7, s8⟩ := hW'
            all_goals (go_simp; first | done | rfl)
          intro tm' htm
          simp only [List.setIfInBounds_toArray, List.set_cons_succ, List.set_cons_zero] at htm
          subst htm
          refine anyX_takeW 44 (v := ?vf44) rfl rfl (by kernel_rfl) (by kernel_rfl) (by kernel_rfl) (by kernel_rfl) (by kernel_rfl) (fun _ _ _ h => h) (by rfl) ?yf44 hS ?rf44
          case yf44 =>
            intro W' hW'
            obtain ⟨s0, s1, s2, s3, s4, s5, s6, s7, s8⟩ := hW'
            all_goals (go_simp; first | done | rfl)
          intro tm' htm
          simp only [List.setIfInBounds_toArray, List.set_cons_succ, List.set_cons_zero] at htm
          subst htm
          refine anyX_takeW 46 (v := ?vf46) rfl rfl (by kernel_rfl) (by kernel_rfl) (by kernel_rfl) (by kernel_rfl) (by kernel_rfl) (fun _ _ _ h => h) (by rfl) ?yf46 hS ?rf46
          case yf46 =>
            intro W' hW'
            obtain ⟨s0, s1, s2, s3, s4, s5, s6, s7, s8⟩ := hW'
            all_goals (go_simp; first | done | rfl)
          intro tm' htm
          simp only [List.setIfInBounds_toArray, List.set_cons_succ, List.set_cons_zero] at htm
          subst htm
          refine anyX_oneW (i := 45) (by kernel_rfl) rfl (by rfl) fun K' hK' => ?_
          unfold Oper.wp
          go_simp
          refine (listQ w40 OW39 [1, 0] [1, 9] g l6 st.1).mono ?_
          rintro e45 w45 ⟨v45, OW45, rfl, r45, n45, -⟩
          have Bw := Bw.trans (n45.below.mono Bw.size)
          have st := st.new_ n45
          have hO := hO.new_ n45
          refine hK' _ _ (fun _ => HSC.out _ Bw) ?_
          clear hK' K'
          refine anyX_oneW (i := 47) (by kernel_rfl) rfl (by rfl) fun K' hK' => ?_
          unfold Oper.wp
          go_simp
          refine (r_list w45 OW45 [1, 1] [1, 10] gw l6 st.2.1 hl (by omega)).mono ?_
          rintro e47 w47 ⟨v47, OW47, rfl, r47, n47, -⟩
          have Bw := Bw.trans (n47.below.mono Bw.size)
          have st := st.new_ n47
          have hO := hO.new_ n47
          have r45 := r45.new_ n47
          refine hK' _ _ (fun _ => HSC.out _ Bw) ?_
          clear hK' K'
          refine anyX_oneW (i := 48) (by kernel_rfl) rfl (by rfl) fun K' hK' => ?_
          unfold Oper.wp
          go_simp
          refine (same_yes w47 v45 v47 (listA l6) (by omega) r45.reads r47.reads).mono ?_
          rintro e48 w48 ⟨rfl, d48, rfl⟩
          have Bw := bdN Bw d48
          have st := st.new_ ((drewN_below w47 d48).nw OW47)
          have hO := hO.new_ ((drewN_below w47 d48).nw OW47)
          refine hK' _ _ (fun _ => HSC.out _ Bw) ?_
          have hS : (fun W' : World => W'.cell? ⟨Xb, 0, none⟩ = some (.int .i64 fa) ∧ W'.cell? ⟨Xb, 1, none⟩ = some (.int .i64 ft) ∧ W'.cell? ⟨Xb, 2, none⟩ = some (.int .i64 fv) ∧ W'.cell? ⟨Yb, 0, none⟩ = some (.int .i64 fa) ∧ W'.cell? ⟨Yb, 1, none⟩ = some (.int .i64 ft) ∧ W'.cell? ⟨Yb, 2, none⟩ = some (.int .i64 fv) ∧ W'.cell? ⟨Ob, 1, none⟩ = some (.int .i64 x.task) ∧ W'.cell? ⟨Ob, 2, none⟩ = some (.int .i64 x.level) ∧ W'.cell? ⟨gw, 0, none⟩ = some (.slice Aq l6.length cq)) (w47.drewN d48) := HSC.out _ Bw
          clear hK' K' r45 r47
          generalize w47.drewN d48 = w48 at *
          refine anyX_takeW 49 (v := ?vg49) rfl rfl (by kernel_rfl) (by kernel_rfl) (by kernel_rfl) (by kernel_rfl) (by kernel_rfl) (fun _ _ _ h => h) (by rfl) ?yg49 hS ?rg49
          case yg49 =>
            intro W' hW'
            obtain ⟨s0, s1, s2, s3, s4, s5, s6, s7, s8⟩ := hW'
            all_goals (go_simp; first | done | rfl)
          intro tm' htm
          simp only [List.setIfInBounds_toArray, List.set_cons_succ, List.set_cons_zero] at htm
          subst htm
          refine anyX_takeN 50 (v := ?vg50) rfl rfl (by kernel_rfl) (by kernel_rfl) (by kernel_rfl) (by kernel_rfl) (by kernel_rfl) (fun _ _ _ h => h) rfl ?yg50 hS ?rg50
          case yg50 =>
            intro W' hW'
            obtain ⟨s0, s1, s2, s3, s4, s5, s6, s7, s8⟩ := hW'
            all_goals (go_simp; first | done | rfl)
          intro tm' htm
          simp only [List.setIfInBounds_toArray, List.set_cons_succ, List.set_cons_zero] at htm
          subst htm
          refine anyX_done (by kernel_rfl) ?_ _
          refine NoPanic.normal ?_
          have o2 := hO.get 2 rfl
          simp only [Nat.zero_add] at o2
          clear Bw HSC hS
          by_cases h40 : (k : Int) < 40
          · go_wp2_with fail
            refine (listQ w48 OW47 [1, 0] [1, 2, 3, N] g l6 st.1).mono ?_
            rintro e50 w50 ⟨v50, OW50, rfl, r50, n50, -⟩
            have st := st.new_ n50
            have hO := hO.new_ n50
            rw [hLl] at r50
            clear o2
            go_wp2_with fail
            refine (bk_keep w50 OW50 [1, 2] (gw + 1) 0 N v50 (listA l6) st.2.2.1 (by rw [hLl]; exact r50) (by omega)).mono ?_
            rintro e51 w51 ⟨OW51, rfl, k51, t51⟩
            have q51 := st.1.keep t51 (by simp)
            have r51 := st.2.1.keep t51 (by simp)
            have hO := hO.keep t51 (by simp)
            have u51 := st.2.2.2.trans (t51.up (by simp))
            have o2 := hO.get 2 rfl
            simp only [Nat.zero_add] at o2
            clear r50 t51 st
            go_wp2_with fail
            refine (levelQ w51 OW51 [1, 0] [1, 2, 3, N + 1] g l6 q51 x.level).mono ?_
            rintro e52 w52 ⟨v52, OW52, rfl, r52, n52, -⟩
            have st := PS.new_ ⟨q51, r51, k51, u51⟩ n52
            clear q51 r51 k51 u51 n52
            go_wp2_with fail
            refine (bk_keep w52 OW52 [1, 2] (gw + 1) 0 (N + 1) v52 (levelA l6 x.level) st.2.2.1 r52 (by omega)).mono ?_
            rintro e53 w53 ⟨OW53, rfl, k53, t53⟩
            have fin : PS w1 w53 OW53 g gw (gw + 1) l6 (N + 1 + 1) := ⟨st.1.keep t53 (by simp), st.2.1.keep t53 (by simp), k53, st.2.2.2.trans (t53.up (by simp))⟩
            clear st r52 k53 t53
            go_wp2_with fail
            go_roundg (ys.length - (k + 1))
            case measure => have := Hgk.out; omega
            case rel => exact ⟨k + 1, N + 1 + 1, OW53, l6, rfl, by omega, by go_num, fin⟩
          · go_wp2_with fail
            go_roundg (ys.length - (k + 1))
            case measure => have := Hgk.out; omega
            case rel => exact ⟨k + 1, N, OW47, l6, rfl, by omega, by go_num, st⟩
    · obtain rfl : k = ys.length := by omega
      have bk := st.2.2.1
      go_wp2_with fail
      refine (bk_apart wr OW [1, 2] (gw + 1) 0 N bk).mono ?_
      rintro e wz ⟨OW2, rfl, tz⟩
      have q2 := st.1.keep tz (by simp)
      have r2 := st.2.1.keep tz (by simp)
      have t2 := st.2.2.2.trans (tz.up (by simp))
      have hL := listA_length l q2.1
      have h512 := q2.1.length
      clear st bk tz
      go_wp2_with fail
      refine (listQ wz OW2 [1, 0] [1, 5] g l q2).mono ?_
      rintro e wy ⟨vy, OW3, rfl, ry, ny, -⟩
      have r3 := r2.new_ ny
      have t3 := t2.trans (ny.turn _)
      go_wp2_with fail
      refine (r_list wy OW3 [1, 1] [1, 6] gw l r3 h512 (by omega)).mono ?_
      rintro e wx ⟨vx, OW4, rfl, rx, nx, -⟩
      have t4 := t3.trans (nx.turn _)
      have hsame := same_yes wx _ _ (listA l) (by omega) (ry.new_ nx).reads rx.reads
      go_wp2_with fail
      refine hsame.mono ?_
      rintro e wv ⟨rfl, d, rfl⟩
      go_wp2_with fail
      refine (runs _).mono ?_
      rintro e wu ⟨rfl, bu⟩
      have fin := ((t4.drewN d).new_ ow0 [1]).below
      have fin := fin.trans (bu.mono fin.size)
      go_wp2
      go_ret
      exact ⟨rfl, fin⟩

end EQ
end Go.Proofs.Ytnpcikghgfbfoaa
