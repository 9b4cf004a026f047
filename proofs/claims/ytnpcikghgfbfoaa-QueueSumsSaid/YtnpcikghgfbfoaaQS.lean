/-
  LAW 7: QueueSums: the walk.
-/
import Derived.Test.YtnpcikghgfbfoaaLaw7
import Derived.Test.YtnpcikghgfbfoaaQSP
import Derived.Test.YtnpcikghgfbfoaaQR
namespace Go.Proofs.Ytnpcikghgfbfoaa
open Go Go.RowKit
namespace EQ
open EWt

/-- What the script's loop keeps. -/
def playRel (w : World) (g n : Nat) (i : Value) (wr : World) : Prop :=
  ∃ (k : Nat) (OW : Ow) (l : List Wt), k ≤ n ∧ i = .int .i64 (k : Int) ∧ QA wr OW [1, 0] g l ∧ Turn [1] w ow0 wr OW
def levRel (w : World) (g : Nat) (l : List Wt) (a lv : Value) (wr : World) : Prop :=
  ∃ (k : Nat) (OW : Ow), k ≤ 34 ∧ lv = .int .i64 (k : Int) ∧ a = .int .i64 (sumL l k : Int) ∧ QA wr OW [1, 0] g l ∧ Turn [1] w ow0 wr OW
def tskRel (w : World) (g : Nat) (l : List Wt) (b t : Value) (wr : World) : Prop :=
  ∃ (k : Nat) (OW : Ow), k ≤ 66 ∧ t = .int .i64 ((k : Int) - 1) ∧ b = .int .i64 (sumC l k : Int) ∧ QA wr OW [1, 0] g l ∧ Turn [1] w ow0 wr OW
def outRel (w : World) (g : Nat) (v : Value) (ys : List Wt) (j : Value) (wr : World) : Prop :=
  ∃ (k : Nat) (OW : Ow) (m : List Wt), k ≤ ys.length ∧ j = .int .i64 (k : Int) ∧ QA wr OW [1, 0] g m ∧ listA m = ys.drop k ∧ Row wr OW [1, 1] 27 3 v ys.length (css ys) ∧ Turn [1] w ow0 wr OW

set_option maxRecDepth 100000 in
set_option maxHeartbeats 2000000 in
theorem sums (w : World) (v : Value) (xs : List Op7) (h : In7 w v xs) : Calls Try.prog 6 #[v] w fun e w' => e = .returned (.bool true) ∧ Below w.heap.size w w' := by
  have hfew := few w v xs 200 h (by omega)
  have Hfew := Lib.hid hfew
  clear hfew h
  go_enter Try.func6, Try.ntmps6
  go_wp2_with fail
  refine Hfew.out.mono ?_
  rintro e w1 ⟨v1, rfl, h1, rfl⟩
  have hlen : (xs.take 200).length ≤ 200 := by rw [List.length_take]; omega
  generalize hys : xs.take 200 = ys at *
  clear hys Hfew xs
  go_wp2_with fail
  refine (newA w1 ow0 [1, 0]).mono ?_
  rintro e w2 ⟨g, ow2, rfl, q2, n2, hg⟩
  have t2 := n2.turn [1]
  clear n2 hg
  obtain ⟨A, cap, rfl, hcap, hmax, hcell⟩ := h1
  have Hcell := Lib.hid hcell
  clear hcell
  go_wp2_with fail
  go_loopw [4] (fun i wr => playRel w1 g ys.length i wr) (fun i _ => ys.length - (intOf i).toNat)
  case atStart => exact ⟨0, ow2, [], Nat.zero_le _, rfl, q2, t2⟩
  case round =>
    obtain ⟨k, OW, l, hk, rfl, q, t⟩ := hrel
    by_cases hlt : k < ys.length
    · obtain ⟨x, hx⟩ : ∃ x, ys[k]? = some x := ⟨_, List.getElem?_eq_getElem hlt⟩
      obtain ⟨b, off, rfl, c0, c1, c2, c3⟩ := Hcell.out k x hx
      have bl := (t.new_ ow0 [1]).below
      have hb : b < w1.heap.size := World.block_lt_of_cell? w1 _ c0
      have hn : ∀ o, wr.cell? ⟨b, o, none⟩ = w1.cell? ⟨b, o, none⟩ := fun o => bl.cell hb
      have c0 := (hn _).trans c0
      have c1 := (hn _).trans c1
      have c2 := (hn _).trans c2
      have c3 := (hn _).trans c3
      have i0 : (k : Int) < (ys.length : Int) := by omega
      clear hn bl hx
      by_cases k0 : x.kind = 0
      · have b0 : (x.kind == 0) = true := beq_iff_eq.2 k0
        have hput := fun W (hW : Below wr.heap.size wr W) => (putQ W OW [1, 0] g l (q.new_ (hW.nw OW)) x.task x.level x.job).mono fun e w' ⟨ow', he, hq, ht⟩ => (⟨ow', he, hq, t.trans (((hW.nw OW).turn [1]).trans (ht.up (by simp)))⟩ : ∃ ow', e = Ending.returned (.int .i64 (putA l x.task x.level x.job).1) ∧ QA w' ow' [1, 0] g (putA l x.task x.level x.job).2 ∧ Turn [1] w1 ow0 w' ow')
        have Hput := Lib.hid hput
        clear k0 hput q t
        go_wp2
        go_region_with (go_at_call 8; refine (Hput.out _ (by repeat (first | (with_reducible assumption) | (with_reducible exact Below.refl _ _) | (with_reducible refine Below.drew ?_) | (with_reducible refine bdN ?_ _) | ((with_reducible refine bdS ?_ ?_ _); · first | (simp; done) | omega | (simp; omega)) | ((with_reducible refine bdA ?_ ?_ _); · first | (simp; done) | omega | (simp; omega))))).mono ?_; rintro e wq ⟨owq, rfl, q, t⟩)
        all_goals
          go_wp2
          exact ⟨⟨k + 1, owq, _, by omega, rfl, q, t⟩, by simp only [intOf]; omega⟩
      · have b0 : (x.kind == 0) = false := beq_eq_false_iff_ne.2 k0
        by_cases k1 : x.kind = 1
        · have b1 : (x.kind == 1) = true := beq_iff_eq.2 k1
          clear k0 k1
          go_wp2_with fail
          refine (takeQ wr OW [1, 0] g l q).mono ?_
          rintro e wq ⟨owq, rfl, q, s⟩
          have t := t.trans (s.up (by simp))
          clear s
          go_wp2
          exact ⟨⟨k + 1, owq, _, by omega, rfl, q, t⟩, by simp only [intOf]; omega⟩
        · have b1 : (x.kind == 1) = false := beq_eq_false_iff_ne.2 k1
          clear k0 k1
          go_wp2
          exact ⟨⟨k + 1, OW, l, by omega, rfl, q, t⟩, by simp only [intOf]; omega⟩
    · obtain rfl : k = ys.length := by omega
      clear Hcell hlt hk
      go_wp2_with fail
      go_loopw [5, 6] (fun a lv wr => levRel w1 g l a lv wr) (fun _ lv _ => 34 - (intOf lv).toNat)
      case atStart => exact ⟨0, OW, by omega, rfl, rfl, q, t⟩
      case round =>
        clear q t
        obtain ⟨k, OW2, hk, rfl, rfl, q, t⟩ := hrel
        have hsl := sumL_le l q.1 k
        have hll := Nat.le_trans (List.length_filter_le (fun x => decide (x.level = (k : Int))) l) q.1.length
        change (levelA l (k : Int)).length ≤ 512 at hll
        by_cases hlt : k < 34
        · have i0 : (k : Int) ≤ 33 := by omega
          go_wp2_with fail
          refine (levelQ wr OW2 [1, 0] [1, 2] g l q (k : Int)).mono ?_
          rintro e wq ⟨lv, owq, rfl, r, n, f⟩
          obtain ⟨A', c', rfl, -⟩ := r.slice
          have q := q.new_ n
          have t := t.trans (n.turn [1])
          clear r n f
          go_wp2
          exact ⟨⟨k + 1, owq, by omega, rfl, by rw [sumL_succ, Int.natCast_add], q, t⟩, by simp only [intOf]; omega⟩
        · obtain rfl : k = 34 := by omega
          rw [sumL_all l q.1.level]
          simp only [show ((34 : Nat) : Int) = 34 from rfl]
          clear hsl hll
          have hl512 := q.1.length
          go_wp2_with fail
          go_loopw [7, 8] (fun b t wr => tskRel w1 g l b t wr) (fun _ t _ => 66 - (intOf t + 1).toNat)
          case atStart => exact ⟨0, OW2, by omega, rfl, rfl, q, t⟩
          case round =>
            clear q t
            obtain ⟨k, OW3, hk, rfl, rfl, q, t⟩ := hrel
            have hsl := sumC_le l q.1 k
            have hll := q.1.few ((k : Int) - 1)
            by_cases hlt : k < 66
            · have i0 : (k : Int) - 1 ≤ 64 := by omega
              have i1 : ¬ 8 < (cnt l ((k : Int) - 1) : Int) := by omega
              go_wp2_with fail
              refine (activeQ wr OW3 [1, 0] g l q ((k : Int) - 1)).mono ?_
              rintro e wq ⟨rfl, n⟩
              have q := q.new_ (n.nw OW3)
              have t := t.trans ((n.nw OW3).turn [1])
              clear n
              go_wp2_with fail
              refine (activeQ wq OW3 [1, 0] g l q ((k : Int) - 1)).mono ?_
              rintro e wp ⟨rfl, n⟩
              have q := q.new_ (n.nw OW3)
              have t := t.trans ((n.nw OW3).turn [1])
              clear n
              go_wp2
              exact ⟨⟨k + 1, OW3, by omega, by simp only [Value.int.injEq, true_and]; omega, by rw [sumC_succ, Int.natCast_add], q, t⟩, by simp only [intOf]; omega⟩
            · obtain rfl : k = 66 := by omega
              rw [sumC_all l q.1.task]
              simp only [show ((66 : Nat) : Int) = 66 from rfl]
              clear hsl hll
              go_wp2_with fail
              refine (listQ wr OW3 [1, 0] [1, 1] g l q).mono ?_
              rintro e wq ⟨lv, owq, rfl, r, n, f⟩
              have q := q.new_ n
              have t := t.trans (n.turn [1])
              have hLl := listA_length l q.1
              rw [hLl] at r
              obtain ⟨A', c', rfl, -⟩ := r.slice
              clear n f
              go_wp2_with fail
              refine (lenQ wq owq [1, 0] g l q).mono ?_
              rintro e wp ⟨rfl, n⟩
              have q := q.new_ (n.nw owq)
              have r := r.new_ (n.nw owq)
              have t := t.trans ((n.nw owq).turn [1])
              clear n
              go_wp2_with fail
              refine (lenQ wp owq [1, 0] g l q).mono ?_
              rintro e wp2 ⟨rfl, n⟩
              have q := q.new_ (n.nw owq)
              have r := r.new_ (n.nw owq)
              have t := t.trans ((n.nw owq).turn [1])
              clear n
              go_wp2_with fail
              refine (lenQ wp2 owq [1, 0] g l q).mono ?_
              rintro e wp3 ⟨rfl, n⟩
              have q := q.new_ (n.nw owq)
              have r := r.new_ (n.nw owq)
              have t := t.trans ((n.nw owq).turn [1])
              clear n
              go_wp2_with fail
              go_loopw [10] (fun j wr => outRel w1 g (.slice A' l.length c') (listA l) j wr) (fun j _ => l.length - (intOf j).toNat)
              case atStart => exact ⟨0, owq, l, Nat.zero_le _, rfl, q, by rw [List.drop_zero], by rw [hLl]; exact r, t⟩
              case round =>
                clear q t r
                obtain ⟨k, OW4, m, hk, rfl, q, hm, r, t⟩ := hrel
                rw [hLl] at hk r
                by_cases hlt : k < l.length
                · obtain ⟨x, hx⟩ : ∃ x, (listA l)[k]? = some x := ⟨_, List.getElem?_eq_getElem (by omega)⟩
                  have hm2 : listA m = x :: (listA l).drop (k + 1) := by
                    rw [hm, List.drop_eq_getElem_cons (by omega), (List.getElem?_eq_some_iff.1 hx).2]
                  obtain ⟨e1, e2⟩ := takes m q.1 x _ hm2
                  have htake := takeQ wr OW4 [1, 0] g m q
                  rw [e1] at htake
                  have Htake := Lib.hid htake
                  have E2 := Lib.hid e2
                  have i0 : (k : Int) < (l.length : Int) := by omega
                  clear e1 e2 hm hm2 htake q
                  go_wp2_with fail
                  refine Htake.out.mono ?_
                  rintro e ws ⟨ows, rfl, q, s⟩
                  have r := r.keep s (by simp)
                  have t := t.trans (s.up (by simp))
                  obtain ⟨b, off, cap', hv, -⟩ := r.at (by omega)
                  simp only [Value.slice.injEq] at hv
                  obtain ⟨rfl, -, rfl⟩ := hv
                  obtain ⟨hb, ho, hf, hcell⟩ := r.open_
                  have d0 := hcell (k * 3 + 0) _ (css_at (listA l) k x hx 0 _ rfl (by omega))
                  have d1 := hcell (k * 3 + 1) _ (css_at (listA l) k x hx 1 _ rfl (by omega))
                  have d2 := hcell (k * 3 + 2) _ (css_at (listA l) k x hx 2 _ rfl (by omega))
                  simp only [Nat.add_zero, ← Nat.add_assoc] at d0 d1 d2
                  have nx := (New.refl ws ows).alloc (Obj.cells #[Value.int .i64 x.job, Value.int .i64 x.task, Value.int .i64 x.level] 27) [1, 2]
                  have q := q.new_ nx
                  have r := r.new_ nx
                  have t := t.trans (nx.turn [1])
                  clear s ho hf hcell hx
                  unfold wt
                  have lws : b < ws.heap.size := hb
                  go_wp2
                  go_region
                  all_goals
                    go_wp2
                    exact ⟨⟨k + 1, _, takeL m, by omega, rfl, q, E2.out, by rw [hLl]; exact r, t.drew⟩, by simp only [intOf]; omega⟩
                · obtain rfl : k = l.length := by omega
                  rw [← hLl, List.drop_length] at hm
                  have hm0 := takes_nil m q.1 hm
                  subst hm0
                  clear r hm
                  go_wp2_with fail
                  refine (takeE wr OW4 [1, 0] g [] q (.tuple #[.agg #[.int .i64 0, .int .i64 0, .int .i64 0], .bool false]) [] (by rfl) (by rfl)).mono ?_
                  rintro e ws ⟨ows, rfl, q, s⟩
                  have t := t.trans (s.up (by simp))
                  clear s q
                  go_wp2_with fail
                  refine (runs _).mono ?_
                  rintro e wz ⟨rfl, bz⟩
                  have fin : Below w1.heap.size w1 wz := by
                    have b1 := (t.new_ ow0 [1]).below
                    have b2 : Below w1.heap.size w1 (ws.alloc (Obj.cells #[Value.int .i64 0, Value.int .i64 0, Value.int .i64 0] 27)) := bdA b1.size b1 _
                    exact b2.trans (bz.mono b2.size)
                  clear bz t
                  go_wp2
                  go_ret
                  exact ⟨rfl, fin⟩

end EQ
end Go.Proofs.Ytnpcikghgfbfoaa
