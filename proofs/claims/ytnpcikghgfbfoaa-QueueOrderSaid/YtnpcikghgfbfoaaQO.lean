/-
  LAW 7: QueueOrder: the walk.
-/
import Derived.Test.YtnpcikghgfbfoaaLaw7
import Derived.Test.YtnpcikghgfbfoaaQOP
import Derived.Test.YtnpcikghgfbfoaaQSame
import Derived.Test.YtnpcikghgfbfoaaQR
namespace Go.Proofs.Ytnpcikghgfbfoaa
open Go Go.RowKit
namespace EQ
open EWt

/-- What the script's loop keeps. -/
def ordRel (w : World) (g LB n : Nat) (i : Value) (wr : World) : Prop :=
  ∃ (k : Nat) (OW : Ow) (l : List Wt) (last : List Int), k ≤ n ∧ i = .int .i64 (k : Int) ∧ QA wr OW [1, 0] g l ∧ Ord k l last ∧ Cells wr OW [1, 3] LB 0 (last.map fun a => .int .i64 a) ∧ Turn [1] w ow0 wr OW

/-- What the loop over the new list keeps: j: how far, kv: how many of the old ones. -/
def insRel (W : World) (a n : Nat) (kv j : Value) (wr : World) : Prop :=
  ∃ m kk d : Nat, m ≤ n + 1 ∧ j = .int .i64 (m : Int) ∧ kv = .int .i64 (kk : Int) ∧ ((m ≤ a ∧ kk = m) ∨ (a < m ∧ kk + 1 = m)) ∧ wr = W.drewN d
/-- What the look at those that waited keeps. -/
def lookRel (W : World) (n : Nat) (j : Value) (wr : World) : Prop := ∃ m d : Nat, m ≤ n ∧ j = .int .i64 (m : Int) ∧ wr = W.drewN d

set_option maxRecDepth 100000 in
set_option maxHeartbeats 40000000 in
theorem order (w : World) (v : Value) (xs : List Op7) (h : In7 w v xs) : Calls Try.prog 4 #[v] w fun e w' => e = .returned (.bool true) ∧ Below w.heap.size w w' := by
  have hfew := few w v xs 250 h (by omega)
  have Hfew := Lib.hid hfew
  clear hfew h
  go_enter Try.func4, Try.ntmps4
  go_wp2_with fail
  refine Hfew.out.mono ?_
  rintro e w1 ⟨v1, rfl, h1, rfl⟩
  have hlen : (xs.take 250).length ≤ 250 := by rw [List.length_take]; omega
  generalize hys : xs.take 250 = ys at *
  clear hys Hfew xs
  go_wp2_with fail
  refine (newA w1 ow0 [1, 0]).mono ?_
  rintro e w2 ⟨g, ow2, rfl, q2, n2, hg⟩
  have t2 := n2.turn [1]
  clear n2 hg
  obtain ⟨A, cap, rfl, hcap, hmax, hcell⟩ := h1
  have Hcell := Lib.hid hcell
  clear hcell
  go_wp2_with fail
  have nL := (New.refl w2 ow2).alloc (Obj.cells (List.replicate 33 (Value.int .i64 0)).toArray 43) [1, 3]
  have hL := Cells.new w2 ow2 [1, 3] (List.replicate 33 (Value.int .i64 0)) 43
  have q := q2.new_ nL
  have t := t2.trans (nL.turn [1])
  change Cells (w2.alloc (Obj.cells (List.replicate 33 (Value.int .i64 0)).toArray 43)) _ _ _ _ _ at hL
  have lg : w2.heap.size < (w2.alloc (Obj.cells (List.replicate 33 (Value.int .i64 0)).toArray 43)).heap.size := by simp
  generalize hO3 : ow2.set w2.heap.size [1, 3] = ow3 at *
  change Code.wp _ _ _ _ (w2.alloc (Obj.cells (List.replicate 33 (Value.int .i64 0)).toArray 43))
  generalize hW3 : w2.alloc (Obj.cells (List.replicate 33 (Value.int .i64 0)).toArray 43) = w3 at *
  generalize hLB : w2.heap.size = LB at *
  clear hO3 hW3 nL q2 t2 hLB
  go_loopw [5] (fun i wr => ordRel w1 g LB ys.length i wr) (fun i _ => ys.length - (intOf i).toNat)
  case atStart => exact ⟨0, ow3, [], List.replicate 33 0, Nat.zero_le _, rfl, q, Ord.nil, by rw [List.map_replicate]; exact hL, t⟩
  case round =>
    clear q t hL lg
    obtain ⟨k, OW, l, last, hk, rfl, q, hord, hL, t⟩ := hrel
    by_cases hlt : k < ys.length
    · obtain ⟨x, hx⟩ : ∃ x, ys[k]? = some x := ⟨_, List.getElem?_eq_getElem hlt⟩
      obtain ⟨b, off, rfl, c0, c1, c2, c3⟩ := Hcell.out k x hx
      have bl := (t.new_ ow0 [1]).below
      have hb : b < w1.heap.size := World.block_lt_of_cell? w1 _ c0
      have hn : ∀ o, wr.cell? ⟨b, o, none⟩ = w1.cell? ⟨b, o, none⟩ := fun o => bl.cell hb
      have c0 := (hn _).trans c0
      have c1 := (hn _).trans c1
      have c2 := (hn _).trans c2
      have c3 := (hn _).trans c3
      have i0 : (k : Int) < (ys.length : Int) := by omega
      have nO := (New.refl wr OW).alloc (Obj.cells #[Value.int .i64 x.kind, Value.int .i64 x.task, Value.int .i64 x.level, Value.int .i64 x.job] 45) [1, 4]
      have hO := Cells.new wr OW [1, 4] [Value.int .i64 x.kind, Value.int .i64 x.task, Value.int .i64 x.level, Value.int .i64 x.job] 45
      have q := q.new_ nO
      have hL := hL.new_ nO
      have t := t.trans (nO.turn [1])
      change Cells (wr.alloc (Obj.cells #[Value.int .i64 x.kind, Value.int .i64 x.task, Value.int .i64 x.level, Value.int .i64 x.job] 45)) _ _ _ _ _ at hO
      have hok := hord.skip
      have Hord := Lib.hid hord
      clear hn bl hx nO hord
      by_cases k0 : x.kind = 0
      · have b0 : (x.kind == 0) = true := beq_iff_eq.2 k0
        clear k0
        go_wp2_with fail
        generalize hO4 : OW.set wr.heap.size [1, 4] = OW4 at *
        generalize hW4 : wr.alloc (Obj.cells #[Value.int .i64 x.kind, Value.int .i64 x.task, Value.int .i64 x.level, Value.int .i64 x.job] 45) = W4 at *
        generalize hOb : wr.heap.size = Ob at *
        clear hO4 hW4 hOb c0 c1 c2 c3
        refine (listQ W4 OW4 [1, 0] [1, 5] g l q).mono ?_
        rintro e w5 ⟨v5, OW5, rfl, r5, n5, f5⟩
        have q := q.new_ n5
        have hL := hL.new_ n5
        have hO := hO.new_ n5
        have t := t.trans (n5.turn [1])
        have hLl := listA_length l q.1
        have hl512 := q.1.length
        rw [hLl] at r5
        obtain ⟨A5, cap5, rfl, -⟩ := r5.slice
        have o1 := hO.get 1 rfl
        have o2 := hO.get 2 rfl
        simp only [Nat.zero_add] at o1 o2
        clear n5 f5
        go_wp2_with fail
        refine (activeQ w5 OW5 [1, 0] g l q x.task).mono ?_
        rintro e w6 ⟨rfl, n6⟩
        have q := q.new_ (n6.nw OW5)
        have hL := hL.new_ (n6.nw OW5)
        have hO := hO.new_ (n6.nw OW5)
        have r6 := r5.new_ (n6.nw OW5)
        have t := t.trans ((n6.nw OW5).turn [1])
        have o1 := hO.get 1 rfl
        have o2 := hO.get 2 rfl
        simp only [Nat.zero_add] at o1 o2
        clear n6 r5
        by_cases h8 : 8 ≤ cnt l x.task
        · have hE : ∃ e, putA l x.task x.level (k : Int) = (e, l) ∧ ¬ e = 0 := by
            by_cases ho : x.task < 0 ∨ 64 ≤ x.task ∨ x.level < 1 ∨ 32 < x.level ∨ (k : Int) < 0
            · exact ⟨1, by rw [putA, if_pos ho], by omega⟩
            · exact ⟨4, by rw [putA, if_neg ho, if_pos h8], by omega⟩
          obtain ⟨e, hput, he⟩ := hE
          have h8' : (8 : Int) ≤ (cnt l x.task : Int) := by omega
          have he' : (e == 0) = false := beq_eq_false_iff_ne.2 he
          clear he
          go_wp2_with fail
          refine (putE w6 OW5 [1, 0] g l q x.task x.level k e l hput).mono ?_
          rintro e w7 ⟨OW7, rfl, q, s7⟩
          have hL := hL.keep s7 (by simp)
          have r7 := r6.keep s7 (by simp)
          have t := t.trans (s7.up (by simp))
          clear s7 r6 hO o1 o2
          go_wp2_with fail
          refine (listQ w7 OW7 [1, 0] [1, 6] g l q).mono ?_
          rintro e w8 ⟨v8, OW8, rfl, r8, n8, f8⟩
          have q := q.new_ n8
          have hL := hL.new_ n8
          have r7 := r7.new_ n8
          have t := t.trans (n8.turn [1])
          rw [hLl] at r8
          obtain ⟨A8, cap8, rfl, -⟩ := r8.slice
          have hsame := same w8 _ _ (listA l) (by rw [hLl]; omega) (by rw [hLl]; exact r7.reads) (by rw [hLl]; exact r8.reads)
          have Hsame := Lib.hid hsame
          clear n8 f8 hsame r7 r8
          go_wp2_with fail
          refine Hsame.out.mono ?_
          rintro e w9 ⟨rfl, d, rfl⟩
          go_wp2
          all_goals exact ⟨⟨k + 1, OW8, l, last, by omega, rfl, q, hok, hL, t.drewN d⟩, by simp only [intOf]; omega⟩
        · have h8' : ¬ (8 : Int) ≤ (cnt l x.task : Int) := by omega
          by_cases ho : x.task < 0 ∨ 64 ≤ x.task ∨ x.level < 1 ∨ 32 < x.level ∨ (k : Int) < 0
          · have hput : putA l x.task x.level (k : Int) = (1, l) := by rw [putA, if_pos ho]
            clear ho
            go_wp2_with fail
            refine (putE w6 OW5 [1, 0] g l q x.task x.level k 1 l hput).mono ?_
            rintro e w7 ⟨OW7, rfl, q, s7⟩
            have hL := hL.keep s7 (by simp)
            have r7 := r6.keep s7 (by simp)
            have t := t.trans (s7.up (by simp))
            clear s7 r6 hO o1 o2
            go_wp2_with fail
            refine (listQ w7 OW7 [1, 0] [1, 6] g l q).mono ?_
            rintro e w8 ⟨v8, OW8, rfl, r8, n8, f8⟩
            have q := q.new_ n8
            have hL := hL.new_ n8
            have r7 := r7.new_ n8
            have t := t.trans (n8.turn [1])
            rw [hLl] at r8
            obtain ⟨A8, cap8, rfl, -⟩ := r8.slice
            have hsame := same w8 _ _ (listA l) (by rw [hLl]; omega) (by rw [hLl]; exact r7.reads) (by rw [hLl]; exact r8.reads)
            have Hsame := Lib.hid hsame
            clear n8 f8 hsame r7 r8
            go_wp2_with fail
            refine Hsame.out.mono ?_
            rintro e w9 ⟨rfl, d, rfl⟩
            go_wp2
            all_goals exact ⟨⟨k + 1, OW8, l, last, by omega, rfl, q, hok, hL, t.drewN d⟩, by simp only [intOf]; omega⟩
          · have hput : putA l x.task x.level (k : Int) = (0, l ++ [⟨k, x.task, x.level⟩]) := by rw [putA, if_neg ho, if_neg h8]
            go_wp2_with fail
            refine (putE w6 OW5 [1, 0] g l q x.task x.level k 0 _ hput).mono ?_
            rintro e w7 ⟨OW7, rfl, q, s7⟩
            have hL := hL.keep s7 (by simp)
            have r7 := r6.keep s7 (by simp)
            have hO := hO.keep s7 (by simp)
            have t := t.trans (s7.up (by simp))
            have hordp := Hord.out.put x.task x.level
            have hjob := Hord.out.job
            obtain ⟨i, hi⟩ : ∃ i : Nat, x.level = (i : Int) + 1 := ⟨(x.level - 1).toNat, by omega⟩
            obtain ⟨P, B, hwas, hnow⟩ := listA_put l ⟨(k : Int), x.task, x.level⟩ i (by omega) hi
            have hNl := listA_length _ q.1
            rw [List.length_append, List.length_singleton] at hNl
            have hPB : P.length + B.length = l.length := by rw [← hLl, hwas, List.length_append]
            have hPj : ∀ y ∈ listA l, ¬ y.job = (k : Int) := fun y hy => by have := hjob y (mem_listA l y hy); omega
            have Hnow := Lib.hid hnow
            have Hwas := Lib.hid hwas
            have HPj := Lib.hid hPj
            clear s7 r6 o1 o2 hjob hi hput ho hnow hwas hPj
            go_wp2_with fail
            refine (listQ w7 OW7 [1, 0] [1, 6] g _ q).mono ?_
            rintro e w8 ⟨v8, OW8, rfl, r8, n8, f8⟩
            have q := q.new_ n8
            have hL := hL.new_ n8
            have hO := hO.new_ n8
            have r7 := r7.new_ n8
            have t := t.trans (n8.turn [1])
            rw [hNl] at r8
            obtain ⟨A8, cap8, rfl, -⟩ := r8.slice
            clear n8 f8
            go_wp2_with fail
            go_loopw [11, 12] (fun kv j wr => insRel w8 P.length l.length kv j wr) (fun _ j _ => l.length + 1 - (intOf j).toNat)
            case atStart => exact ⟨0, 0, 0, Nat.zero_le _, rfl, rfl, .inl ⟨Nat.zero_le _, rfl⟩, rfl⟩
            case round =>
              obtain ⟨m, kk, d, hm, rfl, rfl, hcase, rfl⟩ := hrel
              have o1 := hO.get 1 rfl
              have o2 := hO.get 2 rfl
              simp only [Nat.zero_add] at o1 o2
              by_cases hlt2 : m < l.length + 1
              · obtain ⟨y, hy⟩ : ∃ y, (listA (l ++ [⟨(k : Int), x.task, x.level⟩]))[m]? = some y := ⟨_, List.getElem?_eq_getElem (by rw [hNl]; exact hlt2)⟩
                obtain ⟨bn, on, capn, hvn, -⟩ := r8.at (by omega)
                simp only [Value.slice.injEq] at hvn
                obtain ⟨rfl, -, rfl⟩ := hvn
                obtain ⟨-, -, -, hcn⟩ := r8.open_
                have d0 := hcn (m * 3 + 0) _ (css_at _ m y hy 0 _ rfl (by omega))
                have d1 := hcn (m * 3 + 1) _ (css_at _ m y hy 1 _ rfl (by omega))
                have d2 := hcn (m * 3 + 2) _ (css_at _ m y hy 2 _ rfl (by omega))
                simp only [Nat.add_zero, ← Nat.add_assoc] at d0 d1 d2
                have im : (m : Int) < (l.length : Int) + 1 := by omega
                rw [Hnow.out] at hy
                by_cases hmP : m = P.length
                · have hkk : kk = m := by omega
                  subst hkk
                  have hye : y = ⟨(k : Int), x.task, x.level⟩ := by
                    rw [hmP, List.getElem?_append_right (Nat.le_refl _), Nat.sub_self] at hy
                    exact (Option.some.inj hy).symm
                  subst hye
                  have HmP := Lib.hid hmP
                  clear hcn hy hcase hmP
                  go_wp2
                  go_quiet (fail)
                  all_goals
                    go_wp2
                    exact ⟨⟨kk + 1, kk, _, by omega, rfl, rfl, .inr ⟨by have := HmP.out; omega, rfl⟩, rfl⟩, by simp only [intOf]; omega⟩
                · have hkl : kk < l.length := by omega
                  have hyw : (listA l)[kk]? = some y := by
                    rw [Hwas.out]
                    rcases hcase with ⟨h1, h2⟩ | ⟨h1, h2⟩
                    · rw [h2]
                      rw [List.getElem?_append_left (by omega)] at hy ⊢
                      exact hy
                    · rw [List.getElem?_append_right (by omega)] at hy ⊢
                      rw [show m - P.length = kk - P.length + 1 by omega, List.getElem?_cons_succ] at hy
                      exact hy
                  obtain ⟨bw, ow_, capw, hvw, -⟩ := r7.at (by omega)
                  simp only [Value.slice.injEq] at hvw
                  obtain ⟨rfl, -, rfl⟩ := hvw
                  obtain ⟨-, -, -, hcw⟩ := r7.open_
                  have f0 := hcw (kk * 3 + 0) _ (css_at _ kk y hyw 0 _ rfl (by omega))
                  have f1 := hcw (kk * 3 + 1) _ (css_at _ kk y hyw 1 _ rfl (by omega))
                  have f2 := hcw (kk * 3 + 2) _ (css_at _ kk y hyw 2 _ rfl (by omega))
                  simp only [Nat.add_zero, ← Nat.add_assoc] at f0 f1 f2
                  have hj := HPj.out y (List.mem_of_getElem? hyw)
                  have hj' : (y.job == (k : Int)) = false := beq_eq_false_iff_ne.2 hj
                  have ik : (kk : Int) < (l.length : Int) := by omega
                  have ik' : decide ((l.length : Int) ≤ (kk : Int)) = false := decide_eq_false (by omega)
                  clear hcn hcw hy hyw
                  go_wp2
                  go_quiet (fail)
                  all_goals
                    go_wp2
                    go_quiet (fail)
                    all_goals
                      go_wp2
                      exact ⟨⟨m + 1, kk + 1, _, by omega, rfl, rfl, by omega, rfl⟩, by simp only [intOf]; omega⟩
              · obtain rfl : m = l.length + 1 := by omega
                obtain rfl : kk = l.length := by omega
                go_wp2
                all_goals exact ⟨⟨k + 1, OW8, _, last, by omega, rfl, q, hordp, hL, t.drewN d⟩, by simp only [intOf]; omega⟩
      · have b0 : (x.kind == 0) = false := beq_eq_false_iff_ne.2 k0
        clear k0
        go_wp2_with fail
        generalize hO4 : OW.set wr.heap.size [1, 4] = OW4 at *
        generalize hW4 : wr.alloc (Obj.cells #[Value.int .i64 x.kind, Value.int .i64 x.task, Value.int .i64 x.level, Value.int .i64 x.job] 45) = W4 at *
        generalize hOb : wr.heap.size = Ob at *
        clear hO4 hW4 hOb c0 c1 c2 c3 hO
        refine (listQ W4 OW4 [1, 0] [1, 5] g l q).mono ?_
        rintro e w5 ⟨v5, OW5, rfl, r5, n5, f5⟩
        have q := q.new_ n5
        have hL := hL.new_ n5
        have t := t.trans (n5.turn [1])
        have hLl := listA_length l q.1
        have hl512 := q.1.length
        rw [hLl] at r5
        obtain ⟨A5, cap5, rfl, -⟩ := r5.slice
        clear n5 f5
        cases hf : first l with
        | none =>
          have hl0 := first_none l hf
          subst hl0
          clear hf hLl hl512
          go_wp2_with fail
          refine (takeE w5 OW5 [1, 0] g [] q (.tuple #[.agg #[.int .i64 0, .int .i64 0, .int .i64 0], .bool false]) [] (by rfl) (by rfl)).mono ?_
          rintro e w7 ⟨OW7, rfl, q, s7⟩
          have hL := hL.keep s7 (by simp)
          have t := t.trans (s7.up (by simp))
          have nX := (New.refl w7 OW7).alloc (Obj.cells #[Value.int .i64 0, Value.int .i64 0, Value.int .i64 0] 27) [1, 7]
          have q := q.new_ nX
          have hL := hL.new_ nX
          have t := t.trans (nX.turn [1])
          clear s7 nX r5
          go_wp2
          all_goals exact ⟨⟨k + 1, _, [], last, by omega, rfl, q, hok, hL, t⟩, by simp only [intOf]; omega⟩
        | some kk =>
          obtain ⟨x', i, tt, hx', hi, -, hlv, -, -, -, -, -, -⟩ := first_some l q.1 kk hf
          have hm' : x' ∈ l := List.mem_of_getElem? hx'
          have htop := Hord.out.top kk hf x' hx'
          have hordt := Hord.out.take q.1 kk hf x' hx'
          obtain ⟨xj, xt, xl⟩ := x'
          simp only at hlv
          obtain rfl : xl = ((i + 1 : Nat) : Int) := by omega
          clear hlv
          simp only [Int.toNat_natCast] at hordt
          generalize hn : i + 1 = n at *
          obtain ⟨a, ha⟩ : ∃ a, last[n]? = some a := ⟨_, List.getElem?_eq_getElem (by rw [Hord.out.len]; omega)⟩
          have hsince := Hord.out.since _ hm' a (by simpa using ha)
          simp only at hsince
          have e1 : firstV l = .tuple #[.agg #[.int .i64 xj, .int .i64 xt, .int .i64 (n : Int)], .bool true] := by simp [firstV, hf, hx', wt]
          have e2 : takeL l = l.eraseIdx kk := by simp [takeL, hf]
          have hll : 0 < l.length := List.length_pos_of_mem hm'
          have i1 : (0 : Int) < (l.length : Int) := by omega
          have hn33 : n < 33 := by omega
          have in1 : (n : Int) < 33 := by omega
          have Htop := Lib.hid htop
          have Hordt := Lib.hid hordt
          have htake := takeE w5 OW5 [1, 0] g l q _ _ e1 e2
          have Htake := Lib.hid htake
          clear htop hordt htake e1 e2 hx' hm' hf q hn
          go_wp2_with fail
          refine Htake.out.mono ?_
          rintro e w7 ⟨OW7, rfl, q, s7⟩
          have hL := hL.keep s7 (by simp)
          have r7 := r5.keep s7 (by simp)
          have t := t.trans (s7.up (by simp))
          have nX := (New.refl w7 OW7).alloc (Obj.cells #[Value.int .i64 xj, Value.int .i64 xt, Value.int .i64 (n : Int)] 27) [1, 7]
          have hX := Cells.new w7 OW7 [1, 7] [Value.int .i64 xj, Value.int .i64 xt, Value.int .i64 (n : Int)] 27
          change Cells (w7.alloc (Obj.cells #[Value.int .i64 xj, Value.int .i64 xt, Value.int .i64 (n : Int)] 27)) _ _ _ _ _ at hX
          have q := q.new_ nX
          have hL := hL.new_ nX
          have r7 := r7.new_ nX
          have t := t.trans (nX.turn [1])
          clear s7 nX r5
          go_wp2_with fail
          generalize hO8 : OW7.set w7.heap.size [1, 7] = OW8 at *
          generalize hW8 : w7.alloc (Obj.cells #[Value.int .i64 xj, Value.int .i64 xt, Value.int .i64 (n : Int)] 27) = W8 at *
          generalize hXb : w7.heap.size = Xb at *
          clear hO8 hW8 hXb
          go_loopw [16] (fun j wr => lookRel W8 l.length j wr) (fun j _ => l.length - (intOf j).toNat)
          case atStart => exact ⟨0, 0, Nat.zero_le _, rfl, rfl⟩
          case round =>
            obtain ⟨m, d, hm, rfl, rfl⟩ := hrel
            have x0 := hX.get 0 rfl
            have x2 := hX.get 2 rfl
            simp only [Nat.zero_add] at x0 x2
            by_cases hlt2 : m < l.length
            · obtain ⟨y, hy⟩ : ∃ y, (listA l)[m]? = some y := ⟨_, List.getElem?_eq_getElem (by omega)⟩
              obtain ⟨bw, ow_, capw, hvw, -⟩ := r7.at (by omega)
              simp only [Value.slice.injEq] at hvw
              obtain ⟨rfl, -, rfl⟩ := hvw
              obtain ⟨-, -, -, hcw⟩ := r7.open_
              have f0 := hcw (m * 3 + 0) _ (css_at _ m y hy 0 _ rfl (by omega))
              have f2 := hcw (m * 3 + 2) _ (css_at _ m y hy 2 _ rfl (by omega))
              simp only [Nat.add_zero, ← Nat.add_assoc] at f0 f2
              obtain ⟨ht1, ht2⟩ := Htop.out y (mem_listA l y (List.mem_of_getElem? hy))
              have im : (m : Int) < (l.length : Int) := by omega
              have hg1 : decide ((n : Int) < y.level) = false := decide_eq_false (by omega)
              clear hcw hy
              by_cases hyl : y.level = (n : Int)
              · have hb1 : (y.level == (n : Int)) = true := beq_iff_eq.2 hyl
                have hg2 : decide (y.job < xj) = false := decide_eq_false (by have := ht2 hyl; omega)
                clear ht1 ht2 hyl
                go_wp2
                go_quiet (fail)
                all_goals
                  go_wp2
                  exact ⟨⟨m + 1, _, by omega, rfl, rfl⟩, by simp only [intOf]; omega⟩
              · have hb1 : (y.level == (n : Int)) = false := beq_eq_false_iff_ne.2 hyl
                clear ht1 ht2 hyl
                go_wp2
                go_quiet (fail)
                all_goals
                  go_wp2
                  exact ⟨⟨m + 1, _, by omega, rfl, rfl⟩, by simp only [intOf]; omega⟩
            · obtain rfl : m = l.length := by omega
              have cl := hL.get n (by rw [List.getElem?_map, ha]; rfl)
              have fl := hL.free n
              simp only [Nat.zero_add] at cl
              have hg3 : decide (xj < a) = false := decide_eq_false (by omega)
              have fin : ∀ N, ordRel w1 g LB ys.length (.int .i64 ((k : Int) + 1)) ((W8.drewN N).setCell ⟨LB, n, none⟩ (.int .i64 xj)) := fun N => by
                have hn2 : n < (last.map fun a => Value.int .i64 a).length := by rw [List.length_map, Hord.out.len]; exact hn33
                have z1 := (hL.drewN N).set n (.int .i64 xj) hn2
                have z2 := (hL.drewN N).turn n (.int .i64 xj) hn2
                rw [Nat.zero_add] at z1 z2
                rw [← List.map_set (f := fun a => Value.int .i64 a) (i := n) (a := xj)] at z1
                exact ⟨k + 1, OW8, l.eraseIdx kk, last.set n xj, by omega, rfl, QA.keep (w := W8.drewN N) q z2 (by simp), Hordt.out, z1, (t.drewN N).trans (z2.up (by simp))⟩
              have Fin := Lib.hid fin
              clear ha fin
              go_wp2
              go_quiet (fail)
              all_goals
                go_wp2
                exact ⟨Fin.out _, by simp only [intOf]; omega⟩
    · obtain rfl : k = ys.length := by omega
      go_wp2_with fail
      refine (lenQ wr OW [1, 0] g l q).mono ?_
      rintro e wz ⟨rfl, nz⟩
      have hl512 : (l.length : Int) ≤ 512 := by have := q.1.length; omega
      have b1 := (t.new_ ow0 [1]).below
      have b2 := b1.trans (nz.mono b1.size)
      go_wp2_with fail
      refine (runs _).mono ?_
      rintro e wy ⟨rfl, by_⟩
      have fin := b2.trans (by_.mono b2.size)
      go_wp2
      go_ret
      exact ⟨rfl, fin⟩

end EQ
end Go.Proofs.Ytnpcikghgfbfoaa
