/- Tokens with an empty table: frame's Token, Clone. -/
import Derived.Test.YtmaielpfeajelaaTa
import Derived.Test.YtmaielpfeajelaaSat
set_option linter.unusedVariables false
set_option linter.unusedSimpArgs false
set_option maxRecDepth 100000
namespace Go.Proofs.Ytmaielpfeajelaa.Tb
open Go.RowKit Go.MapKept Go.Shelf Hm Hs Hg Hv Hx Hy Sm Sat Ya Ta
/-- a token's value -/
abbrev tk (g s : Int) (sv : Value) (m : Int) (rv : Value) : Value := .agg #[.int .i64 g, .int .i64 s, sv, .int .i64 m, rv]
def inB (x lo hi : Int) : Bool := decide (lo ≤ x) && decide (x ≤ hi)
theorem in_is (x lo hi : Int) (w : World) : Calls Try.prog 51 #[.int .i64 x, .int .i64 lo, .int .i64 hi] w fun e w' => e = .returned (.bool (inB x lo hi)) ∧ Turns [] w w' := by
  unfold inB
  by_cases h : lo ≤ x
  · have g1 : decide (x ≥ lo) = true := decide_eq_true h
    rw [decide_eq_true h, Bool.true_and]
    generalize hq : decide (x ≤ hi) = q
    clear h
    go_enter Try.func51, Try.ntmps51
    go_wp2_with fail
    go_ret
    exact ⟨rfl, Turns.refl _ _⟩
  · have g1 : decide (x ≥ lo) = false := decide_eq_false h
    rw [decide_eq_false h, Bool.false_and]
    clear h
    go_enter Try.func51, Try.ntmps51
    go_wp2_with fail
    go_ret
    exact ⟨rfl, Turns.refl _ _⟩
theorem rin_is (x lo hi : Int) (w : World) : Calls Try.prog 53 #[.int .i64 x, .int .i64 lo, .int .i64 hi] w fun e w' => e = .returned (.bool (inB x lo hi)) ∧ Turns [] w w' := by
  unfold inB
  by_cases h : lo ≤ x
  · have g1 : decide (x ≥ lo) = true := decide_eq_true h
    rw [decide_eq_true h, Bool.true_and]
    generalize hq : decide (x ≤ hi) = q
    clear h
    go_enter Try.func53, Try.ntmps53
    go_wp2_with fail
    go_ret
    exact ⟨rfl, Turns.refl _ _⟩
  · have g1 : decide (x ≥ lo) = false := decide_eq_false h
    rw [decide_eq_false h, Bool.false_and]
    clear h
    go_enter Try.func53, Try.ntmps53
    go_wp2_with fail
    go_ret
    exact ⟨rfl, Turns.refl _ _⟩
def offB (x : Int) : Bool := !inB x (-1) 4611686018427387903
theorem off_is (x : Int) (w : World) : Calls Try.prog 50 #[.int .i64 x] w fun e w' => e = .returned (.bool (offB x)) ∧ Turns [] w w' := by
  have I := Lib.hid (fun w => in_is x (-1) 4611686018427387903 w)
  unfold offB
  generalize inB x (-1) 4611686018427387903 = q at *
  go_enter Try.func50, Try.ntmps50
  go_wp2_with fail
  go_at_call 51
  refine Calls.mono (I.out _) ?_
  rintro e w1 ⟨rfl, t1⟩
  go_wp2_with fail
  go_ret
  exact ⟨rfl, t1⟩
theorem table0_is (m : Int) (w : World) : Calls Try.prog 52 #[.agg #[.int .i64 m, .slice none 0 0]] w fun e w' => e = .returned (.bool (inB m 0 4611686018427387904)) ∧ Turns [] w w' := by
  have I := Lib.hid (fun w => in_is m 0 4611686018427387904 w)
  have T0 := (Turns.refl [] w).alloc (.cells #[.int .i64 m, .slice none 0 0] 36)
  have b0 := Blk.new w #[.int .i64 m, .slice none 0 0] 36
  have c0 : World.cell? (w.alloc (.cells #[.int .i64 m, .slice none 0 0] 36)) ⟨w.heap.size, 0, none⟩ = some _ := (b0).cell 0
  have c1 : World.cell? (w.alloc (.cells #[.int .i64 m, .slice none 0 0] 36)) ⟨w.heap.size, 1, none⟩ = some _ := (b0).cell 1
  generalize inB m 0 4611686018427387904 = q at *
  go_enter Try.func52, Try.ntmps52
  go_wp2_with fail
  go_loopw [8] (fun v8 wr => v8 = .int .i64 0 ∧ wr = w.alloc (.cells #[.int .i64 m, .slice none 0 0] 36)) (fun v8 _ => 0)
  case atStart => exact ⟨rfl, rfl⟩
  case round =>
    obtain ⟨rfl, rfl⟩ := hrel
    go_wp2_with fail
    go_at_call 51
    refine Calls.mono (I.out _) ?_
    rintro e w1 ⟨rfl, t1⟩
    have d1 := t1.old c1
    have T1 := T0.trans t1
    cases q with
    | true =>
      go_wp2_with fail
      go_ret
      exact ⟨rfl, T1⟩
    | false =>
      go_wp2_with fail
      go_ret
      exact ⟨rfl, T1⟩
def tokB (g s : Int) (l : List Int) (m : Int) : Bool := inB g 1 1099511627776 && (inB s 0 1099511627776 && (inB l.length 1 64 && (!l.any offB && inB m 0 4611686018427387904)))
set_option maxHeartbeats 1000000 in
theorem token0_is (g s m : Int) (sv : Value) (l : List Int) (w : World) (h : RdS 1 w sv (ins l)) (hn : l.length ≤ 100000) : Calls Try.prog 33 #[tk g s sv m (.slice none 0 0)] w fun e w' => e = .returned (.bool (tokB g s l m)) ∧ Turns [] w w' := by
  have T0 := (Turns.refl [] w).alloc (.cells #[.int .i64 g, .int .i64 s, sv, .int .i64 m, .slice none 0 0] 38)
  have b0 := Blk.new w #[.int .i64 g, .int .i64 s, sv, .int .i64 m, .slice none 0 0] 38
  have C1 := Lib.hid (contains_is (w.alloc (.cells #[.int .i64 g, .int .i64 s, sv, .int .i64 m, .slice none 0 0] 38)) sv l offB 50 (enters_of Try.func50 (by kernel_rfl) rfl) (h.mv (fun a u => T0.old)) hn (Lib.hid (fun W x => off_is x W)))
  have G := Lib.hid (fun w => in_is g 1 1099511627776 w)
  have S := Lib.hid (fun w => in_is s 0 1099511627776 w)
  have L := Lib.hid (fun w => in_is l.length 1 64 w)
  have M := Lib.hid (fun w => table0_is m w)
  unfold tokB
  obtain ⟨A, c, rfl, _⟩ := h.form
  rw [ins_len] at *
  have c0 : World.cell? (w.alloc (.cells #[.int .i64 g, .int .i64 s, .slice A l.length c, .int .i64 m, .slice none 0 0] 38)) ⟨w.heap.size, 0, none⟩ = some _ := (b0).cell 0
  have c1 : World.cell? (w.alloc (.cells #[.int .i64 g, .int .i64 s, .slice A l.length c, .int .i64 m, .slice none 0 0] 38)) ⟨w.heap.size, 1, none⟩ = some _ := (b0).cell 1
  have c2 : World.cell? (w.alloc (.cells #[.int .i64 g, .int .i64 s, .slice A l.length c, .int .i64 m, .slice none 0 0] 38)) ⟨w.heap.size, 2, none⟩ = some _ := (b0).cell 2
  have c3 : World.cell? (w.alloc (.cells #[.int .i64 g, .int .i64 s, .slice A l.length c, .int .i64 m, .slice none 0 0] 38)) ⟨w.heap.size, 3, none⟩ = some _ := (b0).cell 3
  have c4 : World.cell? (w.alloc (.cells #[.int .i64 g, .int .i64 s, .slice A l.length c, .int .i64 m, .slice none 0 0] 38)) ⟨w.heap.size, 4, none⟩ = some _ := (b0).cell 4
  generalize inB g 1 1099511627776 = q1 at *
  generalize inB s 0 1099511627776 = q2 at *
  generalize inB l.length 1 64 = q3 at *
  generalize inB m 0 4611686018427387904 = q5 at *
  generalize l.any offB = q4 at *
  clear h b0
  go_enter Try.func33, Try.ntmps33
  go_wp2_with fail
  go_at_call 49
  refine Calls.mono (C1.out) ?_
  rintro e w1 ⟨rfl, t1⟩
  have T1 := T0.trans t1
  have d0 := t1.old c0
  have d1 := t1.old c1
  have d2 := t1.old c2
  have d3 := t1.old c3
  have d4 := t1.old c4
  clear c0 c1 c2 c3 c4 C1 t1 T0
  go_wp2_with fail
  go_at_call 51
  refine Calls.mono (G.out _) ?_
  rintro e w2 ⟨rfl, t2⟩
  have T2 := T1.trans t2
  have e1 := t2.old d1
  have e2 := t2.old d2
  have e3 := t2.old d3
  have e4 := t2.old d4
  clear d0 d1 d2 d3 d4 t2 T1 G
  cases q1 with
  | false =>
    go_wp2_with fail
    go_ret
    exact ⟨rfl, T2⟩
  | true =>
    go_wp2_with fail
    go_at_call 51
    refine Calls.mono (S.out _) ?_
    rintro e w3 ⟨rfl, t3⟩
    have T3 := T2.trans t3
    have f2 := t3.old e2
    have f3 := t3.old e3
    have f4 := t3.old e4
    clear e1 e2 e3 e4 t3 T2 S
    cases q2 with
    | false =>
      go_wp2_with fail
      go_ret
      exact ⟨rfl, T3⟩
    | true =>
      go_wp2_with fail
      go_at_call 51
      refine Calls.mono (L.out _) ?_
      rintro e w4 ⟨rfl, t4⟩
      have T4 := T3.trans t4
      have h3 := t4.old f3
      have h4 := t4.old f4
      clear f2 f3 f4 t4 T3 L
      cases q3 with
      | false =>
        go_wp2_with fail
        go_ret
        exact ⟨rfl, T4⟩
      | true =>
        cases q4 with
        | true =>
          go_wp2_with fail
          go_ret
          exact ⟨rfl, T4⟩
        | false =>
          go_wp2_with fail
          go_at_call 52
          refine Calls.mono (M.out _) ?_
          rintro e w5 ⟨rfl, t5⟩
          have T5 := T4.trans t5
          go_wp2_with fail
          go_ret
          exact ⟨rfl, T5⟩
theorem cloneR0_is (w : World) : Calls Try.prog 60 #[.slice none 0 0] w fun e w' => e = .returned (.slice none 0 0) ∧ Turns [] w w' := by
  have q37 : ∀ (w : World) (a : Option Addr) (n c n' c' : Nat), (binOp .eql 34 (.slice a n c) (.slice none n' c')).run Try.prog w = .ok (.bool a.isNone) w := fun w a n c n' c' => Lib.run_eql_slice_nil w _ _ a n c n' c' Try.underlying34
  go_enter Try.func60, Try.ntmps60
  go_wp2_with fail
  go_ret
  exact ⟨rfl, Turns.refl _ _⟩
set_option maxHeartbeats 2000000 in
theorem clone0_is (g s m : Int) (sv : Value) (l : List Int) (w : World) (h : RdS 1 w sv (ins l)) (hn : l.length ≤ 100000) : Calls Try.prog 38 #[tk g s sv m (.slice none 0 0)] w fun e w' => ∃ u, e = .returned (tk g s u m (.slice none 0 0)) ∧ OwnS 3 1 w' u (ins l) ∧ Turns [] w w' ∧ (∀ k, u.ownBlock = some k → w.heap.size ≤ k) := by
  have H := ((Sep.start w).alloc #[.int .i64 g, .int .i64 s, sv, .int .i64 m, .slice none 0 0] 38).alloc #[.int .i64 0, .int .i64 0, .slice none 0 0, .int .i64 0, .slice none 0 0] 38
  have hrd := h.mv (fun a u => H.t.old)
  rw [World.size_alloc] at H
  have C1 := Lib.hid (cloneI_is _ sv l hrd hn)
  obtain ⟨b, hb⟩ : ∃ b, b = w.heap.size := ⟨_, rfl⟩
  obtain ⟨A, c, rfl, _⟩ := h.form
  rw [ins_len] at *
  have c2 : World.cell? ((w.alloc (.cells #[.int .i64 g, .int .i64 s, .slice A l.length c, .int .i64 m, .slice none 0 0] 38)).alloc (.cells #[.int .i64 0, .int .i64 0, .slice none 0 0, .int .i64 0, .slice none 0 0] 38)) ⟨w.heap.size, 2, none⟩ = some _ := (H.blk 1 rfl).cell 2
  have hHh := Lib.hid H
  clear h hrd H
  go_enter Try.func38, Try.ntmps38
  go_wp2_with fail
  go_at_call 57
  refine Calls.mono (C1.out) ?_
  rintro e w1 ⟨u, rfl, o, t1, hbu⟩
  have H := hHh.out.newSlice t1 o hbu
  obtain ⟨A2, c', rfl, _⟩ := formI o
  have hB := H.blk 2 rfl
  have d2 : World.cell? (w1) ⟨w.heap.size, 2, none⟩ = some _ := (hB).cell 2
  have df2 : World.frozen? (w1) ⟨w.heap.size, 2, none⟩ = false := (hB).frozen 2
  have d4 : World.cell? (w1) ⟨w.heap.size, 4, none⟩ = some _ := (hB).cell 4
  have H2 := Lib.hid (H.set 2 rfl 2 (.slice A2 l.length c'))
  clear hHh H o t1 hbu c2 hB C1
  go_wp2_with fail
  go_at_call 60
  refine Calls.mono (cloneR0_is _) ?_
  rintro e w2 ⟨rfl, t2⟩
  have H := Lib.hid (H2.out.turns t2)
  clear d2 df2 d4 H2 t2
  go_wp2_with fail
  go_loopw [15] (fun v15 wr => v15 = .int .i64 0 ∧ wr = w2) (fun v15 _ => 0)
  case atStart => exact ⟨rfl, rfl⟩
  case round =>
    obtain ⟨rfl, rfl⟩ := hrel
    have hB := H.out.blk 2 rfl
    have hZ := H.out.blk 1 rfl
    have d0 : World.cell? (wr) ⟨w.heap.size, 0, none⟩ = some _ := (hB).cell 0
    have d1 : World.cell? (wr) ⟨w.heap.size, 1, none⟩ = some _ := (hB).cell 1
    have d2 : World.cell? (wr) ⟨w.heap.size, 2, none⟩ = some _ := (hB).cell 2
    have d3 : World.cell? (wr) ⟨w.heap.size, 3, none⟩ = some _ := (hB).cell 3
    have d4 : World.cell? (wr) ⟨w.heap.size, 4, none⟩ = some _ := (hB).cell 4
    have df4 : World.frozen? (wr) ⟨w.heap.size, 4, none⟩ = false := (hB).frozen 4
    have z0 : World.cell? (wr) ⟨w.heap.size + 1, 0, none⟩ = some _ := (hZ).cell 0
    have zf0 : World.frozen? (wr) ⟨w.heap.size + 1, 0, none⟩ = false := (hZ).frozen 0
    have z1 : World.cell? (wr) ⟨w.heap.size + 1, 1, none⟩ = some _ := (hZ).cell 1
    have zf1 : World.frozen? (wr) ⟨w.heap.size + 1, 1, none⟩ = false := (hZ).frozen 1
    have z2 : World.cell? (wr) ⟨w.heap.size + 1, 2, none⟩ = some _ := (hZ).cell 2
    have zf2 : World.frozen? (wr) ⟨w.heap.size + 1, 2, none⟩ = false := (hZ).frozen 2
    have z3 : World.cell? (wr) ⟨w.heap.size + 1, 3, none⟩ = some _ := (hZ).cell 3
    have zf3 : World.frozen? (wr) ⟨w.heap.size + 1, 3, none⟩ = false := (hZ).frozen 3
    have z4 : World.cell? (wr) ⟨w.heap.size + 1, 4, none⟩ = some _ := (hZ).cell 4
    have zf4 : World.frozen? (wr) ⟨w.heap.size + 1, 4, none⟩ = false := (hZ).frozen 4
    have H5 := ((((((H.out.set 2 rfl 4 (.slice none 0 0)).set 1 rfl 0 (.int .i64 g)).set 1 rfl 1 (.int .i64 s)).set 1 rfl 2 (.slice A2 l.length c')).set 1 rfl 3 (.int .i64 m)).set 1 rfl 4 (.slice none 0 0))
    have hR := H5.blk 1 rfl
    have O := H5.own 0 rfl
    have T := H5.t
    have Mi := mine_own H5 0 rfl
    clear H5 H hB hZ
    go_wp2_with fail
    refine bodyPost_ret (res_one rfl (.cell (w.heap.size + 1) _ _ _ rfl hR Try.underlying38 rfl (by kernel_rfl) .nil)) rfl ?_
    exact ⟨_, rfl, O, T, fun q hq => by simpa using Mi q hq⟩
end Go.Proofs.Ytmaielpfeajelaa.Tb
