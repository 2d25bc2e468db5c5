/- frame.Token; annonaref05's Token, none. -/
import Derived.Test.YtohokckpheljbaaFt
import Derived.Test.YtohokckpheljbaaFd
import Derived.Test.YtohokckpheljbaaFh
set_option linter.unusedVariables false
set_option linter.unusedSimpArgs false
set_option maxRecDepth 100000
namespace Go.Proofs.Ytohokckpheljbaa.Fi
open Go.RowKit Go.MapKept Go.Shelf Hm Hs Hf Hx Hy Hv Fa Fb Fc Ff Fg Fh
def stampB (x : Int) : Bool := inB x (-1) 4611686018427387903
theorem off_is (x : Int) (w : World) : Calls Try.prog 63 #[.int .i64 x] w fun e w' => e = .returned (.bool (!stampB x)) ∧ Turns [] w w' := by
  have I := Lib.hid (fun w => in_is x (-1) 4611686018427387903 w)
  unfold stampB
  generalize inB x (-1) 4611686018427387903 = q at *
  go_enter Try.func63, Try.ntmps63
  go_wp2_with fail
  go_at_call 60
  refine Calls.mono (I.out _) ?_
  rintro e w1 ⟨rfl, t1⟩
  go_wp2_with fail
  go_ret
  exact ⟨rfl, t1⟩
def tokenB (t : Tok) : Bool := inB t.gen 1 1099511627776 && (inB t.hop 0 1099511627776 && (inB t.st.length 1 64 && (t.st.all stampB && tableB t.start t.rows)))
theorem any_all (l : List Int) : (!l.any fun x => !stampB x) = l.all stampB := by
  induction l with
  | nil => rfl
  | cons x r ih => rw [List.any_cons, List.all_cons, ← ih]; cases stampB x <;> simp
set_option maxHeartbeats 4000000 in
theorem token_is (w : World) (t : Tok) (sv rv : Value) (h : TokR w t sv rv) (hn : t.st.length ≤ 100000) : Calls Try.prog 24 #[tkv t sv rv] w fun e w' => e = .returned (.bool (tokenB t)) ∧ Turns [] w w' := by
  unfold tokenB
  have T0 := (Turns.refl [] w).alloc (.cells #[.int .i64 t.gen, .int .i64 t.hop, sv, .int .i64 t.start, rv] 39)
  have B0 := Blk.new w #[.int .i64 t.gen, .int .i64 t.hop, sv, .int .i64 t.start, rv] 39
  have C := Lib.hid (Ft.contains_is _ sv t.st (fun x => !stampB x) 63 (enters_of Try.func63 (by kernel_rfl) rfl) (h.turns T0).st hn (Lib.hid (fun W x => off_is x W)))
  have I1 := Lib.hid (fun w => in_is t.gen 1 1099511627776 w)
  have I2 := Lib.hid (fun w => in_is t.hop 0 1099511627776 w)
  have I3 := Lib.hid (fun w => in_is (t.st.length : Int) 1 64 w)
  have I4 := Lib.hid (fun W (T : Turns [] w W) => Fb.table_is W t.start rv t.rows (h.turns T).rows)
  obtain ⟨A1, c1, rfl, _⟩ := rform h.st
  obtain ⟨A3, c3, rfl, _⟩ := h.rows.form
  unfold tkv
  rw [← any_all]
  generalize inB t.gen 1 1099511627776 = b1 at *
  generalize inB t.hop 0 1099511627776 = b2 at *
  generalize inB (t.st.length : Int) 1 64 = b3 at *
  generalize (t.st.any fun x => !stampB x) = b4 at *
  generalize tableB t.start t.rows = b5 at *
  clear h
  cases b1 with
  | false =>
    go_enter Try.func24, Try.ntmps24
    go_wp2_with fail
    go_at_call 62
    refine Calls.mono (C.out) ?_
    rintro e w2 ⟨rfl, t2⟩
    have B2 := B0.turns t2 (by simp)
    have T2 := T0.trans t2
    have x0 : World.cell? (w2) ⟨w.heap.size, 0, none⟩ = some _ := (B2).cell 0
    go_wp2_with fail
    go_at_call 60
    refine Calls.mono (I1.out _) ?_
    rintro e w3 ⟨rfl, t3⟩
    have B3 := B2.turns t3 (by simp)
    have T3 := T2.trans t3
    clear x0
    go_wp2_with fail
    go_ret
    exact ⟨rfl, T3⟩
  | true =>
    cases b2 with
    | false =>
      go_enter Try.func24, Try.ntmps24
      go_wp2_with fail
      go_at_call 62
      refine Calls.mono (C.out) ?_
      rintro e w2 ⟨rfl, t2⟩
      have B2 := B0.turns t2 (by simp)
      have T2 := T0.trans t2
      have x0 : World.cell? (w2) ⟨w.heap.size, 0, none⟩ = some _ := (B2).cell 0
      go_wp2_with fail
      go_at_call 60
      refine Calls.mono (I1.out _) ?_
      rintro e w3 ⟨rfl, t3⟩
      have B3 := B2.turns t3 (by simp)
      have T3 := T2.trans t3
      clear x0
      have x1 : World.cell? (w3) ⟨w.heap.size, 1, none⟩ = some _ := (B3).cell 1
      go_wp2_with fail
      go_at_call 60
      refine Calls.mono (I2.out _) ?_
      rintro e w4 ⟨rfl, t4⟩
      have B4 := B3.turns t4 (by simp)
      have T4 := T3.trans t4
      clear x1
      go_wp2_with fail
      go_ret
      exact ⟨rfl, T4⟩
    | true =>
      cases b3 with
      | false =>
        go_enter Try.func24, Try.ntmps24
        go_wp2_with fail
        go_at_call 62
        refine Calls.mono (C.out) ?_
        rintro e w2 ⟨rfl, t2⟩
        have B2 := B0.turns t2 (by simp)
        have T2 := T0.trans t2
        have x0 : World.cell? (w2) ⟨w.heap.size, 0, none⟩ = some _ := (B2).cell 0
        go_wp2_with fail
        go_at_call 60
        refine Calls.mono (I1.out _) ?_
        rintro e w3 ⟨rfl, t3⟩
        have B3 := B2.turns t3 (by simp)
        have T3 := T2.trans t3
        clear x0
        have x1 : World.cell? (w3) ⟨w.heap.size, 1, none⟩ = some _ := (B3).cell 1
        go_wp2_with fail
        go_at_call 60
        refine Calls.mono (I2.out _) ?_
        rintro e w4 ⟨rfl, t4⟩
        have B4 := B3.turns t4 (by simp)
        have T4 := T3.trans t4
        clear x1
        have x2 : World.cell? (w4) ⟨w.heap.size, 2, none⟩ = some _ := (B4).cell 2
        go_wp2_with fail
        go_at_call 60
        refine Calls.mono (I3.out _) ?_
        rintro e w5 ⟨rfl, t5⟩
        have B5 := B4.turns t5 (by simp)
        have T5 := T4.trans t5
        clear x2
        go_wp2_with fail
        go_ret
        exact ⟨rfl, T5⟩
      | true =>
        cases b4 with
        | true =>
          go_enter Try.func24, Try.ntmps24
          go_wp2_with fail
          go_at_call 62
          refine Calls.mono (C.out) ?_
          rintro e w2 ⟨rfl, t2⟩
          have B2 := B0.turns t2 (by simp)
          have T2 := T0.trans t2
          have x0 : World.cell? (w2) ⟨w.heap.size, 0, none⟩ = some _ := (B2).cell 0
          go_wp2_with fail
          go_at_call 60
          refine Calls.mono (I1.out _) ?_
          rintro e w3 ⟨rfl, t3⟩
          have B3 := B2.turns t3 (by simp)
          have T3 := T2.trans t3
          clear x0
          have x1 : World.cell? (w3) ⟨w.heap.size, 1, none⟩ = some _ := (B3).cell 1
          go_wp2_with fail
          go_at_call 60
          refine Calls.mono (I2.out _) ?_
          rintro e w4 ⟨rfl, t4⟩
          have B4 := B3.turns t4 (by simp)
          have T4 := T3.trans t4
          clear x1
          have x2 : World.cell? (w4) ⟨w.heap.size, 2, none⟩ = some _ := (B4).cell 2
          go_wp2_with fail
          go_at_call 60
          refine Calls.mono (I3.out _) ?_
          rintro e w5 ⟨rfl, t5⟩
          have B5 := B4.turns t5 (by simp)
          have T5 := T4.trans t5
          clear x2
          go_wp2_with fail
          go_ret
          exact ⟨rfl, T5⟩
        | false =>
          go_enter Try.func24, Try.ntmps24
          go_wp2_with fail
          go_at_call 62
          refine Calls.mono (C.out) ?_
          rintro e w2 ⟨rfl, t2⟩
          have B2 := B0.turns t2 (by simp)
          have T2 := T0.trans t2
          have x0 : World.cell? (w2) ⟨w.heap.size, 0, none⟩ = some _ := (B2).cell 0
          go_wp2_with fail
          go_at_call 60
          refine Calls.mono (I1.out _) ?_
          rintro e w3 ⟨rfl, t3⟩
          have B3 := B2.turns t3 (by simp)
          have T3 := T2.trans t3
          clear x0
          have x1 : World.cell? (w3) ⟨w.heap.size, 1, none⟩ = some _ := (B3).cell 1
          go_wp2_with fail
          go_at_call 60
          refine Calls.mono (I2.out _) ?_
          rintro e w4 ⟨rfl, t4⟩
          have B4 := B3.turns t4 (by simp)
          have T4 := T3.trans t4
          clear x1
          have x2 : World.cell? (w4) ⟨w.heap.size, 2, none⟩ = some _ := (B4).cell 2
          go_wp2_with fail
          go_at_call 60
          refine Calls.mono (I3.out _) ?_
          rintro e w5 ⟨rfl, t5⟩
          have B5 := B4.turns t5 (by simp)
          have T5 := T4.trans t5
          clear x2
          have x3 : World.cell? (w5) ⟨w.heap.size, 3, none⟩ = some _ := (B5).cell 3
          have x4 : World.cell? (w5) ⟨w.heap.size, 4, none⟩ = some _ := (B5).cell 4
          go_wp2_with fail
          go_at_call 26
          refine Calls.mono (I4.out _ T5) ?_
          rintro e w6 ⟨rfl, t6⟩
          go_wp2_with fail
          go_ret
          exact ⟨rfl, T5.trans t6⟩
/-- nothing, field by field -/
def noneB (t : Tok) : Bool := (t.gen == 0) && ((t.hop == 0) && ((((t.st.length : Int)) == 0) && ((t.start == 0) && (((t.rows.length : Int)) == 0))))
theorem noneB_eq (t : Tok) : noneB t = decide (t = Tok.zero) := by
  obtain ⟨a, b, c, d, e⟩ := t
  unfold noneB Tok.zero
  by_cases h1 : a = 0 <;> by_cases h2 : b = 0 <;> by_cases h4 : d = 0 <;> cases c <;> cases e <;> simp [h1, h2, h4] <;> omega
theorem rnone_is (w : World) (t : Tok) (sv rv : Value) (h : TokR w t sv rv) : Calls Try.prog 59 #[tkv t sv rv] w fun e w' => e = .returned (.bool (decide (t = Tok.zero))) ∧ Turns [] w w' := by
  rw [← noneB_eq]
  unfold noneB
  have T0 := (Turns.refl [] w).alloc (.cells #[.int .i64 t.gen, .int .i64 t.hop, sv, .int .i64 t.start, rv] 39)
  obtain ⟨A1, c1, rfl, _⟩ := rform h.st
  obtain ⟨A3, c3, rfl, _⟩ := h.rows.form
  unfold tkv
  clear h
  cases g1 : (t.gen == 0) with
  | false =>
    go_enter Try.func59, Try.ntmps59
    go_wp2_with fail
    go_ret
    exact ⟨rfl, T0⟩
  | true =>
    cases g2 : (t.hop == 0) with
    | false =>
      go_enter Try.func59, Try.ntmps59
      go_wp2_with fail
      go_ret
      exact ⟨rfl, T0⟩
    | true =>
      cases g3 : ((t.st.length : Int) == 0) with
      | false =>
        go_enter Try.func59, Try.ntmps59
        go_wp2_with fail
        go_ret
        exact ⟨rfl, T0⟩
      | true =>
        cases g4 : (t.start == 0) with
        | false =>
          go_enter Try.func59, Try.ntmps59
          go_wp2_with fail
          go_ret
          exact ⟨rfl, T0⟩
        | true =>
          go_enter Try.func59, Try.ntmps59
          go_wp2_with fail
          go_ret
          exact ⟨rfl, T0⟩
set_option maxHeartbeats 4000000 in
theorem rtoken_is (w : World) (t : Tok) (sv rv : Value) (h : TokR w t sv rv) : Calls Try.prog 25 #[tkv t sv rv] w fun e w' => e = .returned (.bool (tokenB t)) ∧ Turns [] w w' := by
  have hB : tokenB t = ((inB t.gen 1 1099511627776 && (inB t.hop 0 1099511627776 && inB t.st.length 1 64)) && t.st.all stampB && tableB t.start t.rows) := by unfold tokenB; simp only [Bool.and_assoc]
  rw [hB]
  have T0 := (Turns.refl [] w).alloc (.cells #[.int .i64 t.gen, .int .i64 t.hop, sv, .int .i64 t.start, rv] 39)
  have B0 := Blk.new w #[.int .i64 t.gen, .int .i64 t.hop, sv, .int .i64 t.start, rv] 39
  have I1 := Lib.hid (fun w => rin_is t.gen 1 1099511627776 w)
  have I2 := Lib.hid (fun w => rin_is t.hop 0 1099511627776 w)
  have I3 := Lib.hid (fun w => rin_is (t.st.length : Int) 1 64 w)
  have I5 := Lib.hid (fun x w => rin_is x (-1) 4611686018427387903 w)
  have I4 := Lib.hid (fun W (T : Turns [] w W) => Fd.rtable_is W t.start rv t.rows (h.turns T).rows)
  have hst := Lib.hid h.st
  obtain ⟨A1, c1, rfl, _⟩ := rform h.st
  obtain ⟨A3, c3, rfl, _⟩ := h.rows.form
  unfold tkv
  generalize inB t.gen 1 1099511627776 = b1 at *
  generalize inB t.hop 0 1099511627776 = b2 at *
  generalize inB (t.st.length : Int) 1 64 = b3 at *
  generalize tableB t.start t.rows = b5 at *
  clear h hB
  have x0 : World.cell? (w.alloc (.cells #[.int .i64 t.gen, .int .i64 t.hop, .slice A1 t.st.length c1, .int .i64 t.start, .slice A3 t.rows.length c3] 39)) ⟨w.heap.size, 0, none⟩ = some _ := (B0).cell 0
  cases b1 with
  | false =>
    go_enter Try.func25, Try.ntmps25
    go_wp2_with fail
    go_at_call 58
    refine Calls.mono (I1.out _) ?_
    rintro e w3 ⟨rfl, t3⟩
    have B3 := B0.turns t3 (by simp)
    have T3 := T0.trans t3
    clear x0
    have x2 : w3.cell? ⟨w.heap.size, 2, none⟩ = some _ := B3.cell 2
    go_wp2_with fail
    go_loopw [3, 4] (fun v3 v4 wr => ∃ (k : Nat), k ≤ t.st.length ∧ v4 = .int .i64 k ∧ v3 = .bool (false && (t.st.take k).all stampB) ∧ Turns [] w3 wr) (fun _ v4 _ => t.st.length - (RowKit.intOf v4).toNat)
    case atStart => exact ⟨0, by omega, rfl, rfl, Turns.refl _ _⟩
    case round =>
      obtain ⟨k, hk, rfl, rfl, T⟩ := hrel
      have y2 := T.old (B3.cell 2)
      by_cases hlt : k < t.st.length
      · have g1 : decide ((k : Int) < (t.st.length : Int)) = true := decide_eq_true (by omega)
        have g1b : decide (k < t.st.length) = true := decide_eq_true hlt
        obtain ⟨x, hx⟩ : ∃ x, t.st[k]? = some x := ⟨_, List.getElem?_eq_getElem hlt⟩
        obtain ⟨ad, c', hv, i0⟩ := icell hst.out hx
        injection hv with e1 e2 e3
        subst e1 e3
        replace i0 := (T3.trans T).old i0
        have hnx : (t.st.take (k + 1)).all stampB = ((t.st.take k).all stampB && stampB x) := by rw [Fa.take_next hx, List.all_append]; simp
        have hnxh := Lib.hid hnx
        have J := Lib.hid (fun w => I5.out x w)
        have hsx : Hid (stampB x = inB x (-1) 4611686018427387903) := Lib.hid rfl
        generalize inB x (-1) 4611686018427387903 = bx at *
        generalize hq : (false && (t.st.take k).all stampB) = q at *
        have hqh := Lib.hid hq
        clear hx hnx e2 hq
        go_wp2_with fail
        go_at_call 58
        refine Calls.mono (J.out _) ?_
        rintro e w8 ⟨rfl, t8⟩
        cases q with
        | false =>
          go_wp2_with fail
          go_roundw
          case rel => exact ⟨k + 1, by omega, by go_num, by rw [hnxh.out, ← Bool.and_assoc, hqh.out]; rfl, T.trans t8⟩
          case measure => simp [RowKit.intOf]; omega
        | true =>
          go_wp2_with fail
          go_roundw
          case rel => exact ⟨k + 1, by omega, by go_num, by rw [hnxh.out, ← Bool.and_assoc, hqh.out, hsx.out]; rfl, T.trans t8⟩
          case measure => simp [RowKit.intOf]; omega
      · obtain rfl : k = t.st.length := by omega
        have g1 : decide ((t.st.length : Int) < (t.st.length : Int)) = false := by simp
        rw [List.take_length]
        generalize hb6 : t.st.all stampB = b6
        have hb6h := Lib.hid hb6
        clear hb6
        have y3 := T.old (B3.cell 3)
        have y4 := T.old (B3.cell 4)
        have T8 := T3.trans T
        cases b6 with
        | false =>
          go_wp2_with fail
          go_at_call 27
          refine Calls.mono (I4.out _ T8) ?_
          rintro e w9 ⟨rfl, t9⟩
          go_wp2_with fail
          go_ret
          exact ⟨by rw [hb6h.out]; rfl, T8.trans t9⟩
        | true =>
          go_wp2_with fail
          go_at_call 27
          refine Calls.mono (I4.out _ T8) ?_
          rintro e w9 ⟨rfl, t9⟩
          go_wp2_with fail
          go_ret
          exact ⟨by rw [hb6h.out]; rfl, T8.trans t9⟩
  | true =>
    cases b2 with
    | false =>
      go_enter Try.func25, Try.ntmps25
      go_wp2_with fail
      go_at_call 58
      refine Calls.mono (I1.out _) ?_
      rintro e w3 ⟨rfl, t3⟩
      have B3 := B0.turns t3 (by simp)
      have T3 := T0.trans t3
      clear x0
      have x2 : w3.cell? ⟨w.heap.size, 2, none⟩ = some _ := B3.cell 2
      have x1 : World.cell? (w3) ⟨w.heap.size, 1, none⟩ = some _ := (B3).cell 1
      clear x2
      go_wp2_with fail
      go_at_call 58
      refine Calls.mono (I2.out _) ?_
      rintro e w4 ⟨rfl, t4⟩
      have B4 := B3.turns t4 (by simp)
      have T4 := T3.trans t4
      clear x1
      have x2 : w4.cell? ⟨w.heap.size, 2, none⟩ = some _ := B4.cell 2
      go_wp2_with fail
      go_loopw [3, 4] (fun v3 v4 wr => ∃ (k : Nat), k ≤ t.st.length ∧ v4 = .int .i64 k ∧ v3 = .bool (false && (t.st.take k).all stampB) ∧ Turns [] w4 wr) (fun _ v4 _ => t.st.length - (RowKit.intOf v4).toNat)
      case atStart => exact ⟨0, by omega, rfl, rfl, Turns.refl _ _⟩
      case round =>
        obtain ⟨k, hk, rfl, rfl, T⟩ := hrel
        have y2 := T.old (B4.cell 2)
        by_cases hlt : k < t.st.length
        · have g1 : decide ((k : Int) < (t.st.length : Int)) = true := decide_eq_true (by omega)
          have g1b : decide (k < t.st.length) = true := decide_eq_true hlt
          obtain ⟨x, hx⟩ : ∃ x, t.st[k]? = some x := ⟨_, List.getElem?_eq_getElem hlt⟩
          obtain ⟨ad, c', hv, i0⟩ := icell hst.out hx
          injection hv with e1 e2 e3
          subst e1 e3
          replace i0 := (T4.trans T).old i0
          have hnx : (t.st.take (k + 1)).all stampB = ((t.st.take k).all stampB && stampB x) := by rw [Fa.take_next hx, List.all_append]; simp
          have hnxh := Lib.hid hnx
          have J := Lib.hid (fun w => I5.out x w)
          have hsx : Hid (stampB x = inB x (-1) 4611686018427387903) := Lib.hid rfl
          generalize inB x (-1) 4611686018427387903 = bx at *
          generalize hq : (false && (t.st.take k).all stampB) = q at *
          have hqh := Lib.hid hq
          clear hx hnx e2 hq
          go_wp2_with fail
          go_at_call 58
          refine Calls.mono (J.out _) ?_
          rintro e w8 ⟨rfl, t8⟩
          cases q with
          | false =>
            go_wp2_with fail
            go_roundw
            case rel => exact ⟨k + 1, by omega, by go_num, by rw [hnxh.out, ← Bool.and_assoc, hqh.out]; rfl, T.trans t8⟩
            case measure => simp [RowKit.intOf]; omega
          | true =>
            go_wp2_with fail
            go_roundw
            case rel => exact ⟨k + 1, by omega, by go_num, by rw [hnxh.out, ← Bool.and_assoc, hqh.out, hsx.out]; rfl, T.trans t8⟩
            case measure => simp [RowKit.intOf]; omega
        · obtain rfl : k = t.st.length := by omega
          have g1 : decide ((t.st.length : Int) < (t.st.length : Int)) = false := by simp
          rw [List.take_length]
          generalize hb6 : t.st.all stampB = b6
          have hb6h := Lib.hid hb6
          clear hb6
          have y3 := T.old (B4.cell 3)
          have y4 := T.old (B4.cell 4)
          have T8 := T4.trans T
          cases b6 with
          | false =>
            go_wp2_with fail
            go_at_call 27
            refine Calls.mono (I4.out _ T8) ?_
            rintro e w9 ⟨rfl, t9⟩
            go_wp2_with fail
            go_ret
            exact ⟨by rw [hb6h.out]; rfl, T8.trans t9⟩
          | true =>
            go_wp2_with fail
            go_at_call 27
            refine Calls.mono (I4.out _ T8) ?_
            rintro e w9 ⟨rfl, t9⟩
            go_wp2_with fail
            go_ret
            exact ⟨by rw [hb6h.out]; rfl, T8.trans t9⟩
    | true =>
      go_enter Try.func25, Try.ntmps25
      go_wp2_with fail
      go_at_call 58
      refine Calls.mono (I1.out _) ?_
      rintro e w3 ⟨rfl, t3⟩
      have B3 := B0.turns t3 (by simp)
      have T3 := T0.trans t3
      clear x0
      have x2 : w3.cell? ⟨w.heap.size, 2, none⟩ = some _ := B3.cell 2
      have x1 : World.cell? (w3) ⟨w.heap.size, 1, none⟩ = some _ := (B3).cell 1
      clear x2
      go_wp2_with fail
      go_at_call 58
      refine Calls.mono (I2.out _) ?_
      rintro e w4 ⟨rfl, t4⟩
      have B4 := B3.turns t4 (by simp)
      have T4 := T3.trans t4
      clear x1
      have x2 : w4.cell? ⟨w.heap.size, 2, none⟩ = some _ := B4.cell 2
      go_wp2_with fail
      go_at_call 58
      refine Calls.mono (I3.out _) ?_
      rintro e w5 ⟨rfl, t5⟩
      have B5 := B4.turns t5 (by simp)
      have T5 := T4.trans t5
      clear x2
      have x2 : w5.cell? ⟨w.heap.size, 2, none⟩ = some _ := B5.cell 2
      cases b3 with
      | false =>
        go_wp2_with fail
        go_loopw [3, 4] (fun v3 v4 wr => ∃ (k : Nat), k ≤ t.st.length ∧ v4 = .int .i64 k ∧ v3 = .bool (false && (t.st.take k).all stampB) ∧ Turns [] w5 wr) (fun _ v4 _ => t.st.length - (RowKit.intOf v4).toNat)
        case atStart => exact ⟨0, by omega, rfl, rfl, Turns.refl _ _⟩
        case round =>
          obtain ⟨k, hk, rfl, rfl, T⟩ := hrel
          have y2 := T.old (B5.cell 2)
          by_cases hlt : k < t.st.length
          · have g1 : decide ((k : Int) < (t.st.length : Int)) = true := decide_eq_true (by omega)
            have g1b : decide (k < t.st.length) = true := decide_eq_true hlt
            obtain ⟨x, hx⟩ : ∃ x, t.st[k]? = some x := ⟨_, List.getElem?_eq_getElem hlt⟩
            obtain ⟨ad, c', hv, i0⟩ := icell hst.out hx
            injection hv with e1 e2 e3
            subst e1 e3
            replace i0 := (T5.trans T).old i0
            have hnx : (t.st.take (k + 1)).all stampB = ((t.st.take k).all stampB && stampB x) := by rw [Fa.take_next hx, List.all_append]; simp
            have hnxh := Lib.hid hnx
            have J := Lib.hid (fun w => I5.out x w)
            have hsx : Hid (stampB x = inB x (-1) 4611686018427387903) := Lib.hid rfl
            generalize inB x (-1) 4611686018427387903 = bx at *
            generalize hq : (false && (t.st.take k).all stampB) = q at *
            have hqh := Lib.hid hq
            clear hx hnx e2 hq
            go_wp2_with fail
            go_at_call 58
            refine Calls.mono (J.out _) ?_
            rintro e w8 ⟨rfl, t8⟩
            cases q with
            | false =>
              go_wp2_with fail
              go_roundw
              case rel => exact ⟨k + 1, by omega, by go_num, by rw [hnxh.out, ← Bool.and_assoc, hqh.out]; rfl, T.trans t8⟩
              case measure => simp [RowKit.intOf]; omega
            | true =>
              go_wp2_with fail
              go_roundw
              case rel => exact ⟨k + 1, by omega, by go_num, by rw [hnxh.out, ← Bool.and_assoc, hqh.out, hsx.out]; rfl, T.trans t8⟩
              case measure => simp [RowKit.intOf]; omega
          · obtain rfl : k = t.st.length := by omega
            have g1 : decide ((t.st.length : Int) < (t.st.length : Int)) = false := by simp
            rw [List.take_length]
            generalize hb6 : t.st.all stampB = b6
            have hb6h := Lib.hid hb6
            clear hb6
            have y3 := T.old (B5.cell 3)
            have y4 := T.old (B5.cell 4)
            have T8 := T5.trans T
            cases b6 with
            | false =>
              go_wp2_with fail
              go_at_call 27
              refine Calls.mono (I4.out _ T8) ?_
              rintro e w9 ⟨rfl, t9⟩
              go_wp2_with fail
              go_ret
              exact ⟨by rw [hb6h.out]; rfl, T8.trans t9⟩
            | true =>
              go_wp2_with fail
              go_at_call 27
              refine Calls.mono (I4.out _ T8) ?_
              rintro e w9 ⟨rfl, t9⟩
              go_wp2_with fail
              go_ret
              exact ⟨by rw [hb6h.out]; rfl, T8.trans t9⟩
      | true =>
        go_wp2_with fail
        go_loopw [3, 4] (fun v3 v4 wr => ∃ (k : Nat), k ≤ t.st.length ∧ v4 = .int .i64 k ∧ v3 = .bool (true && (t.st.take k).all stampB) ∧ Turns [] w5 wr) (fun _ v4 _ => t.st.length - (RowKit.intOf v4).toNat)
        case atStart => exact ⟨0, by omega, rfl, rfl, Turns.refl _ _⟩
        case round =>
          obtain ⟨k, hk, rfl, rfl, T⟩ := hrel
          have y2 := T.old (B5.cell 2)
          by_cases hlt : k < t.st.length
          · have g1 : decide ((k : Int) < (t.st.length : Int)) = true := decide_eq_true (by omega)
            have g1b : decide (k < t.st.length) = true := decide_eq_true hlt
            obtain ⟨x, hx⟩ : ∃ x, t.st[k]? = some x := ⟨_, List.getElem?_eq_getElem hlt⟩
            obtain ⟨ad, c', hv, i0⟩ := icell hst.out hx
            injection hv with e1 e2 e3
            subst e1 e3
            replace i0 := (T5.trans T).old i0
            have hnx : (t.st.take (k + 1)).all stampB = ((t.st.take k).all stampB && stampB x) := by rw [Fa.take_next hx, List.all_append]; simp
            have hnxh := Lib.hid hnx
            have J := Lib.hid (fun w => I5.out x w)
            have hsx : Hid (stampB x = inB x (-1) 4611686018427387903) := Lib.hid rfl
            generalize inB x (-1) 4611686018427387903 = bx at *
            generalize hq : (true && (t.st.take k).all stampB) = q at *
            have hqh := Lib.hid hq
            clear hx hnx e2 hq
            go_wp2_with fail
            go_at_call 58
            refine Calls.mono (J.out _) ?_
            rintro e w8 ⟨rfl, t8⟩
            cases q with
            | false =>
              go_wp2_with fail
              go_roundw
              case rel => exact ⟨k + 1, by omega, by go_num, by rw [hnxh.out, ← Bool.and_assoc, hqh.out]; rfl, T.trans t8⟩
              case measure => simp [RowKit.intOf]; omega
            | true =>
              go_wp2_with fail
              go_roundw
              case rel => exact ⟨k + 1, by omega, by go_num, by rw [hnxh.out, ← Bool.and_assoc, hqh.out, hsx.out]; rfl, T.trans t8⟩
              case measure => simp [RowKit.intOf]; omega
          · obtain rfl : k = t.st.length := by omega
            have g1 : decide ((t.st.length : Int) < (t.st.length : Int)) = false := by simp
            rw [List.take_length]
            generalize hb6 : t.st.all stampB = b6
            have hb6h := Lib.hid hb6
            clear hb6
            have y3 := T.old (B5.cell 3)
            have y4 := T.old (B5.cell 4)
            have T8 := T5.trans T
            cases b6 with
            | false =>
              go_wp2_with fail
              go_at_call 27
              refine Calls.mono (I4.out _ T8) ?_
              rintro e w9 ⟨rfl, t9⟩
              go_wp2_with fail
              go_ret
              exact ⟨by rw [hb6h.out]; rfl, T8.trans t9⟩
            | true =>
              go_wp2_with fail
              go_at_call 27
              refine Calls.mono (I4.out _ T8) ?_
              rintro e w9 ⟨rfl, t9⟩
              go_wp2_with fail
              go_ret
              exact ⟨by rw [hb6h.out]; rfl, T8.trans t9⟩
end Go.Proofs.Ytohokckpheljbaa.Fi
