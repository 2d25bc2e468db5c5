/- annonaref05's row: may a row be? -/
import Derived.Test.YtphhfdlhkginkaaFa
set_option linter.unusedVariables false
set_option linter.unusedSimpArgs false
set_option maxRecDepth 100000
namespace Go.Proofs.Ytphhfdlhkginkaa.Fc
open Go.RowKit Go.MapKept Hm Hs Hf Hx Hy Hv Fa
/-- as the document asks: first how many, then each -/
def rowD (start : Int) (r : Row) : Bool := keyB r.key && (inB r.avail 0 2147483648 && (inB r.mark start 4611686018427387904 && (!decide ((r.out.length : Int) > 64) && okLs none r.out)))
set_option maxHeartbeats 8000000 in
theorem row_is (w : World) (start : Int) (x : Rw) (r : Row) (h : RowIs w x r) : Calls Try.prog 51 #[x.v, .int .i64 start] w fun e w' => e = .returned (.bool (rowD start r)) ∧ Turns [] w w' := by
  obtain ⟨hk, ha, hm, ho⟩ := h
  obtain ⟨A, c, hA, hlc, hcm⟩ := ls_form ho
  unfold rowD
  rw [← hk, ← ha, ← hm]
  generalize hl : r.out = l at *
  obtain ⟨xk, xa, xm, xo⟩ := x
  simp only at hA ho ⊢
  subst hA
  unfold Rw.v
  have hh := Lib.hid ho
  clear hk ha hm hl ho
  obtain ⟨q, hq⟩ : ∃ q, okLs none l = q := ⟨_, rfl⟩
  rw [hq]
  have hqh := Lib.hid hq
  have B0 := Blk.new w #[.int .i64 xk, .int .i64 xa, .int .i64 xm, .slice A l.length c] 38
  have T0 := (Turns.refl [] w).alloc (.cells #[.int .i64 xk, .int .i64 xa, .int .i64 xm, .slice A l.length c] 38)
  have I1 := Lib.hid (fun w => rkright_is xk w)
  have I2 := Lib.hid (fun w => rin_is xa 0 2147483648 w)
  have I3 := Lib.hid (fun w => rin_is xm start 4611686018427387904 w)
  generalize hb1 : keyB xk = b1 at *
  generalize hb2 : inB xa 0 2147483648 = b2 at *
  generalize hb3 : inB xm start 4611686018427387904 = b3 at *
  have t0 : World.cell? (w.alloc (.cells #[.int .i64 xk, .int .i64 xa, .int .i64 xm, .slice A l.length c] 38)) ⟨w.heap.size, 0, none⟩ = some _ := (B0).cell 0
  clear hq hb1 hb2 hb3
  cases b1 with
  | false =>
    go_enter Try.func51, Try.ntmps51
    go_wp2_with fail
    go_at_call 49
    refine Calls.mono (I1.out _) ?_
    rintro e w2 ⟨rfl, t2⟩
    have B2 := B0.turns t2 (by simp)
    have T2 := T0.trans t2
    clear t0
    have t1 : World.cell? (w2) ⟨w.heap.size, 1, none⟩ = some _ := (B2).cell 1
    go_wp2_with fail
    go_ret
    exact ⟨rfl, T2⟩
  | true =>
    cases b2 with
    | false =>
      go_enter Try.func51, Try.ntmps51
      go_wp2_with fail
      go_at_call 49
      refine Calls.mono (I1.out _) ?_
      rintro e w2 ⟨rfl, t2⟩
      have B2 := B0.turns t2 (by simp)
      have T2 := T0.trans t2
      clear t0
      have t1 : World.cell? (w2) ⟨w.heap.size, 1, none⟩ = some _ := (B2).cell 1
      go_wp2_with fail
      go_at_call 50
      refine Calls.mono (I2.out _) ?_
      rintro e w3 ⟨rfl, t3⟩
      have B3 := B2.turns t3 (by simp)
      have T3 := T2.trans t3
      clear t1
      have t2 : World.cell? (w3) ⟨w.heap.size, 2, none⟩ = some _ := (B3).cell 2
      go_wp2_with fail
      go_ret
      exact ⟨rfl, T3⟩
    | true =>
      cases b3 with
      | false =>
        go_enter Try.func51, Try.ntmps51
        go_wp2_with fail
        go_at_call 49
        refine Calls.mono (I1.out _) ?_
        rintro e w2 ⟨rfl, t2⟩
        have B2 := B0.turns t2 (by simp)
        have T2 := T0.trans t2
        clear t0
        have t1 : World.cell? (w2) ⟨w.heap.size, 1, none⟩ = some _ := (B2).cell 1
        go_wp2_with fail
        go_at_call 50
        refine Calls.mono (I2.out _) ?_
        rintro e w3 ⟨rfl, t3⟩
        have B3 := B2.turns t3 (by simp)
        have T3 := T2.trans t3
        clear t1
        have t2 : World.cell? (w3) ⟨w.heap.size, 2, none⟩ = some _ := (B3).cell 2
        go_wp2_with fail
        go_at_call 50
        refine Calls.mono (I3.out _) ?_
        rintro e w4 ⟨rfl, t4⟩
        have B4 := B3.turns t4 (by simp)
        have T4 := T3.trans t4
        clear t2
        have t3 : World.cell? (w4) ⟨w.heap.size, 3, none⟩ = some _ := (B4).cell 3
        go_wp2_with fail
        go_ret
        exact ⟨rfl, T4⟩
      | true =>
        by_cases hl64 : (l.length : Int) > 64
        · have g0 : decide ((l.length : Int) > 64) = true := decide_eq_true hl64
          rw [g0]
          clear hl64
          go_enter Try.func51, Try.ntmps51
          go_wp2_with fail
          go_at_call 49
          refine Calls.mono (I1.out _) ?_
          rintro e w2 ⟨rfl, t2⟩
          have B2 := B0.turns t2 (by simp)
          have T2 := T0.trans t2
          clear t0
          have t1 : World.cell? (w2) ⟨w.heap.size, 1, none⟩ = some _ := (B2).cell 1
          go_wp2_with fail
          go_at_call 50
          refine Calls.mono (I2.out _) ?_
          rintro e w3 ⟨rfl, t3⟩
          have B3 := B2.turns t3 (by simp)
          have T3 := T2.trans t3
          clear t1
          have t2 : World.cell? (w3) ⟨w.heap.size, 2, none⟩ = some _ := (B3).cell 2
          go_wp2_with fail
          go_at_call 50
          refine Calls.mono (I3.out _) ?_
          rintro e w4 ⟨rfl, t4⟩
          have B4 := B3.turns t4 (by simp)
          have T4 := T3.trans t4
          clear t2
          have t3 : World.cell? (w4) ⟨w.heap.size, 3, none⟩ = some _ := (B4).cell 3
          go_wp2_with fail
          go_ret
          exact ⟨rfl, T4⟩
        · have g0 : decide ((l.length : Int) > 64) = false := decide_eq_false hl64
          rw [g0]
          simp only [Bool.true_and, Bool.not_false]
          clear hl64
          go_enter Try.func51, Try.ntmps51
          go_wp2_with fail
          go_at_call 49
          refine Calls.mono (I1.out _) ?_
          rintro e w2 ⟨rfl, t2⟩
          have B2 := B0.turns t2 (by simp)
          have T2 := T0.trans t2
          clear t0
          have t1 : World.cell? (w2) ⟨w.heap.size, 1, none⟩ = some _ := (B2).cell 1
          go_wp2_with fail
          go_at_call 50
          refine Calls.mono (I2.out _) ?_
          rintro e w3 ⟨rfl, t3⟩
          have B3 := B2.turns t3 (by simp)
          have T3 := T2.trans t3
          clear t1
          have t2 : World.cell? (w3) ⟨w.heap.size, 2, none⟩ = some _ := (B3).cell 2
          go_wp2_with fail
          go_at_call 50
          refine Calls.mono (I3.out _) ?_
          rintro e w4 ⟨rfl, t4⟩
          have B4 := B3.turns t4 (by simp)
          have T4 := T3.trans t4
          clear t2
          have t3 : World.cell? (w4) ⟨w.heap.size, 3, none⟩ = some _ := (B4).cell 3
          go_wp2_with fail
          go_loopw [6] (fun v6 wr => ∃ (k : Nat), k ≤ l.length ∧ v6 = .int .i64 k ∧ okLs (prev_ l k) (l.drop k) = q ∧ Turns [] w4 wr) (fun v6 _ => l.length - (RowKit.intOf v6).toNat)
          case atStart => exact ⟨0, by omega, rfl, hqh.out, Turns.refl _ _⟩
          case round =>
            obtain ⟨k, hk, rfl, hpk, T⟩ := hrel
            clear t3
            have t3 := T.old (B4.cell 3)
            by_cases hlt : k < l.length
            · have g1 : decide ((k : Int) < (l.length : Int)) = true := decide_eq_true (by omega)
              have g1b : decide (k < l.length) = true := decide_eq_true hlt
              obtain ⟨x, hx⟩ : ∃ x, l[k]? = some x := ⟨_, List.getElem?_eq_getElem hlt⟩
              obtain ⟨ad, c', hv, LX⟩ := ls_at hh.out hx
              injection hv with e1 e2 e3
              subst e1 e3
              obtain ⟨x0, x1⟩ := LX.turns (T4.trans T)
              have hnx := prev_next hx
              rw [drop_cons hx] at hpk
              unfold okLs at hpk
              have J1 := Lib.hid (fun w => rin_is x.1 0 63 w)
              have J2 := Lib.hid (fun w => rin_is x.2 1 2147483648 w)
              have Ta := (T.alloc (.cells #[.int .i64 x.1, .int .i64 x.2] 76)).drew
              have B := (Blk.new wr #[.int .i64 x.1, .int .i64 x.2] 76).drew
              generalize hb1 : inB x.1 0 63 = b1 at *
              generalize hb2 : inB x.2 1 2147483648 = b2 at *
              clear hx e2 LX hb1 hb2
              cases b1 with
              | false =>
                simp only [Bool.false_and] at hpk
                subst hpk
                go_wp2_with fail
                clear x0 x1 t3
                go_wp2_with fail
                refine wp_region_flo [(0, true), (1, true), (2, false), (3, true), (4, true), (5, true), (6, true), (7, false), (8, true), (9, true), (10, true), (11, true), (12, true), (13, true), (14, true), (15, true), (16, true), (17, true), (18, true), (19, true), (20, true), (21, true), (22, true), (23, true), (24, true), (25, true)] (fun W => Turns [] (wr.alloc (.cells #[.int .i64 x.1, .int .i64 x.2] 76)).drew W) (by kernel_rfl) rfl (by kernel_rfl) (by intro c d v a w h; cases d <;> first | (simpa [Exit.then, Exit.inBlock, Act.put] using h) | exact h) (Turns.refl _ _) ?_
                generalize (wr.alloc (.cells #[.int .i64 x.1, .int .i64 x.2] 76)).drew = w5 at *
                have b0 : World.cell? (w5) ⟨wr.heap.size, 0, none⟩ = some _ := (B).cell 0
                have b1 : World.cell? (w5) ⟨wr.heap.size, 1, none⟩ = some _ := (B).cell 1
                refine flo_read _ rfl (fun K hK => ?_)
                go_simp
                first | (refine hK _ ?_) | (refine ⟨fun W hS => ?_, hK _ ?_⟩; · (have Y0 := hS.old b0; try go_simp))
                clear hK K
                refine flo_read _ rfl (fun K hK => ?_)
                go_simp
                first | (refine hK _ ?_) | (refine ⟨fun W hS => ?_, hK _ ?_⟩; · (have Y0 := hS.old b0; try go_simp))
                clear hK K
                refine flo_alone _ rfl ?_
                go_wp2_with fail
                go_at_call 50
                refine Calls.mono (J1.out _) ?_
                rintro e w6 ⟨rfl, t6⟩
                go_wp2_with fail
                refine ⟨fun W => Turns [] w6 W, fun W h => t6.trans h, Turns.refl _ _, ?_⟩
                have B6 := B.turns t6 (by simp)
                clear b0 b1
                have b0 : World.cell? (w6) ⟨wr.heap.size, 0, none⟩ = some _ := (B6).cell 0
                have b1 : World.cell? (w6) ⟨wr.heap.size, 1, none⟩ = some _ := (B6).cell 1
                refine flo_read _ rfl (fun K hK => ?_)
                go_simp
                first | (refine hK _ ?_) | (refine ⟨fun W hS => ?_, hK _ ?_⟩; · (have Y1 := hS.old b1; try go_simp))
                clear hK K
                refine flo_read _ rfl (fun K hK => ?_)
                go_simp
                first | (refine hK _ ?_) | (refine ⟨fun W hS => ?_, hK _ ?_⟩; · (have Y1 := hS.old b1; try go_simp))
                clear hK K
                refine flo_read _ rfl (fun K hK => ?_)
                go_simp
                first | (refine hK _ ?_) | (refine ⟨fun W hS => ?_, hK _ ?_⟩; · (have Y1 := hS.old b1; try go_simp))
                clear hK K
                refine flo_read _ rfl (fun K hK => ?_)
                go_simp
                first | (refine hK _ ?_) | (refine ⟨fun W hS => ?_, hK _ ?_⟩; · (have Y1 := hS.old b1; try go_simp))
                clear hK K
                refine flo_alone _ rfl ?_
                go_wp2_with fail
                refine ⟨fun W => Turns [] w6 W, fun W h => h, Turns.refl _ _, ?_⟩
                refine flo_read _ rfl (fun K hK => ?_)
                go_simp
                first | (refine hK _ ?_) | (refine ⟨fun W hS => ?_, hK _ ?_⟩; · (skip; try go_simp))
                clear hK K
                refine flo_read _ rfl (fun K hK => ?_)
                go_simp
                first | (refine hK _ ?_) | (refine ⟨fun W hS => ?_, hK _ ?_⟩; · (skip; try go_simp))
                clear hK K
                refine flo_read _ rfl (fun K hK => ?_)
                go_simp
                first | (refine hK _ ?_) | (refine ⟨fun W hS => ?_, hK _ ?_⟩; · (skip; try go_simp))
                clear hK K
                refine flo_read _ rfl (fun K hK => ?_)
                go_simp
                first | (refine hK _ ?_) | (refine ⟨fun W hS => ?_, hK _ ?_⟩; · (skip; try go_simp))
                clear hK K
                refine flo_read _ rfl (fun K hK => ?_)
                go_simp
                first | (refine hK _ ?_) | (refine ⟨fun W hS => ?_, hK _ ?_⟩; · (skip; try go_simp))
                clear hK K
                refine flo_read _ rfl (fun K hK => ?_)
                go_simp
                first | (refine hK _ ?_) | (refine ⟨fun W hS => ?_, hK _ ?_⟩; · (skip; try go_simp))
                clear hK K
                refine flo_read _ rfl (fun K hK => ?_)
                go_simp
                first | (refine hK _ ?_) | (refine ⟨fun W hS => ?_, hK _ ?_⟩; · (skip; try go_simp))
                clear hK K
                refine flo_read _ rfl (fun K hK => ?_)
                go_simp
                first | (refine hK _ ?_) | (refine ⟨fun W hS => ?_, hK _ ?_⟩; · (skip; try go_simp))
                clear hK K
                refine flo_read _ rfl (fun K hK => ?_)
                go_simp
                first | (refine hK _ ?_) | (refine ⟨fun W hS => ?_, hK _ ?_⟩; · (skip; try go_simp))
                clear hK K
                refine flo_read _ rfl (fun K hK => ?_)
                go_simp
                first | (refine hK _ ?_) | (refine ⟨fun W hS => ?_, hK _ ?_⟩; · (skip; try go_simp))
                clear hK K
                refine flo_read _ rfl (fun K hK => ?_)
                go_simp
                first | (refine hK _ ?_) | (refine ⟨fun W hS => ?_, hK _ ?_⟩; · (skip; try go_simp))
                clear hK K
                refine flo_read _ rfl (fun K hK => ?_)
                go_simp
                first | (refine hK _ ?_) | (refine ⟨fun W hS => ?_, hK _ ?_⟩; · (skip; try go_simp))
                clear hK K
                refine flo_read _ rfl (fun K hK => ?_)
                go_simp
                first | (refine hK _ ?_) | (refine ⟨fun W hS => ?_, hK _ ?_⟩; · (skip; try go_simp))
                clear hK K
                refine flo_read _ rfl (fun K hK => ?_)
                go_simp
                first | (refine hK _ ?_) | (refine ⟨fun W hS => ?_, hK _ ?_⟩; · (skip; try go_simp))
                clear hK K
                refine flo_read _ rfl (fun K hK => ?_)
                go_simp
                first | (refine hK _ ?_) | (refine ⟨fun W hS => ?_, hK _ ?_⟩; · (skip; try go_simp))
                clear hK K
                refine flo_read _ rfl (fun K hK => ?_)
                go_simp
                first | (refine hK _ ?_) | (refine ⟨fun W hS => ?_, hK _ ?_⟩; · (skip; try go_simp))
                clear hK K
                refine flo_read _ rfl (fun K hK => ?_)
                go_simp
                first | (refine hK _ ?_) | (refine ⟨fun W hS => ?_, hK _ ?_⟩; · (skip; try go_simp))
                clear hK K
                refine flo_read _ rfl (fun K hK => ?_)
                go_simp
                first | (refine hK _ ?_) | (refine ⟨fun W hS => ?_, hK _ ?_⟩; · (skip; try go_simp))
                clear hK K
                refine flo_end ?_
                go_wp2_with fail
                go_ret
                exact ⟨rfl, T4.trans (Ta.trans t6)⟩
              | true =>
                simp only [Bool.true_and] at hpk
                cases b2 with
                | false =>
                  simp only [Bool.false_and] at hpk
                  subst hpk
                  go_wp2_with fail
                  clear x0 x1 t3
                  go_wp2_with fail
                  refine wp_region_flo [(0, true), (1, true), (2, false), (3, true), (4, true), (5, true), (6, true), (7, false), (8, true), (9, true), (10, true), (11, true), (12, true), (13, true), (14, true), (15, true), (16, true), (17, true), (18, true), (19, true), (20, true), (21, true), (22, true), (23, true), (24, true), (25, true)] (fun W => Turns [] (wr.alloc (.cells #[.int .i64 x.1, .int .i64 x.2] 76)).drew W) (by kernel_rfl) rfl (by kernel_rfl) (by intro c d v a w h; cases d <;> first | (simpa [Exit.then, Exit.inBlock, Act.put] using h) | exact h) (Turns.refl _ _) ?_
                  generalize (wr.alloc (.cells #[.int .i64 x.1, .int .i64 x.2] 76)).drew = w5 at *
                  have b0 : World.cell? (w5) ⟨wr.heap.size, 0, none⟩ = some _ := (B).cell 0
                  have b1 : World.cell? (w5) ⟨wr.heap.size, 1, none⟩ = some _ := (B).cell 1
                  refine flo_read _ rfl (fun K hK => ?_)
                  go_simp
                  first | (refine hK _ ?_) | (refine ⟨fun W hS => ?_, hK _ ?_⟩; · (have Y0 := hS.old b0; try go_simp))
                  clear hK K
                  refine flo_read _ rfl (fun K hK => ?_)
                  go_simp
                  first | (refine hK _ ?_) | (refine ⟨fun W hS => ?_, hK _ ?_⟩; · (have Y0 := hS.old b0; try go_simp))
                  clear hK K
                  refine flo_alone _ rfl ?_
                  go_wp2_with fail
                  go_at_call 50
                  refine Calls.mono (J1.out _) ?_
                  rintro e w6 ⟨rfl, t6⟩
                  go_wp2_with fail
                  refine ⟨fun W => Turns [] w6 W, fun W h => t6.trans h, Turns.refl _ _, ?_⟩
                  have B6 := B.turns t6 (by simp)
                  clear b0 b1
                  have b0 : World.cell? (w6) ⟨wr.heap.size, 0, none⟩ = some _ := (B6).cell 0
                  have b1 : World.cell? (w6) ⟨wr.heap.size, 1, none⟩ = some _ := (B6).cell 1
                  refine flo_read _ rfl (fun K hK => ?_)
                  go_simp
                  first | (refine hK _ ?_) | (refine ⟨fun W hS => ?_, hK _ ?_⟩; · (have Y1 := hS.old b1; try go_simp))
                  clear hK K
                  refine flo_read _ rfl (fun K hK => ?_)
                  go_simp
                  first | (refine hK _ ?_) | (refine ⟨fun W hS => ?_, hK _ ?_⟩; · (have Y1 := hS.old b1; try go_simp))
                  clear hK K
                  refine flo_read _ rfl (fun K hK => ?_)
                  go_simp
                  first | (refine hK _ ?_) | (refine ⟨fun W hS => ?_, hK _ ?_⟩; · (have Y1 := hS.old b1; try go_simp))
                  clear hK K
                  refine flo_read _ rfl (fun K hK => ?_)
                  go_simp
                  first | (refine hK _ ?_) | (refine ⟨fun W hS => ?_, hK _ ?_⟩; · (have Y1 := hS.old b1; try go_simp))
                  clear hK K
                  refine flo_alone _ rfl ?_
                  go_wp2_with fail
                  go_at_call 50
                  refine Calls.mono (J2.out _) ?_
                  rintro e w7 ⟨rfl, t7⟩
                  go_wp2_with fail
                  refine ⟨fun W => Turns [] w7 W, fun W h => t7.trans h, Turns.refl _ _, ?_⟩
                  have B7 := B6.turns t7 (by simp)
                  have T7 := (Ta.trans t6).trans t7
                  clear b0 b1
                  have b0 : World.cell? (w7) ⟨wr.heap.size, 0, none⟩ = some _ := (B7).cell 0
                  refine flo_read _ rfl (fun K hK => ?_)
                  go_simp
                  first | (refine hK _ ?_) | (refine ⟨fun W hS => ?_, hK _ ?_⟩; · (skip; try go_simp))
                  clear hK K
                  refine flo_read _ rfl (fun K hK => ?_)
                  go_simp
                  first | (refine hK _ ?_) | (refine ⟨fun W hS => ?_, hK _ ?_⟩; · (skip; try go_simp))
                  clear hK K
                  refine flo_read _ rfl (fun K hK => ?_)
                  go_simp
                  first | (refine hK _ ?_) | (refine ⟨fun W hS => ?_, hK _ ?_⟩; · (skip; try go_simp))
                  clear hK K
                  refine flo_read _ rfl (fun K hK => ?_)
                  go_simp
                  first | (refine hK _ ?_) | (refine ⟨fun W hS => ?_, hK _ ?_⟩; · (skip; try go_simp))
                  clear hK K
                  refine flo_read _ rfl (fun K hK => ?_)
                  go_simp
                  first | (refine hK _ ?_) | (refine ⟨fun W hS => ?_, hK _ ?_⟩; · (skip; try go_simp))
                  clear hK K
                  refine flo_read _ rfl (fun K hK => ?_)
                  go_simp
                  first | (refine hK _ ?_) | (refine ⟨fun W hS => ?_, hK _ ?_⟩; · (skip; try go_simp))
                  clear hK K
                  refine flo_read _ rfl (fun K hK => ?_)
                  go_simp
                  first | (refine hK _ ?_) | (refine ⟨fun W hS => ?_, hK _ ?_⟩; · (skip; try go_simp))
                  clear hK K
                  refine flo_read _ rfl (fun K hK => ?_)
                  go_simp
                  first | (refine hK _ ?_) | (refine ⟨fun W hS => ?_, hK _ ?_⟩; · (skip; try go_simp))
                  clear hK K
                  refine flo_read _ rfl (fun K hK => ?_)
                  go_simp
                  first | (refine hK _ ?_) | (refine ⟨fun W hS => ?_, hK _ ?_⟩; · (skip; try go_simp))
                  clear hK K
                  refine flo_read _ rfl (fun K hK => ?_)
                  go_simp
                  first | (refine hK _ ?_) | (refine ⟨fun W hS => ?_, hK _ ?_⟩; · (skip; try go_simp))
                  clear hK K
                  refine flo_read _ rfl (fun K hK => ?_)
                  go_simp
                  first | (refine hK _ ?_) | (refine ⟨fun W hS => ?_, hK _ ?_⟩; · (skip; try go_simp))
                  clear hK K
                  refine flo_read _ rfl (fun K hK => ?_)
                  go_simp
                  first | (refine hK _ ?_) | (refine ⟨fun W hS => ?_, hK _ ?_⟩; · (skip; try go_simp))
                  clear hK K
                  refine flo_read _ rfl (fun K hK => ?_)
                  go_simp
                  first | (refine hK _ ?_) | (refine ⟨fun W hS => ?_, hK _ ?_⟩; · (skip; try go_simp))
                  clear hK K
                  refine flo_read _ rfl (fun K hK => ?_)
                  go_simp
                  first | (refine hK _ ?_) | (refine ⟨fun W hS => ?_, hK _ ?_⟩; · (skip; try go_simp))
                  clear hK K
                  refine flo_read _ rfl (fun K hK => ?_)
                  go_simp
                  first | (refine hK _ ?_) | (refine ⟨fun W hS => ?_, hK _ ?_⟩; · (skip; try go_simp))
                  clear hK K
                  refine flo_read _ rfl (fun K hK => ?_)
                  go_simp
                  first | (refine hK _ ?_) | (refine ⟨fun W hS => ?_, hK _ ?_⟩; · (skip; try go_simp))
                  clear hK K
                  refine flo_read _ rfl (fun K hK => ?_)
                  go_simp
                  first | (refine hK _ ?_) | (refine ⟨fun W hS => ?_, hK _ ?_⟩; · (skip; try go_simp))
                  clear hK K
                  refine flo_read _ rfl (fun K hK => ?_)
                  go_simp
                  first | (refine hK _ ?_) | (refine ⟨fun W hS => ?_, hK _ ?_⟩; · (skip; try go_simp))
                  clear hK K
                  refine flo_end ?_
                  go_wp2_with fail
                  go_ret
                  exact ⟨rfl, T4.trans T7⟩
                | true =>
                  simp only [Bool.true_and] at hpk
                  by_cases hk0 : k = 0
                  · have g2 : decide ((k : Int) > 0) = false := decide_eq_false (by omega)
                    have g2b : decide (0 < k) = false := decide_eq_false (by omega)
                    have ha : prev_ l k = none := by unfold prev_; rw [if_pos hk0]
                    rw [ha] at hpk
                    simp only [Bool.true_and] at hpk
                    have hpkh := Lib.hid hpk
                    have hnxh := Lib.hid hnx
                    clear hpk hk0 ha hnx
                    go_wp2_with fail
                    clear x0 x1 t3
                    go_wp2_with fail
                    refine wp_region_flo [(0, true), (1, true), (2, false), (3, true), (4, true), (5, true), (6, true), (7, false), (8, true), (9, true), (10, true), (11, true), (12, true), (13, true), (14, true), (15, true), (16, true), (17, true), (18, true), (19, true), (20, true), (21, true), (22, true), (23, true), (24, true), (25, true)] (fun W => Turns [] (wr.alloc (.cells #[.int .i64 x.1, .int .i64 x.2] 76)).drew W) (by kernel_rfl) rfl (by kernel_rfl) (by intro c d v a w h; cases d <;> first | (simpa [Exit.then, Exit.inBlock, Act.put] using h) | exact h) (Turns.refl _ _) ?_
                    generalize (wr.alloc (.cells #[.int .i64 x.1, .int .i64 x.2] 76)).drew = w5 at *
                    have b0 : World.cell? (w5) ⟨wr.heap.size, 0, none⟩ = some _ := (B).cell 0
                    have b1 : World.cell? (w5) ⟨wr.heap.size, 1, none⟩ = some _ := (B).cell 1
                    refine flo_read _ rfl (fun K hK => ?_)
                    go_simp
                    first | (refine hK _ ?_) | (refine ⟨fun W hS => ?_, hK _ ?_⟩; · (have Y0 := hS.old b0; try go_simp))
                    clear hK K
                    refine flo_read _ rfl (fun K hK => ?_)
                    go_simp
                    first | (refine hK _ ?_) | (refine ⟨fun W hS => ?_, hK _ ?_⟩; · (have Y0 := hS.old b0; try go_simp))
                    clear hK K
                    refine flo_alone _ rfl ?_
                    go_wp2_with fail
                    go_at_call 50
                    refine Calls.mono (J1.out _) ?_
                    rintro e w6 ⟨rfl, t6⟩
                    go_wp2_with fail
                    refine ⟨fun W => Turns [] w6 W, fun W h => t6.trans h, Turns.refl _ _, ?_⟩
                    have B6 := B.turns t6 (by simp)
                    clear b0 b1
                    have b0 : World.cell? (w6) ⟨wr.heap.size, 0, none⟩ = some _ := (B6).cell 0
                    have b1 : World.cell? (w6) ⟨wr.heap.size, 1, none⟩ = some _ := (B6).cell 1
                    refine flo_read _ rfl (fun K hK => ?_)
                    go_simp
                    first | (refine hK _ ?_) | (refine ⟨fun W hS => ?_, hK _ ?_⟩; · (have Y1 := hS.old b1; try go_simp))
                    clear hK K
                    refine flo_read _ rfl (fun K hK => ?_)
                    go_simp
                    first | (refine hK _ ?_) | (refine ⟨fun W hS => ?_, hK _ ?_⟩; · (have Y1 := hS.old b1; try go_simp))
                    clear hK K
                    refine flo_read _ rfl (fun K hK => ?_)
                    go_simp
                    first | (refine hK _ ?_) | (refine ⟨fun W hS => ?_, hK _ ?_⟩; · (have Y1 := hS.old b1; try go_simp))
                    clear hK K
                    refine flo_read _ rfl (fun K hK => ?_)
                    go_simp
                    first | (refine hK _ ?_) | (refine ⟨fun W hS => ?_, hK _ ?_⟩; · (have Y1 := hS.old b1; try go_simp))
                    clear hK K
                    refine flo_alone _ rfl ?_
                    go_wp2_with fail
                    go_at_call 50
                    refine Calls.mono (J2.out _) ?_
                    rintro e w7 ⟨rfl, t7⟩
                    go_wp2_with fail
                    refine ⟨fun W => Turns [] w7 W, fun W h => t7.trans h, Turns.refl _ _, ?_⟩
                    have B7 := B6.turns t7 (by simp)
                    have T7 := (Ta.trans t6).trans t7
                    clear b0 b1
                    have b0 : World.cell? (w7) ⟨wr.heap.size, 0, none⟩ = some _ := (B7).cell 0
                    refine flo_read _ rfl (fun K hK => ?_)
                    go_simp
                    first | (refine hK _ ?_) | (refine ⟨fun W hS => ?_, hK _ ?_⟩; · (skip; try go_simp))
                    clear hK K
                    refine flo_read _ rfl (fun K hK => ?_)
                    go_simp
                    first | (refine hK _ ?_) | (refine ⟨fun W hS => ?_, hK _ ?_⟩; · (skip; try go_simp))
                    clear hK K
                    refine flo_read _ rfl (fun K hK => ?_)
                    go_simp
                    first | (refine hK _ ?_) | (refine ⟨fun W hS => ?_, hK _ ?_⟩; · (skip; try go_simp))
                    clear hK K
                    refine flo_read _ rfl (fun K hK => ?_)
                    go_simp
                    first | (refine hK _ ?_) | (refine ⟨fun W hS => ?_, hK _ ?_⟩; · (skip; try go_simp))
                    clear hK K
                    refine flo_read _ rfl (fun K hK => ?_)
                    go_simp
                    first | (refine hK _ ?_) | (refine ⟨fun W hS => ?_, hK _ ?_⟩; · (skip; try go_simp))
                    clear hK K
                    refine flo_read _ rfl (fun K hK => ?_)
                    go_simp
                    first | (refine hK _ ?_) | (refine ⟨fun W hS => ?_, hK _ ?_⟩; · (skip; try go_simp))
                    clear hK K
                    refine flo_read _ rfl (fun K hK => ?_)
                    go_simp
                    first | (refine hK _ ?_) | (refine ⟨fun W hS => ?_, hK _ ?_⟩; · (skip; try go_simp))
                    clear hK K
                    refine flo_read _ rfl (fun K hK => ?_)
                    go_simp
                    first | (refine hK _ ?_) | (refine ⟨fun W hS => ?_, hK _ ?_⟩; · (skip; try go_simp))
                    clear hK K
                    refine flo_read _ rfl (fun K hK => ?_)
                    go_simp
                    first | (refine hK _ ?_) | (refine ⟨fun W hS => ?_, hK _ ?_⟩; · (skip; try go_simp))
                    clear hK K
                    refine flo_read _ rfl (fun K hK => ?_)
                    go_simp
                    first | (refine hK _ ?_) | (refine ⟨fun W hS => ?_, hK _ ?_⟩; · (skip; try go_simp))
                    clear hK K
                    refine flo_read _ rfl (fun K hK => ?_)
                    go_simp
                    first | (refine hK _ ?_) | (refine ⟨fun W hS => ?_, hK _ ?_⟩; · (skip; try go_simp))
                    clear hK K
                    refine flo_read _ rfl (fun K hK => ?_)
                    go_simp
                    first | (refine hK _ ?_) | (refine ⟨fun W hS => ?_, hK _ ?_⟩; · (skip; try go_simp))
                    clear hK K
                    refine flo_read _ rfl (fun K hK => ?_)
                    go_simp
                    first | (refine hK _ ?_) | (refine ⟨fun W hS => ?_, hK _ ?_⟩; · (skip; try go_simp))
                    clear hK K
                    refine flo_read _ rfl (fun K hK => ?_)
                    go_simp
                    first | (refine hK _ ?_) | (refine ⟨fun W hS => ?_, hK _ ?_⟩; · (skip; try go_simp))
                    clear hK K
                    refine flo_read _ rfl (fun K hK => ?_)
                    go_simp
                    first | (refine hK _ ?_) | (refine ⟨fun W hS => ?_, hK _ ?_⟩; · (skip; try go_simp))
                    clear hK K
                    refine flo_read _ rfl (fun K hK => ?_)
                    go_simp
                    first | (refine hK _ ?_) | (refine ⟨fun W hS => ?_, hK _ ?_⟩; · (skip; try go_simp))
                    clear hK K
                    refine flo_read _ rfl (fun K hK => ?_)
                    go_simp
                    first | (refine hK _ ?_) | (refine ⟨fun W hS => ?_, hK _ ?_⟩; · (skip; try go_simp))
                    clear hK K
                    refine flo_read _ rfl (fun K hK => ?_)
                    go_simp
                    first | (refine hK _ ?_) | (refine ⟨fun W hS => ?_, hK _ ?_⟩; · (skip; try go_simp))
                    clear hK K
                    refine flo_end ?_
                    go_wp2_with fail
                    go_roundw
                    case rel => exact ⟨k + 1, by omega, by go_num, by rw [hnxh.out]; exact hpkh.out, T7⟩
                    case measure => simp [RowKit.intOf]; omega
                  · have g2 : decide ((k : Int) > 0) = true := decide_eq_true (by omega)
                    have g2b : decide (0 < k) = true := decide_eq_true (by omega)
                    obtain ⟨j, hj⟩ : ∃ j, k = j + 1 := ⟨k - 1, by omega⟩
                    obtain ⟨y, hy⟩ : ∃ y, l[j]? = some y := ⟨_, List.getElem?_eq_getElem (by omega)⟩
                    have ha : prev_ l k = some y := by rw [hj]; exact prev_next hy
                    rw [ha] at hpk
                    simp only at hpk
                    obtain ⟨ad2, c2', hv2, LY⟩ := ls_at hh.out hy
                    injection hv2 with e4 e5 e6
                    injection e4 with e4
                    subst e4 e6
                    have hyc := Lib.hid LY.n
                    have w1_ : IntKind.i64.wrap ((k : Int) - 1) = (j : Int) := by rw [IntWalk.i64_in _ (by omega)]; omega
                    have w2_ : (k : Int) - 1 = (j : Int) := by omega
                    have w3_ : IntKind.i64.wrap (j : Int) = (j : Int) := IntWalk.i64_in _ (by omega)
                    have hjl : j < l.length := by omega
                    have hnxh := Lib.hid hnx
                    have hkj := Lib.hid hj
                    by_cases hr : y.1 < x.1
                    · have g3 : decide (x.1 ≤ y.1) = false := decide_eq_false (by omega)
                      rw [decide_eq_true hr, Bool.true_and] at hpk
                      have hpkh := Lib.hid hpk
                      clear hpk hk0 ha hnx hr LY hy e5 hj
                      go_wp2_with fail
                      clear x0 x1 t3
                      go_wp2_with fail
                      refine wp_region_flo [(0, true), (1, true), (2, false), (3, true), (4, true), (5, true), (6, true), (7, false), (8, true), (9, true), (10, true), (11, true), (12, true), (13, true), (14, true), (15, true), (16, true), (17, true), (18, true), (19, true), (20, true), (21, true), (22, true), (23, true), (24, true), (25, true)] (fun W => Turns [] (wr.alloc (.cells #[.int .i64 x.1, .int .i64 x.2] 76)).drew W) (by kernel_rfl) rfl (by kernel_rfl) (by intro c d v a w h; cases d <;> first | (simpa [Exit.then, Exit.inBlock, Act.put] using h) | exact h) (Turns.refl _ _) ?_
                      generalize (wr.alloc (.cells #[.int .i64 x.1, .int .i64 x.2] 76)).drew = w5 at *
                      have b0 : World.cell? (w5) ⟨wr.heap.size, 0, none⟩ = some _ := (B).cell 0
                      have b1 : World.cell? (w5) ⟨wr.heap.size, 1, none⟩ = some _ := (B).cell 1
                      refine flo_read _ rfl (fun K hK => ?_)
                      go_simp
                      first | (refine hK _ ?_) | (refine ⟨fun W hS => ?_, hK _ ?_⟩; · (have Y0 := hS.old b0; try go_simp))
                      clear hK K
                      refine flo_read _ rfl (fun K hK => ?_)
                      go_simp
                      first | (refine hK _ ?_) | (refine ⟨fun W hS => ?_, hK _ ?_⟩; · (have Y0 := hS.old b0; try go_simp))
                      clear hK K
                      refine flo_alone _ rfl ?_
                      go_wp2_with fail
                      go_at_call 50
                      refine Calls.mono (J1.out _) ?_
                      rintro e w6 ⟨rfl, t6⟩
                      go_wp2_with fail
                      refine ⟨fun W => Turns [] w6 W, fun W h => t6.trans h, Turns.refl _ _, ?_⟩
                      have B6 := B.turns t6 (by simp)
                      clear b0 b1
                      have b0 : World.cell? (w6) ⟨wr.heap.size, 0, none⟩ = some _ := (B6).cell 0
                      have b1 : World.cell? (w6) ⟨wr.heap.size, 1, none⟩ = some _ := (B6).cell 1
                      refine flo_read _ rfl (fun K hK => ?_)
                      go_simp
                      first | (refine hK _ ?_) | (refine ⟨fun W hS => ?_, hK _ ?_⟩; · (have Y1 := hS.old b1; try go_simp))
                      clear hK K
                      refine flo_read _ rfl (fun K hK => ?_)
                      go_simp
                      first | (refine hK _ ?_) | (refine ⟨fun W hS => ?_, hK _ ?_⟩; · (have Y1 := hS.old b1; try go_simp))
                      clear hK K
                      refine flo_read _ rfl (fun K hK => ?_)
                      go_simp
                      first | (refine hK _ ?_) | (refine ⟨fun W hS => ?_, hK _ ?_⟩; · (have Y1 := hS.old b1; try go_simp))
                      clear hK K
                      refine flo_read _ rfl (fun K hK => ?_)
                      go_simp
                      first | (refine hK _ ?_) | (refine ⟨fun W hS => ?_, hK _ ?_⟩; · (have Y1 := hS.old b1; try go_simp))
                      clear hK K
                      refine flo_alone _ rfl ?_
                      go_wp2_with fail
                      go_at_call 50
                      refine Calls.mono (J2.out _) ?_
                      rintro e w7 ⟨rfl, t7⟩
                      go_wp2_with fail
                      refine ⟨fun W => Turns [] w7 W, fun W h => t7.trans h, Turns.refl _ _, ?_⟩
                      have B7 := B6.turns t7 (by simp)
                      have T7 := (Ta.trans t6).trans t7
                      clear b0 b1
                      have b0 : World.cell? (w7) ⟨wr.heap.size, 0, none⟩ = some _ := (B7).cell 0
                      have z0 := (T4.trans T7).old hyc.out
                      have z1 := T7.old (B4.cell 3)
                      refine flo_read _ rfl (fun K hK => ?_)
                      go_simp
                      first | (refine hK _ ?_) | (refine ⟨fun W hS => ?_, hK _ ?_⟩; · (have Y0 := hS.old b0; have Z0 := hS.old z0; have Z1 := hS.old z1; try go_simp))
                      clear hK K
                      refine flo_read _ rfl (fun K hK => ?_)
                      go_simp
                      first | (refine hK _ ?_) | (refine ⟨fun W hS => ?_, hK _ ?_⟩; · (have Y0 := hS.old b0; have Z0 := hS.old z0; have Z1 := hS.old z1; try go_simp))
                      clear hK K
                      refine flo_read _ rfl (fun K hK => ?_)
                      go_simp
                      first | (refine hK _ ?_) | (refine ⟨fun W hS => ?_, hK _ ?_⟩; · (have Y0 := hS.old b0; have Z0 := hS.old z0; have Z1 := hS.old z1; try go_simp))
                      clear hK K
                      refine flo_read _ rfl (fun K hK => ?_)
                      go_simp
                      first | (refine hK _ ?_) | (refine ⟨fun W hS => ?_, hK _ ?_⟩; · (have Y0 := hS.old b0; have Z0 := hS.old z0; have Z1 := hS.old z1; try go_simp))
                      clear hK K
                      refine flo_read _ rfl (fun K hK => ?_)
                      go_simp
                      first | (refine hK _ ?_) | (refine ⟨fun W hS => ?_, hK _ ?_⟩; · (have Y0 := hS.old b0; have Z0 := hS.old z0; have Z1 := hS.old z1; try go_simp))
                      clear hK K
                      refine flo_read _ rfl (fun K hK => ?_)
                      go_simp
                      first | (refine hK _ ?_) | (refine ⟨fun W hS => ?_, hK _ ?_⟩; · (have Y0 := hS.old b0; have Z0 := hS.old z0; have Z1 := hS.old z1; try go_simp))
                      clear hK K
                      refine flo_read _ rfl (fun K hK => ?_)
                      go_simp
                      first | (refine hK _ ?_) | (refine ⟨fun W hS => ?_, hK _ ?_⟩; · (have Y0 := hS.old b0; have Z0 := hS.old z0; have Z1 := hS.old z1; try go_simp))
                      clear hK K
                      refine flo_read _ rfl (fun K hK => ?_)
                      go_simp
                      first | (refine hK _ ?_) | (refine ⟨fun W hS => ?_, hK _ ?_⟩; · (have Y0 := hS.old b0; have Z0 := hS.old z0; have Z1 := hS.old z1; try go_simp))
                      clear hK K
                      refine flo_read _ rfl (fun K hK => ?_)
                      go_simp
                      first | (refine hK _ ?_) | (refine ⟨fun W hS => ?_, hK _ ?_⟩; · (have Y0 := hS.old b0; have Z0 := hS.old z0; have Z1 := hS.old z1; try go_simp))
                      clear hK K
                      refine flo_read _ rfl (fun K hK => ?_)
                      go_simp
                      first | (refine hK _ ?_) | (refine ⟨fun W hS => ?_, hK _ ?_⟩; · (have Y0 := hS.old b0; have Z0 := hS.old z0; have Z1 := hS.old z1; try go_simp))
                      clear hK K
                      refine flo_read _ rfl (fun K hK => ?_)
                      go_simp
                      first | (refine hK _ ?_) | (refine ⟨fun W hS => ?_, hK _ ?_⟩; · (have Y0 := hS.old b0; have Z0 := hS.old z0; have Z1 := hS.old z1; try go_simp))
                      clear hK K
                      refine flo_read _ rfl (fun K hK => ?_)
                      go_simp
                      first | (refine hK _ ?_) | (refine ⟨fun W hS => ?_, hK _ ?_⟩; · (have Y0 := hS.old b0; have Z0 := hS.old z0; have Z1 := hS.old z1; try go_simp))
                      clear hK K
                      refine flo_read _ rfl (fun K hK => ?_)
                      go_simp
                      first | (refine hK _ ?_) | (refine ⟨fun W hS => ?_, hK _ ?_⟩; · (have Y0 := hS.old b0; have Z0 := hS.old z0; have Z1 := hS.old z1; try go_simp))
                      clear hK K
                      refine flo_read _ rfl (fun K hK => ?_)
                      go_simp
                      first | (refine hK _ ?_) | (refine ⟨fun W hS => ?_, hK _ ?_⟩; · (have Y0 := hS.old b0; have Z0 := hS.old z0; have Z1 := hS.old z1; try go_simp))
                      clear hK K
                      refine flo_read _ rfl (fun K hK => ?_)
                      go_simp
                      first | (refine hK _ ?_) | (refine ⟨fun W hS => ?_, hK _ ?_⟩; · (have Y0 := hS.old b0; have Z0 := hS.old z0; have Z1 := hS.old z1; try go_simp))
                      clear hK K
                      refine flo_read _ rfl (fun K hK => ?_)
                      go_simp
                      first | (refine hK _ ?_) | (refine ⟨fun W hS => ?_, hK _ ?_⟩; · (have Y0 := hS.old b0; have Z0 := hS.old z0; have Z1 := hS.old z1; try go_simp))
                      clear hK K
                      refine flo_read _ rfl (fun K hK => ?_)
                      go_simp
                      first | (refine hK _ ?_) | (refine ⟨fun W hS => ?_, hK _ ?_⟩; · (have Y0 := hS.old b0; have Z0 := hS.old z0; have Z1 := hS.old z1; try go_simp))
                      clear hK K
                      refine flo_read _ rfl (fun K hK => ?_)
                      go_simp
                      first | (refine hK _ ?_) | (refine ⟨fun W hS => ?_, hK _ ?_⟩; · (have Y0 := hS.old b0; have Z0 := hS.old z0; have Z1 := hS.old z1; try go_simp))
                      clear hK K
                      refine flo_end ?_
                      clear z0 z1 b0
                      go_wp2_with fail
                      go_roundw
                      case rel => exact ⟨k + 1, by omega, by go_num, by rw [hnxh.out]; exact hpkh.out, T7⟩
                      case measure => simp [RowKit.intOf]; omega
                    · have g3 : decide (x.1 ≤ y.1) = true := decide_eq_true (by omega)
                      rw [decide_eq_false hr, Bool.false_and] at hpk
                      subst hpk
                      clear hk0 ha hnx hr LY hy e5 hj
                      go_wp2_with fail
                      clear x0 x1 t3
                      go_wp2_with fail
                      refine wp_region_flo [(0, true), (1, true), (2, false), (3, true), (4, true), (5, true), (6, true), (7, false), (8, true), (9, true), (10, true), (11, true), (12, true), (13, true), (14, true), (15, true), (16, true), (17, true), (18, true), (19, true), (20, true), (21, true), (22, true), (23, true), (24, true), (25, true)] (fun W => Turns [] (wr.alloc (.cells #[.int .i64 x.1, .int .i64 x.2] 76)).drew W) (by kernel_rfl) rfl (by kernel_rfl) (by intro c d v a w h; cases d <;> first | (simpa [Exit.then, Exit.inBlock, Act.put] using h) | exact h) (Turns.refl _ _) ?_
                      generalize (wr.alloc (.cells #[.int .i64 x.1, .int .i64 x.2] 76)).drew = w5 at *
                      have b0 : World.cell? (w5) ⟨wr.heap.size, 0, none⟩ = some _ := (B).cell 0
                      have b1 : World.cell? (w5) ⟨wr.heap.size, 1, none⟩ = some _ := (B).cell 1
                      refine flo_read _ rfl (fun K hK => ?_)
                      go_simp
                      first | (refine hK _ ?_) | (refine ⟨fun W hS => ?_, hK _ ?_⟩; · (have Y0 := hS.old b0; try go_simp))
                      clear hK K
                      refine flo_read _ rfl (fun K hK => ?_)
                      go_simp
                      first | (refine hK _ ?_) | (refine ⟨fun W hS => ?_, hK _ ?_⟩; · (have Y0 := hS.old b0; try go_simp))
                      clear hK K
                      refine flo_alone _ rfl ?_
                      go_wp2_with fail
                      go_at_call 50
                      refine Calls.mono (J1.out _) ?_
                      rintro e w6 ⟨rfl, t6⟩
                      go_wp2_with fail
                      refine ⟨fun W => Turns [] w6 W, fun W h => t6.trans h, Turns.refl _ _, ?_⟩
                      have B6 := B.turns t6 (by simp)
                      clear b0 b1
                      have b0 : World.cell? (w6) ⟨wr.heap.size, 0, none⟩ = some _ := (B6).cell 0
                      have b1 : World.cell? (w6) ⟨wr.heap.size, 1, none⟩ = some _ := (B6).cell 1
                      refine flo_read _ rfl (fun K hK => ?_)
                      go_simp
                      first | (refine hK _ ?_) | (refine ⟨fun W hS => ?_, hK _ ?_⟩; · (have Y1 := hS.old b1; try go_simp))
                      clear hK K
                      refine flo_read _ rfl (fun K hK => ?_)
                      go_simp
                      first | (refine hK _ ?_) | (refine ⟨fun W hS => ?_, hK _ ?_⟩; · (have Y1 := hS.old b1; try go_simp))
                      clear hK K
                      refine flo_read _ rfl (fun K hK => ?_)
                      go_simp
                      first | (refine hK _ ?_) | (refine ⟨fun W hS => ?_, hK _ ?_⟩; · (have Y1 := hS.old b1; try go_simp))
                      clear hK K
                      refine flo_read _ rfl (fun K hK => ?_)
                      go_simp
                      first | (refine hK _ ?_) | (refine ⟨fun W hS => ?_, hK _ ?_⟩; · (have Y1 := hS.old b1; try go_simp))
                      clear hK K
                      refine flo_alone _ rfl ?_
                      go_wp2_with fail
                      go_at_call 50
                      refine Calls.mono (J2.out _) ?_
                      rintro e w7 ⟨rfl, t7⟩
                      go_wp2_with fail
                      refine ⟨fun W => Turns [] w7 W, fun W h => t7.trans h, Turns.refl _ _, ?_⟩
                      have B7 := B6.turns t7 (by simp)
                      have T7 := (Ta.trans t6).trans t7
                      clear b0 b1
                      have b0 : World.cell? (w7) ⟨wr.heap.size, 0, none⟩ = some _ := (B7).cell 0
                      have z0 := (T4.trans T7).old hyc.out
                      have z1 := T7.old (B4.cell 3)
                      refine flo_read _ rfl (fun K hK => ?_)
                      go_simp
                      first | (refine hK _ ?_) | (refine ⟨fun W hS => ?_, hK _ ?_⟩; · (have Y0 := hS.old b0; have Z0 := hS.old z0; have Z1 := hS.old z1; try go_simp))
                      clear hK K
                      refine flo_read _ rfl (fun K hK => ?_)
                      go_simp
                      first | (refine hK _ ?_) | (refine ⟨fun W hS => ?_, hK _ ?_⟩; · (have Y0 := hS.old b0; have Z0 := hS.old z0; have Z1 := hS.old z1; try go_simp))
                      clear hK K
                      refine flo_read _ rfl (fun K hK => ?_)
                      go_simp
                      first | (refine hK _ ?_) | (refine ⟨fun W hS => ?_, hK _ ?_⟩; · (have Y0 := hS.old b0; have Z0 := hS.old z0; have Z1 := hS.old z1; try go_simp))
                      clear hK K
                      refine flo_read _ rfl (fun K hK => ?_)
                      go_simp
                      first | (refine hK _ ?_) | (refine ⟨fun W hS => ?_, hK _ ?_⟩; · (have Y0 := hS.old b0; have Z0 := hS.old z0; have Z1 := hS.old z1; try go_simp))
                      clear hK K
                      refine flo_read _ rfl (fun K hK => ?_)
                      go_simp
                      first | (refine hK _ ?_) | (refine ⟨fun W hS => ?_, hK _ ?_⟩; · (have Y0 := hS.old b0; have Z0 := hS.old z0; have Z1 := hS.old z1; try go_simp))
                      clear hK K
                      refine flo_read _ rfl (fun K hK => ?_)
                      go_simp
                      first | (refine hK _ ?_) | (refine ⟨fun W hS => ?_, hK _ ?_⟩; · (have Y0 := hS.old b0; have Z0 := hS.old z0; have Z1 := hS.old z1; try go_simp))
                      clear hK K
                      refine flo_read _ rfl (fun K hK => ?_)
                      go_simp
                      first | (refine hK _ ?_) | (refine ⟨fun W hS => ?_, hK _ ?_⟩; · (have Y0 := hS.old b0; have Z0 := hS.old z0; have Z1 := hS.old z1; try go_simp))
                      clear hK K
                      refine flo_read _ rfl (fun K hK => ?_)
                      go_simp
                      first | (refine hK _ ?_) | (refine ⟨fun W hS => ?_, hK _ ?_⟩; · (have Y0 := hS.old b0; have Z0 := hS.old z0; have Z1 := hS.old z1; try go_simp))
                      clear hK K
                      refine flo_read _ rfl (fun K hK => ?_)
                      go_simp
                      first | (refine hK _ ?_) | (refine ⟨fun W hS => ?_, hK _ ?_⟩; · (have Y0 := hS.old b0; have Z0 := hS.old z0; have Z1 := hS.old z1; try go_simp))
                      clear hK K
                      refine flo_read _ rfl (fun K hK => ?_)
                      go_simp
                      first | (refine hK _ ?_) | (refine ⟨fun W hS => ?_, hK _ ?_⟩; · (have Y0 := hS.old b0; have Z0 := hS.old z0; have Z1 := hS.old z1; try go_simp))
                      clear hK K
                      refine flo_read _ rfl (fun K hK => ?_)
                      go_simp
                      first | (refine hK _ ?_) | (refine ⟨fun W hS => ?_, hK _ ?_⟩; · (have Y0 := hS.old b0; have Z0 := hS.old z0; have Z1 := hS.old z1; try go_simp))
                      clear hK K
                      refine flo_read _ rfl (fun K hK => ?_)
                      go_simp
                      first | (refine hK _ ?_) | (refine ⟨fun W hS => ?_, hK _ ?_⟩; · (have Y0 := hS.old b0; have Z0 := hS.old z0; have Z1 := hS.old z1; try go_simp))
                      clear hK K
                      refine flo_read _ rfl (fun K hK => ?_)
                      go_simp
                      first | (refine hK _ ?_) | (refine ⟨fun W hS => ?_, hK _ ?_⟩; · (have Y0 := hS.old b0; have Z0 := hS.old z0; have Z1 := hS.old z1; try go_simp))
                      clear hK K
                      refine flo_read _ rfl (fun K hK => ?_)
                      go_simp
                      first | (refine hK _ ?_) | (refine ⟨fun W hS => ?_, hK _ ?_⟩; · (have Y0 := hS.old b0; have Z0 := hS.old z0; have Z1 := hS.old z1; try go_simp))
                      clear hK K
                      refine flo_read _ rfl (fun K hK => ?_)
                      go_simp
                      first | (refine hK _ ?_) | (refine ⟨fun W hS => ?_, hK _ ?_⟩; · (have Y0 := hS.old b0; have Z0 := hS.old z0; have Z1 := hS.old z1; try go_simp))
                      clear hK K
                      refine flo_read _ rfl (fun K hK => ?_)
                      go_simp
                      first | (refine hK _ ?_) | (refine ⟨fun W hS => ?_, hK _ ?_⟩; · (have Y0 := hS.old b0; have Z0 := hS.old z0; have Z1 := hS.old z1; try go_simp))
                      clear hK K
                      refine flo_read _ rfl (fun K hK => ?_)
                      go_simp
                      first | (refine hK _ ?_) | (refine ⟨fun W hS => ?_, hK _ ?_⟩; · (have Y0 := hS.old b0; have Z0 := hS.old z0; have Z1 := hS.old z1; try go_simp))
                      clear hK K
                      refine flo_read _ rfl (fun K hK => ?_)
                      go_simp
                      first | (refine hK _ ?_) | (refine ⟨fun W hS => ?_, hK _ ?_⟩; · (have Y0 := hS.old b0; have Z0 := hS.old z0; have Z1 := hS.old z1; try go_simp))
                      clear hK K
                      refine flo_end ?_
                      go_wp2_with fail
                      go_ret
                      exact ⟨rfl, T4.trans T7⟩
            · obtain rfl : k = l.length := by omega
              have g1 : decide ((l.length : Int) < (l.length : Int)) = false := by simp
              rw [List.drop_length] at hpk
              unfold okLs at hpk
              subst hpk
              go_wp2_with fail
              go_ret
              exact ⟨rfl, T4.trans T⟩
end Go.Proofs.Ytphhfdlhkginkaa.Fc
