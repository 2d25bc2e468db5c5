/- annonaref05's Table: may a table be? -/
import Derived.Test.YtphhfdlhkginkaaFb
import Derived.Test.YtphhfdlhkginkaaFc
set_option linter.unusedVariables false
set_option linter.unusedSimpArgs false
set_option maxRecDepth 100000
namespace Go.Proofs.Ytphhfdlhkginkaa.Fd
open Go.RowKit Go.MapKept Hm Hs Hf Hx Hy Hv Fa Fb Fc
theorem rowD_eq (start : Int) (r : Row) : rowD start r = rowB start r := by
  unfold rowD rowB lsB
  by_cases h : (r.out.length : Int) > 64
  · have h2 : ¬ (r.out.length : Int) ≤ 64 := by omega
    simp [h, h2]
  · have h2 : (r.out.length : Int) ≤ 64 := by omega
    simp [h, h2]
set_option maxHeartbeats 8000000 in
theorem rtable_is (w : World) (start : Int) (v : Value) (R : List Row) (h : RT w v R) : Calls Try.prog 28 #[.agg #[.int .i64 start, v]] w fun e w' => e = .returned (.bool (tableB start R)) ∧ Turns [] w w' := by
  obtain ⟨A, c, rfl, hlc, hcm⟩ := h.form
  have hh := Lib.hid h
  unfold tableB
  have B0 := Blk.new w #[.int .i64 start, .slice A R.length c] 24
  have T0 := (Turns.refl [] w).alloc (.cells #[.int .i64 start, .slice A R.length c] 24)
  have I0 := Lib.hid (fun w => rin_is start 0 4611686018427387904 w)
  generalize hb0 : inB start 0 4611686018427387904 = s0 at *
  obtain ⟨X, hX⟩ : ∃ X : Ending → World → Prop, X = fun e w' => e = .returned (.bool (okRows start none R && (s0 && decide ((R.length : Int) ≤ 16)))) ∧ Turns [] w w' := ⟨_, rfl⟩
  rw [← hX]
  have hXh : Hid (∀ (b : Bool) (w' : World), (okRows start none R && (s0 && decide ((R.length : Int) ≤ 16))) = b → Turns [] w w' → X (.returned (.bool b)) w') := Lib.hid (fun b w' h1 h2 => by rw [hX]; exact ⟨by rw [h1], h2⟩)
  clear h hb0 hX
  have t0 : World.cell? (w.alloc (.cells #[.int .i64 start, .slice A R.length c] 24)) ⟨w.heap.size, 0, none⟩ = some _ := (B0).cell 0
  cases s0 with
  | false =>
    go_enter Try.func28, Try.ntmps28
    go_wp2_with fail
    go_at_call 50
    refine Calls.mono (I0.out _) ?_
    rintro e w2 ⟨rfl, t2⟩
    have hX := hXh.out false _ (by simp) (T0.trans t2)
    go_wp2_with fail
    exact hX
  | true =>
    by_cases h16 : (R.length : Int) > 16
    · have g0 : decide ((R.length : Int) > 16) = true := decide_eq_true h16
      have h16b : decide ((R.length : Int) ≤ 16) = false := decide_eq_false (by omega)
      go_enter Try.func28, Try.ntmps28
      go_wp2_with fail
      go_at_call 50
      refine Calls.mono (I0.out _) ?_
      rintro e w2 ⟨rfl, t2⟩
      have t1 : w2.cell? ⟨w.heap.size, 1, none⟩ = some _ := (B0.turns t2 (by simp)).cell 1
      have hX := hXh.out true.not _ (by rw [h16b]; simp) (T0.trans t2)
      clear h16 h16b t2 hXh t0
      go_wp2_with fail
      exact hX
    · have g0 : decide ((R.length : Int) > 16) = false := decide_eq_false h16
      have h16b : decide ((R.length : Int) ≤ 16) = true := decide_eq_true (by omega)
      rw [h16b] at hXh
      simp only [Bool.and_true] at hXh
      obtain ⟨q, hq⟩ : ∃ q, okRows start none R = q := ⟨_, rfl⟩
      rw [hq] at hXh
      have hqh := Lib.hid hq
      clear h16 h16b hq
      go_enter Try.func28, Try.ntmps28
      go_wp2_with fail
      go_at_call 50
      refine Calls.mono (I0.out _) ?_
      rintro e w2 ⟨rfl, t2⟩
      have B2 := B0.turns t2 (by simp)
      have T2 := T0.trans t2
      clear t0
      have t0 : World.cell? (w2) ⟨w.heap.size, 0, none⟩ = some _ := (B2).cell 0
      have t1 : World.cell? (w2) ⟨w.heap.size, 1, none⟩ = some _ := (B2).cell 1
      go_wp2_with fail
      go_loopw [4] (fun v4 wr => ∃ (k : Nat), k ≤ R.length ∧ v4 = .int .i64 k ∧ okRows start (prev_ R k) (R.drop k) = q ∧ Turns [] w2 wr) (fun v4 _ => R.length - (RowKit.intOf v4).toNat)
      case atStart => exact ⟨0, by omega, rfl, hqh.out, Turns.refl _ _⟩
      case round =>
        obtain ⟨k, hk, rfl, hpk, T⟩ := hrel
        clear t0 t1
        have t0 := T.old (B2.cell 0)
        have t1 := T.old (B2.cell 1)
        by_cases hlt : k < R.length
        · have g1 : decide ((k : Int) < (R.length : Int)) = true := decide_eq_true (by omega)
          have g1b : decide (k < R.length) = true := decide_eq_true hlt
          obtain ⟨r, hr⟩ : ∃ r, R[k]? = some r := ⟨_, List.getElem?_eq_getElem hlt⟩
          obtain ⟨ad, c', x, hv, hxr, LX⟩ := (hh.out.turns T2).at_ hr
          injection hv with e1 e2 e3
          subst e1 e3
          have hRow := Lib.hid (fun W (t : Turns [] w2 W) => row_is W start x r (hxr.turns t))
          rw [rowD_eq] at hRow
          have hnx := prev_next hr
          rw [drop_cons hr] at hpk
          unfold okRows at hpk
          generalize hb1 : rowB start r = b1 at *
          have hkey := Lib.hid hxr.key
          obtain ⟨xk, xa, xm, xo⟩ := x
          unfold Rw.v at hRow
          simp only at hRow hkey
          have LXh := Lib.hid LX
          obtain ⟨Ao, co, hxo, _⟩ := ls_form hxr.out
          simp only at hxo
          subst hxo
          clear e2 LX hb1 hxr
          have hrh := Lib.hid hr
          clear hr
          cases b1 with
          | false =>
            simp only [Bool.false_and] at hpk
            subst hpk
            go_wp2_with fail
            clear t0 t1
            go_wp2_with fail
            refine wp_region_flo [(0, true), (1, true), (2, true), (3, true), (4, true), (5, true), (6, true), (7, false), (8, true)] (fun W => Turns [] wr.drew W) (by kernel_rfl) rfl (by kernel_rfl) (by intro c d v a w h; cases d <;> first | (simpa [Exit.then, Exit.inBlock, Act.put] using h) | exact h) (Turns.refl _ _) ?_
            have T3 := T.drew
            generalize wr.drew = w3 at *
            obtain ⟨x0, x1, x2, x3⟩ := LXh.out.turns T3
            have t0 := T3.old (B2.cell 0)
            have t1 := T3.old (B2.cell 1)
            refine flo_read _ rfl (fun K hK => ?_)
            go_simp
            first | (refine hK _ ?_) | (refine ⟨fun W hS => ?_, hK _ ?_⟩; · (have X0 := hS.old x0; have X1 := hS.old x1; have X2 := hS.old x2; have X3 := hS.old x3; have Y0 := hS.old t0; have Y1 := hS.old t1; try go_simp))
            clear hK K
            refine flo_read _ rfl (fun K hK => ?_)
            go_simp
            first | (refine hK _ ?_) | (refine ⟨fun W hS => ?_, hK _ ?_⟩; · (have X0 := hS.old x0; have X1 := hS.old x1; have X2 := hS.old x2; have X3 := hS.old x3; have Y0 := hS.old t0; have Y1 := hS.old t1; try go_simp))
            clear hK K
            refine flo_read _ rfl (fun K hK => ?_)
            go_simp
            first | (refine hK _ ?_) | (refine ⟨fun W hS => ?_, hK _ ?_⟩; · (have X0 := hS.old x0; have X1 := hS.old x1; have X2 := hS.old x2; have X3 := hS.old x3; have Y0 := hS.old t0; have Y1 := hS.old t1; try go_simp))
            clear hK K
            refine flo_read _ rfl (fun K hK => ?_)
            go_simp
            first | (refine hK _ ?_) | (refine ⟨fun W hS => ?_, hK _ ?_⟩; · (have X0 := hS.old x0; have X1 := hS.old x1; have X2 := hS.old x2; have X3 := hS.old x3; have Y0 := hS.old t0; have Y1 := hS.old t1; try go_simp))
            clear hK K
            refine flo_read _ rfl (fun K hK => ?_)
            go_simp
            first | (refine hK _ ?_) | (refine ⟨fun W hS => ?_, hK _ ?_⟩; · (have X0 := hS.old x0; have X1 := hS.old x1; have X2 := hS.old x2; have X3 := hS.old x3; have Y0 := hS.old t0; have Y1 := hS.old t1; try go_simp))
            clear hK K
            refine flo_read _ rfl (fun K hK => ?_)
            go_simp
            first | (refine hK _ ?_) | (refine ⟨fun W hS => ?_, hK _ ?_⟩; · (have X0 := hS.old x0; have X1 := hS.old x1; have X2 := hS.old x2; have X3 := hS.old x3; have Y0 := hS.old t0; have Y1 := hS.old t1; try go_simp))
            clear hK K
            refine flo_read _ rfl (fun K hK => ?_)
            go_simp
            first | (refine hK _ ?_) | (refine ⟨fun W hS => ?_, hK _ ?_⟩; · (have X0 := hS.old x0; have X1 := hS.old x1; have X2 := hS.old x2; have X3 := hS.old x3; have Y0 := hS.old t0; have Y1 := hS.old t1; try go_simp))
            clear hK K
            clear x0 x1 x2 x3 t0 t1
            refine flo_alone _ rfl ?_
            go_wp2_with fail
            go_at_call 51
            refine Calls.mono (hRow.out _ T3) ?_
            rintro e w4 ⟨rfl, t4⟩
            go_wp2_with fail
            refine ⟨fun W => Turns [] w4 W, fun W h => t4.trans h, Turns.refl _ _, ?_⟩
            refine flo_read _ rfl (fun K hK => ?_)
            go_simp
            first | (refine hK _ ?_) | (refine ⟨fun W hS => ?_, hK _ ?_⟩; · (skip; try go_simp))
            clear hK K
            refine flo_end ?_
            have T4 := T3.trans t4
            go_wp2_with fail
            obtain ⟨x0, x1, x2, x3⟩ := LXh.out.turns T4
            clear x1 x2 x3
            have t1 := T4.old (B2.cell 1)
            go_quiet (fail)
            have T5 := T4.drewN nq
            generalize w4.drewN nq = w5 at *
            have hX := hXh.out false _ rfl (T2.trans T5)
            go_wp2_with fail
            exact hX
          | true =>
            simp only [Bool.true_and] at hpk
            by_cases hk0 : k = 0
            · have g2 : decide ((k : Int) > 0) = false := decide_eq_false (by omega)
              have g2b : decide (0 < k) = false := decide_eq_false (by omega)
              have ha : prev_ R k = none := by unfold prev_; rw [if_pos hk0]
              rw [ha] at hpk
              simp only [Bool.true_and] at hpk
              have hpkh := Lib.hid hpk
              have hnxh := Lib.hid hnx
              clear hpk hk0 ha hnx
              go_wp2_with fail
              clear t0 t1
              go_wp2_with fail
              refine wp_region_flo [(0, true), (1, true), (2, true), (3, true), (4, true), (5, true), (6, true), (7, false), (8, true)] (fun W => Turns [] wr.drew W) (by kernel_rfl) rfl (by kernel_rfl) (by intro c d v a w h; cases d <;> first | (simpa [Exit.then, Exit.inBlock, Act.put] using h) | exact h) (Turns.refl _ _) ?_
              have T3 := T.drew
              generalize wr.drew = w3 at *
              obtain ⟨x0, x1, x2, x3⟩ := LXh.out.turns T3
              have t0 := T3.old (B2.cell 0)
              have t1 := T3.old (B2.cell 1)
              refine flo_read _ rfl (fun K hK => ?_)
              go_simp
              first | (refine hK _ ?_) | (refine ⟨fun W hS => ?_, hK _ ?_⟩; · (have X0 := hS.old x0; have X1 := hS.old x1; have X2 := hS.old x2; have X3 := hS.old x3; have Y0 := hS.old t0; have Y1 := hS.old t1; try go_simp))
              clear hK K
              refine flo_read _ rfl (fun K hK => ?_)
              go_simp
              first | (refine hK _ ?_) | (refine ⟨fun W hS => ?_, hK _ ?_⟩; · (have X0 := hS.old x0; have X1 := hS.old x1; have X2 := hS.old x2; have X3 := hS.old x3; have Y0 := hS.old t0; have Y1 := hS.old t1; try go_simp))
              clear hK K
              refine flo_read _ rfl (fun K hK => ?_)
              go_simp
              first | (refine hK _ ?_) | (refine ⟨fun W hS => ?_, hK _ ?_⟩; · (have X0 := hS.old x0; have X1 := hS.old x1; have X2 := hS.old x2; have X3 := hS.old x3; have Y0 := hS.old t0; have Y1 := hS.old t1; try go_simp))
              clear hK K
              refine flo_read _ rfl (fun K hK => ?_)
              go_simp
              first | (refine hK _ ?_) | (refine ⟨fun W hS => ?_, hK _ ?_⟩; · (have X0 := hS.old x0; have X1 := hS.old x1; have X2 := hS.old x2; have X3 := hS.old x3; have Y0 := hS.old t0; have Y1 := hS.old t1; try go_simp))
              clear hK K
              refine flo_read _ rfl (fun K hK => ?_)
              go_simp
              first | (refine hK _ ?_) | (refine ⟨fun W hS => ?_, hK _ ?_⟩; · (have X0 := hS.old x0; have X1 := hS.old x1; have X2 := hS.old x2; have X3 := hS.old x3; have Y0 := hS.old t0; have Y1 := hS.old t1; try go_simp))
              clear hK K
              refine flo_read _ rfl (fun K hK => ?_)
              go_simp
              first | (refine hK _ ?_) | (refine ⟨fun W hS => ?_, hK _ ?_⟩; · (have X0 := hS.old x0; have X1 := hS.old x1; have X2 := hS.old x2; have X3 := hS.old x3; have Y0 := hS.old t0; have Y1 := hS.old t1; try go_simp))
              clear hK K
              refine flo_read _ rfl (fun K hK => ?_)
              go_simp
              first | (refine hK _ ?_) | (refine ⟨fun W hS => ?_, hK _ ?_⟩; · (have X0 := hS.old x0; have X1 := hS.old x1; have X2 := hS.old x2; have X3 := hS.old x3; have Y0 := hS.old t0; have Y1 := hS.old t1; try go_simp))
              clear hK K
              clear x0 x1 x2 x3 t0 t1
              refine flo_alone _ rfl ?_
              go_wp2_with fail
              go_at_call 51
              refine Calls.mono (hRow.out _ T3) ?_
              rintro e w4 ⟨rfl, t4⟩
              go_wp2_with fail
              refine ⟨fun W => Turns [] w4 W, fun W h => t4.trans h, Turns.refl _ _, ?_⟩
              refine flo_read _ rfl (fun K hK => ?_)
              go_simp
              first | (refine hK _ ?_) | (refine ⟨fun W hS => ?_, hK _ ?_⟩; · (skip; try go_simp))
              clear hK K
              refine flo_end ?_
              have T4 := T3.trans t4
              go_wp2_with fail
              obtain ⟨x0, x1, x2, x3⟩ := LXh.out.turns T4
              clear x1 x2 x3
              have t1 := T4.old (B2.cell 1)
              go_quiet (fail)
              have T5 := T4.drewN nq
              generalize w4.drewN nq = w5 at *
              go_wp2_with fail
              go_roundw
              case rel => exact ⟨k + 1, by omega, by go_num, by rw [hnxh.out]; exact hpkh.out, T5⟩
              case measure => simp [RowKit.intOf]; omega
            · have g2 : decide ((k : Int) > 0) = true := decide_eq_true (by omega)
              have g2b : decide (0 < k) = true := decide_eq_true (by omega)
              obtain ⟨j, hj⟩ : ∃ j, k = j + 1 := ⟨k - 1, by omega⟩
              obtain ⟨y, hy⟩ : ∃ y, R[j]? = some y := ⟨_, List.getElem?_eq_getElem (by omega)⟩
              have ha : prev_ R k = some y := by rw [hj]; exact prev_next hy
              rw [ha] at hpk
              simp only at hpk
              rw [← hkey.out] at hpk
              obtain ⟨ad2, c2', z, hv2, hzr, LY⟩ := (hh.out.turns T2).at_ hy
              injection hv2 with e4 e5 e6
              injection e4 with e4
              subst e4 e6
              have hyc0 := LY.k
              rw [hzr.key] at hyc0
              have hyc := Lib.hid hyc0
              have w1_ : IntKind.i64.wrap ((k : Int) - 1) = (j : Int) := by rw [IntWalk.i64_in _ (by omega)]; omega
              have w2_ : (k : Int) - 1 = (j : Int) := by omega
              have w3_ : IntKind.i64.wrap (j : Int) = (j : Int) := IntWalk.i64_in _ (by omega)
              have hjl : j < R.length := by omega
              have hnxh := Lib.hid hnx
              have hkj := Lib.hid hj
              by_cases hr2 : y.key < xk
              · have g3 : decide (xk ≤ y.key) = false := decide_eq_false (by omega)
                rw [decide_eq_true hr2, Bool.true_and] at hpk
                have hpkh := Lib.hid hpk
                clear hpk hk0 ha hnx hr2 LY hy e5 hj hyc0 hzr
                go_wp2_with fail
                clear t0 t1
                go_wp2_with fail
                refine wp_region_flo [(0, true), (1, true), (2, true), (3, true), (4, true), (5, true), (6, true), (7, false), (8, true)] (fun W => Turns [] wr.drew W) (by kernel_rfl) rfl (by kernel_rfl) (by intro c d v a w h; cases d <;> first | (simpa [Exit.then, Exit.inBlock, Act.put] using h) | exact h) (Turns.refl _ _) ?_
                have T3 := T.drew
                generalize wr.drew = w3 at *
                obtain ⟨x0, x1, x2, x3⟩ := LXh.out.turns T3
                have t0 := T3.old (B2.cell 0)
                have t1 := T3.old (B2.cell 1)
                refine flo_read _ rfl (fun K hK => ?_)
                go_simp
                first | (refine hK _ ?_) | (refine ⟨fun W hS => ?_, hK _ ?_⟩; · (have X0 := hS.old x0; have X1 := hS.old x1; have X2 := hS.old x2; have X3 := hS.old x3; have Y0 := hS.old t0; have Y1 := hS.old t1; try go_simp))
                clear hK K
                refine flo_read _ rfl (fun K hK => ?_)
                go_simp
                first | (refine hK _ ?_) | (refine ⟨fun W hS => ?_, hK _ ?_⟩; · (have X0 := hS.old x0; have X1 := hS.old x1; have X2 := hS.old x2; have X3 := hS.old x3; have Y0 := hS.old t0; have Y1 := hS.old t1; try go_simp))
                clear hK K
                refine flo_read _ rfl (fun K hK => ?_)
                go_simp
                first | (refine hK _ ?_) | (refine ⟨fun W hS => ?_, hK _ ?_⟩; · (have X0 := hS.old x0; have X1 := hS.old x1; have X2 := hS.old x2; have X3 := hS.old x3; have Y0 := hS.old t0; have Y1 := hS.old t1; try go_simp))
                clear hK K
                refine flo_read _ rfl (fun K hK => ?_)
                go_simp
                first | (refine hK _ ?_) | (refine ⟨fun W hS => ?_, hK _ ?_⟩; · (have X0 := hS.old x0; have X1 := hS.old x1; have X2 := hS.old x2; have X3 := hS.old x3; have Y0 := hS.old t0; have Y1 := hS.old t1; try go_simp))
                clear hK K
                refine flo_read _ rfl (fun K hK => ?_)
                go_simp
                first | (refine hK _ ?_) | (refine ⟨fun W hS => ?_, hK _ ?_⟩; · (have X0 := hS.old x0; have X1 := hS.old x1; have X2 := hS.old x2; have X3 := hS.old x3; have Y0 := hS.old t0; have Y1 := hS.old t1; try go_simp))
                clear hK K
                refine flo_read _ rfl (fun K hK => ?_)
                go_simp
                first | (refine hK _ ?_) | (refine ⟨fun W hS => ?_, hK _ ?_⟩; · (have X0 := hS.old x0; have X1 := hS.old x1; have X2 := hS.old x2; have X3 := hS.old x3; have Y0 := hS.old t0; have Y1 := hS.old t1; try go_simp))
                clear hK K
                refine flo_read _ rfl (fun K hK => ?_)
                go_simp
                first | (refine hK _ ?_) | (refine ⟨fun W hS => ?_, hK _ ?_⟩; · (have X0 := hS.old x0; have X1 := hS.old x1; have X2 := hS.old x2; have X3 := hS.old x3; have Y0 := hS.old t0; have Y1 := hS.old t1; try go_simp))
                clear hK K
                clear x0 x1 x2 x3 t0 t1
                refine flo_alone _ rfl ?_
                go_wp2_with fail
                go_at_call 51
                refine Calls.mono (hRow.out _ T3) ?_
                rintro e w4 ⟨rfl, t4⟩
                go_wp2_with fail
                refine ⟨fun W => Turns [] w4 W, fun W h => t4.trans h, Turns.refl _ _, ?_⟩
                refine flo_read _ rfl (fun K hK => ?_)
                go_simp
                first | (refine hK _ ?_) | (refine ⟨fun W hS => ?_, hK _ ?_⟩; · (skip; try go_simp))
                clear hK K
                refine flo_end ?_
                have T4 := T3.trans t4
                go_wp2_with fail
                obtain ⟨x0, x1, x2, x3⟩ := LXh.out.turns T4
                clear x1 x2 x3
                have t1 := T4.old (B2.cell 1)
                have z0 := T4.old hyc.out
                go_quiet (fail)
                have T5 := T4.drewN nq
                generalize w4.drewN nq = w5 at *
                clear z0 x0 t1
                go_wp2_with fail
                go_roundw
                case rel => exact ⟨k + 1, by omega, by go_num, by rw [hnxh.out]; exact hpkh.out, T5⟩
                case measure => simp [RowKit.intOf]; omega
              · have g3 : decide (xk ≤ y.key) = true := decide_eq_true (by omega)
                rw [decide_eq_false hr2, Bool.false_and] at hpk
                subst hpk
                clear hk0 ha hnx hr2 LY hy e5 hj hyc0 hzr
                go_wp2_with fail
                clear t0 t1
                go_wp2_with fail
                refine wp_region_flo [(0, true), (1, true), (2, true), (3, true), (4, true), (5, true), (6, true), (7, false), (8, true)] (fun W => Turns [] wr.drew W) (by kernel_rfl) rfl (by kernel_rfl) (by intro c d v a w h; cases d <;> first | (simpa [Exit.then, Exit.inBlock, Act.put] using h) | exact h) (Turns.refl _ _) ?_
                have T3 := T.drew
                generalize wr.drew = w3 at *
                obtain ⟨x0, x1, x2, x3⟩ := LXh.out.turns T3
                have t0 := T3.old (B2.cell 0)
                have t1 := T3.old (B2.cell 1)
                refine flo_read _ rfl (fun K hK => ?_)
                go_simp
                first | (refine hK _ ?_) | (refine ⟨fun W hS => ?_, hK _ ?_⟩; · (have X0 := hS.old x0; have X1 := hS.old x1; have X2 := hS.old x2; have X3 := hS.old x3; have Y0 := hS.old t0; have Y1 := hS.old t1; try go_simp))
                clear hK K
                refine flo_read _ rfl (fun K hK => ?_)
                go_simp
                first | (refine hK _ ?_) | (refine ⟨fun W hS => ?_, hK _ ?_⟩; · (have X0 := hS.old x0; have X1 := hS.old x1; have X2 := hS.old x2; have X3 := hS.old x3; have Y0 := hS.old t0; have Y1 := hS.old t1; try go_simp))
                clear hK K
                refine flo_read _ rfl (fun K hK => ?_)
                go_simp
                first | (refine hK _ ?_) | (refine ⟨fun W hS => ?_, hK _ ?_⟩; · (have X0 := hS.old x0; have X1 := hS.old x1; have X2 := hS.old x2; have X3 := hS.old x3; have Y0 := hS.old t0; have Y1 := hS.old t1; try go_simp))
                clear hK K
                refine flo_read _ rfl (fun K hK => ?_)
                go_simp
                first | (refine hK _ ?_) | (refine ⟨fun W hS => ?_, hK _ ?_⟩; · (have X0 := hS.old x0; have X1 := hS.old x1; have X2 := hS.old x2; have X3 := hS.old x3; have Y0 := hS.old t0; have Y1 := hS.old t1; try go_simp))
                clear hK K
                refine flo_read _ rfl (fun K hK => ?_)
                go_simp
                first | (refine hK _ ?_) | (refine ⟨fun W hS => ?_, hK _ ?_⟩; · (have X0 := hS.old x0; have X1 := hS.old x1; have X2 := hS.old x2; have X3 := hS.old x3; have Y0 := hS.old t0; have Y1 := hS.old t1; try go_simp))
                clear hK K
                refine flo_read _ rfl (fun K hK => ?_)
                go_simp
                first | (refine hK _ ?_) | (refine ⟨fun W hS => ?_, hK _ ?_⟩; · (have X0 := hS.old x0; have X1 := hS.old x1; have X2 := hS.old x2; have X3 := hS.old x3; have Y0 := hS.old t0; have Y1 := hS.old t1; try go_simp))
                clear hK K
                refine flo_read _ rfl (fun K hK => ?_)
                go_simp
                first | (refine hK _ ?_) | (refine ⟨fun W hS => ?_, hK _ ?_⟩; · (have X0 := hS.old x0; have X1 := hS.old x1; have X2 := hS.old x2; have X3 := hS.old x3; have Y0 := hS.old t0; have Y1 := hS.old t1; try go_simp))
                clear hK K
                clear x0 x1 x2 x3 t0 t1
                refine flo_alone _ rfl ?_
                go_wp2_with fail
                go_at_call 51
                refine Calls.mono (hRow.out _ T3) ?_
                rintro e w4 ⟨rfl, t4⟩
                go_wp2_with fail
                refine ⟨fun W => Turns [] w4 W, fun W h => t4.trans h, Turns.refl _ _, ?_⟩
                refine flo_read _ rfl (fun K hK => ?_)
                go_simp
                first | (refine hK _ ?_) | (refine ⟨fun W hS => ?_, hK _ ?_⟩; · (skip; try go_simp))
                clear hK K
                refine flo_end ?_
                have T4 := T3.trans t4
                go_wp2_with fail
                obtain ⟨x0, x1, x2, x3⟩ := LXh.out.turns T4
                clear x1 x2 x3
                have t1 := T4.old (B2.cell 1)
                have z0 := T4.old hyc.out
                go_quiet (fail)
                have T5 := T4.drewN nq
                generalize w4.drewN nq = w5 at *
                have hX := hXh.out false _ rfl (T2.trans T5)
                clear z0 x0 t1
                go_wp2_with fail
                exact hX
        · obtain rfl : k = R.length := by omega
          have g1 : decide ((R.length : Int) < (R.length : Int)) = false := by simp
          rw [List.drop_length] at hpk
          unfold okRows at hpk
          subst hpk
          have hX := hXh.out true _ rfl (T2.trans T)
          go_wp2_with fail
          exact hX
end Go.Proofs.Ytphhfdlhkginkaa.Fd
