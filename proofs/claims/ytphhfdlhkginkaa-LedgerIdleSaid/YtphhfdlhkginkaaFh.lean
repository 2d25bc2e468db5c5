/- annonaref05's sameRow, SameTable, SameToken, none. -/
import Derived.Test.YtphhfdlhkginkaaFg
set_option linter.unusedVariables false
set_option linter.unusedSimpArgs false
set_option maxRecDepth 100000
namespace Go.Proofs.Ytphhfdlhkginkaa.Fh
open Go.RowKit Go.MapKept Hm Hs Hf Hx Hy Hv Fa Ff Fg
/-- as the document asks: field by field, then how many, then each -/
theorem sameRow_no {r s : Row} (h : r.key ≠ s.key ∨ r.avail ≠ s.avail ∨ r.mark ≠ s.mark ∨ r.out ≠ s.out) : decide (r = s) = false := decide_eq_false (by
  rintro rfl
  rcases h with h | h | h | h <;> exact h rfl)
theorem sameRow_yes {r s : Row} (h1 : r.key = s.key) (h2 : r.avail = s.avail) (h3 : r.mark = s.mark) (h4 : r.out = s.out) : decide (r = s) = true := decide_eq_true (by
  obtain ⟨a, b, c, d⟩ := r
  obtain ⟨a', b', c', d'⟩ := s
  simp only at h1 h2 h3 h4
  rw [h1, h2, h3, h4])
theorem bne_no {a b : Int} (h : a = b) : (a != b) = false := by simp [h]
theorem bne_yes {a b : Int} (h : ¬ a = b) : (a != b) = true := by simpa using h
set_option maxHeartbeats 4000000 in
theorem rsameRow_is (w : World) (x y : Rw) (r s : Row) (hx : RowIs w x r) (hy : RowIs w y s) : Calls Try.prog 36 #[x.v, y.v] w fun e w' => e = .returned (.bool (decide (r = s))) ∧ Turns [] w w' := by
  obtain ⟨X, hX⟩ : ∃ X : Ending → World → Prop, X = fun e w' => e = .returned (.bool (decide (r = s))) ∧ Turns [] w w' := ⟨_, rfl⟩
  rw [← hX]
  have hXh : Hid (∀ (b : Bool) (w' : World), decide (r = s) = b → Turns [] w w' → X (.returned (.bool b)) w') := Lib.hid (fun b w' h1 h2 => by rw [hX]; exact ⟨by rw [h1], h2⟩)
  clear hX
  obtain ⟨k1, a1, m1, o1⟩ := hx
  obtain ⟨k2, a2, m2, o2⟩ := hy
  obtain ⟨xk, xa, xm, xo⟩ := x
  obtain ⟨yk, ya, ym, yo⟩ := y
  obtain ⟨A, c, hA, _⟩ := ls_form o1
  obtain ⟨B, d, hB, _⟩ := ls_form o2
  simp only at hA hB k1 a1 m1 k2 a2 m2
  subst hA hB
  unfold Rw.v
  simp only at o1 o2 ⊢
  have T0 := ((Turns.refl [] w).alloc (.cells #[.int .i64 xk, .int .i64 xa, .int .i64 xm, .slice A r.out.length c] 38)).alloc (.cells #[.int .i64 yk, .int .i64 ya, .int .i64 ym, .slice B s.out.length d] 38)
  have o1h := Lib.hid o1
  have o2h := Lib.hid o2
  clear o1 o2
  by_cases h1 : xk = yk
  · have g1 := bne_no h1
    by_cases h2 : xa = ya
    · have g2 := bne_no h2
      by_cases h3 : xm = ym
      · have g3 := bne_no h3
        by_cases h4 : r.out.length = s.out.length
        · have g4 : ((r.out.length : Int) != (s.out.length : Int)) = false := by simp [h4]
          have hl2 := Lib.hid h4
          have hyes : Hid (r.out = s.out → decide (r = s) = true) := Lib.hid (fun h => sameRow_yes (by omega) (by omega) (by omega) h)
          have hno : Hid (r.out ≠ s.out → decide (r = s) = false) := Lib.hid (fun h => sameRow_no (.inr (.inr (.inr h))))
          have B1 := (Blk.new w #[.int .i64 xk, .int .i64 xa, .int .i64 xm, .slice A r.out.length c] 38).alloc (.cells #[.int .i64 yk, .int .i64 ya, .int .i64 ym, .slice B s.out.length d] 38)
          have B2 := Blk.new (w.alloc (.cells #[.int .i64 xk, .int .i64 xa, .int .i64 xm, .slice A r.out.length c] 38)) #[.int .i64 yk, .int .i64 ya, .int .i64 ym, .slice B s.out.length d] 38
          rw [World.size_alloc] at B2
          generalize r.out = l at *
          generalize s.out = m at *
          clear h1 h2 h3 h4 k1 a1 m1 k2 a2 m2
          go_enter Try.func36, Try.ntmps36
          go_wp2_with fail
          generalize (w.alloc (.cells #[.int .i64 xk, .int .i64 xa, .int .i64 xm, .slice A l.length c] 38)).alloc (.cells #[.int .i64 yk, .int .i64 ya, .int .i64 ym, .slice B m.length d] 38) = w1 at *
          go_loopw [5] (fun v5 wr => ∃ (k : Nat), k ≤ l.length ∧ v5 = .int .i64 k ∧ l.take k = m.take k ∧ Turns [] w1 wr) (fun v5 _ => l.length - (RowKit.intOf v5).toNat)
          case atStart => exact ⟨0, Nat.zero_le _, rfl, rfl, Turns.refl _ _⟩
          case round =>
            obtain ⟨k, hk, rfl, htk, T⟩ := hrel
            have p3 := T.old (B1.cell 3)
            have q3 := T.old (B2.cell 3)
            by_cases hlt : k < l.length
            · have g5 : decide ((k : Int) < (l.length : Int)) = true := decide_eq_true (by omega)
              have g5b : decide (k < l.length) = true := decide_eq_true hlt
              have hlt2 : k < m.length := by rw [← hl2.out]; exact hlt
              obtain ⟨x, hx⟩ : ∃ x, l[k]? = some x := ⟨_, List.getElem?_eq_getElem hlt⟩
              obtain ⟨y, hy⟩ : ∃ y, m[k]? = some y := ⟨_, List.getElem?_eq_getElem hlt2⟩
              obtain ⟨ad, c', hv, LX⟩ := ls_at o1h.out hx
              obtain ⟨ad2, c2', hv2, LY⟩ := ls_at o2h.out hy
              injection hv with e1 e2 e3
              injection hv2 with e4 e5 e6
              subst e1 e3 e4 e6
              obtain ⟨i0, i1⟩ := LX.turns (T0.trans T)
              obtain ⟨j0, j1⟩ := LY.turns (T0.trans T)
              have htkh := Lib.hid htk
              have hxh := Lib.hid hx
              have hyh := Lib.hid hy
              clear htk hx hy LX LY e2 e5
              obtain ⟨x1, x2⟩ := x
              obtain ⟨y1, y2⟩ := y
              simp only at i0 i1 j0 j1
              by_cases h1 : x1 = y1
              · subst h1
                by_cases h2 : x2 = y2
                · subst h2
                  go_wp2_with fail
                  go_quiet (fail)
                  go_wp2_with fail
                  go_roundw
                  case rel => exact ⟨k + 1, by omega, by go_num, eq_next htkh.out hxh.out hyh.out, T.drewN _⟩
                  case measure => simp [RowKit.intOf]; omega
                · have g6 : (x2 == y2) = false := by simpa using h2
                  have hne := hno.out (ne_at hxh.out hyh.out (fun e => h2 (Prod.mk.inj e).2))
                  go_wp2_with fail
                  go_quiet (fail)
                  have T2 := T.drewN nq
                  generalize wr.drewN nq = wq at *
                  have hX := hXh.out false _ hne (T0.trans T2)
                  go_wp2_with fail
                  exact hX
              · have g6 : (x1 == y1) = false := by simpa using h1
                have hne := hno.out (ne_at hxh.out hyh.out (fun e => h1 (Prod.mk.inj e).1))
                go_wp2_with fail
                go_quiet (fail)
                have T2 := T.drewN nq
                generalize wr.drewN nq = wq at *
                have hX := hXh.out false _ hne (T0.trans T2)
                go_wp2_with fail
                exact hX
            · obtain rfl : k = l.length := by omega
              have g5 : decide ((l.length : Int) < (l.length : Int)) = false := by simp
              have hX := hXh.out true _ (hyes.out (eq_full htk hl2.out)) (T0.trans T)
              clear htk
              go_wp2_with fail
              exact hX
        · have g4 : ((r.out.length : Int) != (s.out.length : Int)) = true := by simp; omega
          have hX := hXh.out false _ (sameRow_no (.inr (.inr (.inr (ne_len h4))))) T0
          clear h1 h2 h3 h4 k1 a1 m1 k2 a2 m2
          go_enter Try.func36, Try.ntmps36
          go_wp2_with fail
          exact hX
      · have g3 := bne_yes h3
        have hX := hXh.out false _ (sameRow_no (.inr (.inr (.inl (by omega))))) T0
        clear h1 h2 h3 k1 a1 m1 k2 a2 m2
        go_enter Try.func36, Try.ntmps36
        go_wp2_with fail
        exact hX
    · have g2 := bne_yes h2
      have hX := hXh.out false _ (sameRow_no (.inr (.inl (by omega)))) T0
      clear h1 h2 k1 a1 m1 k2 a2 m2
      go_enter Try.func36, Try.ntmps36
      go_wp2_with fail
      exact hX
  · have g1 := bne_yes h1
    have hX := hXh.out false _ (sameRow_no (.inl (by omega))) T0
    clear h1 k1 a1 m1 k2 a2 m2
    go_enter Try.func36, Try.ntmps36
    go_wp2_with fail
    exact hX
set_option maxHeartbeats 4000000 in
theorem rsameTable_is (w : World) (s t : Int) (v u : Value) (R S : List Row) (hv : RT w v R) (hu : RT w u S) : Calls Try.prog 10 #[.agg #[.int .i64 s, v], .agg #[.int .i64 t, u]] w fun e w' => e = .returned (.bool (sameTB s t R S)) ∧ Turns [] w w' := by
  unfold sameTB
  have T0 := ((Turns.refl [] w).alloc (.cells #[.int .i64 s, v] 24)).alloc (.cells #[.int .i64 t, u] 24)
  have hv0 := Lib.hid (hv.turns T0)
  have hu0 := Lib.hid (hu.turns T0)
  obtain ⟨A, c, rfl, _⟩ := hv.form
  obtain ⟨B, d, rfl, _⟩ := hu.form
  clear hv hu
  obtain ⟨X, hX⟩ : ∃ X : Ending → World → Prop, X = fun e w' => e = .returned (.bool ((s == t) && decide (R = S))) ∧ Turns [] w w' := ⟨_, rfl⟩
  rw [← hX]
  have hXh : Hid (∀ (b : Bool) (w' : World), ((s == t) && decide (R = S)) = b → Turns [] w w' → X (.returned (.bool b)) w') := Lib.hid (fun b w' h1 h2 => by rw [hX]; exact ⟨by rw [h1], h2⟩)
  clear hX
  by_cases h1 : s = t
  · have g1 := bne_no h1
    have g1b : (s == t) = true := by simpa using h1
    rw [g1b] at hXh
    simp only [Bool.true_and] at hXh
    by_cases hlen : R.length = S.length
    · have g0 : ((R.length : Int) != (S.length : Int)) = false := by simp [hlen]
      have hl2 := Lib.hid hlen
      have B1 := (Blk.new w #[.int .i64 s, .slice A R.length c] 24).alloc (.cells #[.int .i64 t, .slice B S.length d] 24)
      have B2 := Blk.new (w.alloc (.cells #[.int .i64 s, .slice A R.length c] 24)) #[.int .i64 t, .slice B S.length d] 24
      rw [World.size_alloc] at B2
      clear hlen h1
      go_enter Try.func10, Try.ntmps10
      go_wp2_with fail
      generalize (w.alloc (.cells #[.int .i64 s, .slice A R.length c] 24)).alloc (.cells #[.int .i64 t, .slice B S.length d] 24) = w1 at *
      go_loopw [5] (fun v5 wr => ∃ (k : Nat), k ≤ R.length ∧ v5 = .int .i64 k ∧ R.take k = S.take k ∧ Turns [] w1 wr) (fun v5 _ => R.length - (RowKit.intOf v5).toNat)
      case atStart => exact ⟨0, Nat.zero_le _, rfl, rfl, Turns.refl _ _⟩
      case round =>
        obtain ⟨k, hk, rfl, htk, T⟩ := hrel
        have p1 := T.old (B1.cell 1)
        have q1 := T.old (B2.cell 1)
        by_cases hlt : k < R.length
        · have g5 : decide ((k : Int) < (R.length : Int)) = true := decide_eq_true (by omega)
          have g5b : decide (k < R.length) = true := decide_eq_true hlt
          have hlt2 : k < S.length := by rw [← hl2.out]; exact hlt
          obtain ⟨r, hx⟩ : ∃ x, R[k]? = some x := ⟨_, List.getElem?_eq_getElem hlt⟩
          obtain ⟨s', hy⟩ : ∃ y, S[k]? = some y := ⟨_, List.getElem?_eq_getElem hlt2⟩
          obtain ⟨ad, c', x, hv, hxr, LX⟩ := hv0.out.at_ hx
          obtain ⟨ad2, c2', y, hv2, hyr, LY⟩ := hu0.out.at_ hy
          injection hv with e1 e2 e3
          injection hv2 with e4 e5 e6
          subst e1 e3 e4 e6
          have E := Lib.hid (fun W (t : Turns [] w1 W) => rsameRow_is W x y r s' (hxr.turns t) (hyr.turns t))
          have LXh := Lib.hid LX
          have LYh := Lib.hid LY
          obtain ⟨xk, xa, xm, xo⟩ := x
          obtain ⟨yk, ya, ym, yo⟩ := y
          obtain ⟨Ax, cx, hAx, _⟩ := ls_form hxr.out
          obtain ⟨Ay, cy, hAy, _⟩ := ls_form hyr.out
          simp only at hAx hAy
          subst hAx hAy
          unfold Rw.v at E
          simp only at E
          have htkh := Lib.hid htk
          have hxh := Lib.hid hx
          have hyh := Lib.hid hy
          clear htk hx hy LX LY hxr hyr e2 e5
          by_cases hrs : r = s'
          · rw [decide_eq_true hrs] at E
            have hrsh := Lib.hid hrs
            clear hrs
            go_wp2_with fail
            clear p1 q1
            go_wp2_with fail
            refine wp_region_flo [(0, true), (1, true), (2, true), (3, true), (4, true), (5, true), (6, true), (7, true), (8, true), (9, true), (10, false), (11, true)] (fun W => Turns [] wr.drew W) (by kernel_rfl) rfl (by kernel_rfl) (by intro c d v a w h; cases d <;> first | (simpa [Exit.then, Exit.inBlock, Act.put] using h) | exact h) (Turns.refl _ _) ?_
            have T3 := T.drew
            generalize wr.drew = w3 at *
            obtain ⟨i0, i1, i2, i3⟩ := LXh.out.turns T3
            obtain ⟨j0, j1, j2, j3⟩ := LYh.out.turns T3
            have p1 := T3.old (B1.cell 1)
            have q1 := T3.old (B2.cell 1)
            refine flo_read _ rfl (fun K hK => ?_)
            go_simp
            first | (refine hK _ ?_) | (refine ⟨fun W hS => ?_, hK _ ?_⟩; · (have X0 := hS.old i0; have X1 := hS.old i1; have X2 := hS.old i2; have X3 := hS.old i3; have Y0 := hS.old j0; have Y1 := hS.old j1; have Y2 := hS.old j2; have Y3 := hS.old j3; have P1 := hS.old p1; have Q1 := hS.old q1; try go_simp))
            clear hK K
            refine flo_read _ rfl (fun K hK => ?_)
            go_simp
            first | (refine hK _ ?_) | (refine ⟨fun W hS => ?_, hK _ ?_⟩; · (have X0 := hS.old i0; have X1 := hS.old i1; have X2 := hS.old i2; have X3 := hS.old i3; have Y0 := hS.old j0; have Y1 := hS.old j1; have Y2 := hS.old j2; have Y3 := hS.old j3; have P1 := hS.old p1; have Q1 := hS.old q1; try go_simp))
            clear hK K
            refine flo_read _ rfl (fun K hK => ?_)
            go_simp
            first | (refine hK _ ?_) | (refine ⟨fun W hS => ?_, hK _ ?_⟩; · (have X0 := hS.old i0; have X1 := hS.old i1; have X2 := hS.old i2; have X3 := hS.old i3; have Y0 := hS.old j0; have Y1 := hS.old j1; have Y2 := hS.old j2; have Y3 := hS.old j3; have P1 := hS.old p1; have Q1 := hS.old q1; try go_simp))
            clear hK K
            refine flo_read _ rfl (fun K hK => ?_)
            go_simp
            first | (refine hK _ ?_) | (refine ⟨fun W hS => ?_, hK _ ?_⟩; · (have X0 := hS.old i0; have X1 := hS.old i1; have X2 := hS.old i2; have X3 := hS.old i3; have Y0 := hS.old j0; have Y1 := hS.old j1; have Y2 := hS.old j2; have Y3 := hS.old j3; have P1 := hS.old p1; have Q1 := hS.old q1; try go_simp))
            clear hK K
            refine flo_read _ rfl (fun K hK => ?_)
            go_simp
            first | (refine hK _ ?_) | (refine ⟨fun W hS => ?_, hK _ ?_⟩; · (have X0 := hS.old i0; have X1 := hS.old i1; have X2 := hS.old i2; have X3 := hS.old i3; have Y0 := hS.old j0; have Y1 := hS.old j1; have Y2 := hS.old j2; have Y3 := hS.old j3; have P1 := hS.old p1; have Q1 := hS.old q1; try go_simp))
            clear hK K
            refine flo_read _ rfl (fun K hK => ?_)
            go_simp
            first | (refine hK _ ?_) | (refine ⟨fun W hS => ?_, hK _ ?_⟩; · (have X0 := hS.old i0; have X1 := hS.old i1; have X2 := hS.old i2; have X3 := hS.old i3; have Y0 := hS.old j0; have Y1 := hS.old j1; have Y2 := hS.old j2; have Y3 := hS.old j3; have P1 := hS.old p1; have Q1 := hS.old q1; try go_simp))
            clear hK K
            refine flo_read _ rfl (fun K hK => ?_)
            go_simp
            first | (refine hK _ ?_) | (refine ⟨fun W hS => ?_, hK _ ?_⟩; · (have X0 := hS.old i0; have X1 := hS.old i1; have X2 := hS.old i2; have X3 := hS.old i3; have Y0 := hS.old j0; have Y1 := hS.old j1; have Y2 := hS.old j2; have Y3 := hS.old j3; have P1 := hS.old p1; have Q1 := hS.old q1; try go_simp))
            clear hK K
            refine flo_read _ rfl (fun K hK => ?_)
            go_simp
            first | (refine hK _ ?_) | (refine ⟨fun W hS => ?_, hK _ ?_⟩; · (have X0 := hS.old i0; have X1 := hS.old i1; have X2 := hS.old i2; have X3 := hS.old i3; have Y0 := hS.old j0; have Y1 := hS.old j1; have Y2 := hS.old j2; have Y3 := hS.old j3; have P1 := hS.old p1; have Q1 := hS.old q1; try go_simp))
            clear hK K
            refine flo_read _ rfl (fun K hK => ?_)
            go_simp
            first | (refine hK _ ?_) | (refine ⟨fun W hS => ?_, hK _ ?_⟩; · (have X0 := hS.old i0; have X1 := hS.old i1; have X2 := hS.old i2; have X3 := hS.old i3; have Y0 := hS.old j0; have Y1 := hS.old j1; have Y2 := hS.old j2; have Y3 := hS.old j3; have P1 := hS.old p1; have Q1 := hS.old q1; try go_simp))
            clear hK K
            refine flo_read _ rfl (fun K hK => ?_)
            go_simp
            first | (refine hK _ ?_) | (refine ⟨fun W hS => ?_, hK _ ?_⟩; · (have X0 := hS.old i0; have X1 := hS.old i1; have X2 := hS.old i2; have X3 := hS.old i3; have Y0 := hS.old j0; have Y1 := hS.old j1; have Y2 := hS.old j2; have Y3 := hS.old j3; have P1 := hS.old p1; have Q1 := hS.old q1; try go_simp))
            clear hK K
            clear i0 i1 i2 i3 j0 j1 j2 j3 p1 q1
            refine flo_alone _ rfl ?_
            go_wp2_with fail
            go_at_call 36
            refine Calls.mono (E.out _ T3) ?_
            rintro e w4 ⟨rfl, t4⟩
            go_wp2_with fail
            refine ⟨fun W => Turns [] w4 W, fun W h => t4.trans h, Turns.refl _ _, ?_⟩
            refine flo_read _ rfl (fun K hK => ?_)
            go_simp
            first | (refine hK _ ?_) | (refine ⟨fun W hS => ?_, hK _ ?_⟩; · (skip; try go_simp))
            clear hK K
            refine flo_end ?_
            go_wp2_with fail
            go_roundw
            case rel => exact ⟨k + 1, by omega, by go_num, eq_next htkh.out hxh.out (by rw [hrsh.out]; exact hyh.out), T3.trans t4⟩
            case measure => simp [RowKit.intOf]; omega
          · rw [decide_eq_false hrs] at E
            have hne := Lib.hid (decide_eq_false (ne_at hxh.out hyh.out hrs))
            clear hrs
            go_wp2_with fail
            clear p1 q1
            go_wp2_with fail
            refine wp_region_flo [(0, true), (1, true), (2, true), (3, true), (4, true), (5, true), (6, true), (7, true), (8, true), (9, true), (10, false), (11, true)] (fun W => Turns [] wr.drew W) (by kernel_rfl) rfl (by kernel_rfl) (by intro c d v a w h; cases d <;> first | (simpa [Exit.then, Exit.inBlock, Act.put] using h) | exact h) (Turns.refl _ _) ?_
            have T3 := T.drew
            generalize wr.drew = w3 at *
            obtain ⟨i0, i1, i2, i3⟩ := LXh.out.turns T3
            obtain ⟨j0, j1, j2, j3⟩ := LYh.out.turns T3
            have p1 := T3.old (B1.cell 1)
            have q1 := T3.old (B2.cell 1)
            refine flo_read _ rfl (fun K hK => ?_)
            go_simp
            first | (refine hK _ ?_) | (refine ⟨fun W hS => ?_, hK _ ?_⟩; · (have X0 := hS.old i0; have X1 := hS.old i1; have X2 := hS.old i2; have X3 := hS.old i3; have Y0 := hS.old j0; have Y1 := hS.old j1; have Y2 := hS.old j2; have Y3 := hS.old j3; have P1 := hS.old p1; have Q1 := hS.old q1; try go_simp))
            clear hK K
            refine flo_read _ rfl (fun K hK => ?_)
            go_simp
            first | (refine hK _ ?_) | (refine ⟨fun W hS => ?_, hK _ ?_⟩; · (have X0 := hS.old i0; have X1 := hS.old i1; have X2 := hS.old i2; have X3 := hS.old i3; have Y0 := hS.old j0; have Y1 := hS.old j1; have Y2 := hS.old j2; have Y3 := hS.old j3; have P1 := hS.old p1; have Q1 := hS.old q1; try go_simp))
            clear hK K
            refine flo_read _ rfl (fun K hK => ?_)
            go_simp
            first | (refine hK _ ?_) | (refine ⟨fun W hS => ?_, hK _ ?_⟩; · (have X0 := hS.old i0; have X1 := hS.old i1; have X2 := hS.old i2; have X3 := hS.old i3; have Y0 := hS.old j0; have Y1 := hS.old j1; have Y2 := hS.old j2; have Y3 := hS.old j3; have P1 := hS.old p1; have Q1 := hS.old q1; try go_simp))
            clear hK K
            refine flo_read _ rfl (fun K hK => ?_)
            go_simp
            first | (refine hK _ ?_) | (refine ⟨fun W hS => ?_, hK _ ?_⟩; · (have X0 := hS.old i0; have X1 := hS.old i1; have X2 := hS.old i2; have X3 := hS.old i3; have Y0 := hS.old j0; have Y1 := hS.old j1; have Y2 := hS.old j2; have Y3 := hS.old j3; have P1 := hS.old p1; have Q1 := hS.old q1; try go_simp))
            clear hK K
            refine flo_read _ rfl (fun K hK => ?_)
            go_simp
            first | (refine hK _ ?_) | (refine ⟨fun W hS => ?_, hK _ ?_⟩; · (have X0 := hS.old i0; have X1 := hS.old i1; have X2 := hS.old i2; have X3 := hS.old i3; have Y0 := hS.old j0; have Y1 := hS.old j1; have Y2 := hS.old j2; have Y3 := hS.old j3; have P1 := hS.old p1; have Q1 := hS.old q1; try go_simp))
            clear hK K
            refine flo_read _ rfl (fun K hK => ?_)
            go_simp
            first | (refine hK _ ?_) | (refine ⟨fun W hS => ?_, hK _ ?_⟩; · (have X0 := hS.old i0; have X1 := hS.old i1; have X2 := hS.old i2; have X3 := hS.old i3; have Y0 := hS.old j0; have Y1 := hS.old j1; have Y2 := hS.old j2; have Y3 := hS.old j3; have P1 := hS.old p1; have Q1 := hS.old q1; try go_simp))
            clear hK K
            refine flo_read _ rfl (fun K hK => ?_)
            go_simp
            first | (refine hK _ ?_) | (refine ⟨fun W hS => ?_, hK _ ?_⟩; · (have X0 := hS.old i0; have X1 := hS.old i1; have X2 := hS.old i2; have X3 := hS.old i3; have Y0 := hS.old j0; have Y1 := hS.old j1; have Y2 := hS.old j2; have Y3 := hS.old j3; have P1 := hS.old p1; have Q1 := hS.old q1; try go_simp))
            clear hK K
            refine flo_read _ rfl (fun K hK => ?_)
            go_simp
            first | (refine hK _ ?_) | (refine ⟨fun W hS => ?_, hK _ ?_⟩; · (have X0 := hS.old i0; have X1 := hS.old i1; have X2 := hS.old i2; have X3 := hS.old i3; have Y0 := hS.old j0; have Y1 := hS.old j1; have Y2 := hS.old j2; have Y3 := hS.old j3; have P1 := hS.old p1; have Q1 := hS.old q1; try go_simp))
            clear hK K
            refine flo_read _ rfl (fun K hK => ?_)
            go_simp
            first | (refine hK _ ?_) | (refine ⟨fun W hS => ?_, hK _ ?_⟩; · (have X0 := hS.old i0; have X1 := hS.old i1; have X2 := hS.old i2; have X3 := hS.old i3; have Y0 := hS.old j0; have Y1 := hS.old j1; have Y2 := hS.old j2; have Y3 := hS.old j3; have P1 := hS.old p1; have Q1 := hS.old q1; try go_simp))
            clear hK K
            refine flo_read _ rfl (fun K hK => ?_)
            go_simp
            first | (refine hK _ ?_) | (refine ⟨fun W hS => ?_, hK _ ?_⟩; · (have X0 := hS.old i0; have X1 := hS.old i1; have X2 := hS.old i2; have X3 := hS.old i3; have Y0 := hS.old j0; have Y1 := hS.old j1; have Y2 := hS.old j2; have Y3 := hS.old j3; have P1 := hS.old p1; have Q1 := hS.old q1; try go_simp))
            clear hK K
            clear i0 i1 i2 i3 j0 j1 j2 j3 p1 q1
            refine flo_alone _ rfl ?_
            go_wp2_with fail
            go_at_call 36
            refine Calls.mono (E.out _ T3) ?_
            rintro e w4 ⟨rfl, t4⟩
            go_wp2_with fail
            refine ⟨fun W => Turns [] w4 W, fun W h => t4.trans h, Turns.refl _ _, ?_⟩
            refine flo_read _ rfl (fun K hK => ?_)
            go_simp
            first | (refine hK _ ?_) | (refine ⟨fun W hS => ?_, hK _ ?_⟩; · (skip; try go_simp))
            clear hK K
            refine flo_end ?_
            have hX := hXh.out false _ hne.out (T0.trans (T3.trans t4))
            go_wp2_with fail
            exact hX
        · obtain rfl : k = R.length := by omega
          have g5 : decide ((R.length : Int) < (R.length : Int)) = false := by simp
          have hX := hXh.out true _ (decide_eq_true (eq_full htk hl2.out)) (T0.trans T)
          clear htk
          go_wp2_with fail
          exact hX
    · have g0 : ((R.length : Int) != (S.length : Int)) = true := by simp; omega
      have hX := hXh.out false _ (decide_eq_false (ne_len hlen)) T0
      clear hlen h1
      go_enter Try.func10, Try.ntmps10
      go_wp2_with fail
      exact hX
  · have g1 := bne_yes h1
    have hX := hXh.out false _ (by rw [beq_no h1]; rfl) T0
    clear h1
    go_enter Try.func10, Try.ntmps10
    go_wp2_with fail
    exact hX
end Go.Proofs.Ytphhfdlhkginkaa.Fh
