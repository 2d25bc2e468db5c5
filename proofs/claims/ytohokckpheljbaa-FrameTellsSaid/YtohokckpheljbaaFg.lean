/- frame's sameRow, SameTable, SameToken, none. -/
import Derived.Test.YtohokckpheljbaaFf
set_option linter.unusedVariables false
set_option linter.unusedSimpArgs false
set_option maxRecDepth 100000
namespace Go.Proofs.Ytohokckpheljbaa.Fg
open Go.RowKit Go.MapKept Hm Hs Hf Hx Hy Hv Fa Ff
theorem beq_no {a b : Int} (h : ¬ a = b) : (a == b) = false := by simpa using h
theorem sameRow_is (w : World) (x y : Rw) (r s : Row) (hx : RowIs w x r) (hy : RowIs w y s) : Calls Try.prog 70 #[x.v, y.v] w fun e w' => e = .returned (.bool (decide (r = s))) ∧ Turns [] w w' := by
  rw [← sameB_eq]
  unfold sameB
  obtain ⟨k1, a1, m1, o1⟩ := hx
  obtain ⟨k2, a2, m2, o2⟩ := hy
  rw [← k1, ← a1, ← m1, ← k2, ← a2, ← m2]
  obtain ⟨xk, xa, xm, xo⟩ := x
  obtain ⟨yk, ya, ym, yo⟩ := y
  obtain ⟨A, c, hA, _⟩ := ls_form o1
  obtain ⟨B, d, hB, _⟩ := ls_form o2
  simp only at hA hB
  subst hA hB
  unfold Rw.v
  simp only at o1 o2 ⊢
  have T0 := ((Turns.refl [] w).alloc (.cells #[.int .i64 xk, .int .i64 xa, .int .i64 xm, .slice A r.out.length c] 86)).alloc (.cells #[.int .i64 yk, .int .i64 ya, .int .i64 ym, .slice B s.out.length d] 86)
  have E := Lib.hid (equalL_is _ _ _ _ _ (o1.mv (fun a u => T0.old)) (o2.mv (fun a u => T0.old)))
  generalize decide (r.out = s.out) = q at *
  clear k1 a1 m1 k2 a2 m2 o1 o2
  by_cases h1 : xk = yk
  · have g1 : (xk == yk) = true := by simpa using h1
    by_cases h2 : xa = ya
    · have g2 : (xa == ya) = true := by simpa using h2
      by_cases h3 : xm = ym
      · have g3 : (xm == ym) = true := by simpa using h3
        rw [g1, g2, g3]
        clear h1 h2 h3
        go_enter Try.func70, Try.ntmps70
        go_wp2_with fail
        go_at_call 88
        refine Calls.mono (E.out) ?_
        rintro e w2 ⟨rfl, t2⟩
        go_wp2_with fail
        go_ret
        exact ⟨rfl, T0.trans t2⟩
      · have g3 := beq_no h3
        rw [g1, g2, g3]
        clear h1 h2 h3
        go_enter Try.func70, Try.ntmps70
        go_wp2_with fail
        go_ret
        exact ⟨rfl, T0⟩
    · have g2 := beq_no h2
      rw [g1, g2]
      clear h1 h2
      go_enter Try.func70, Try.ntmps70
      go_wp2_with fail
      go_ret
      exact ⟨rfl, T0⟩
  · have g1 := beq_no h1
    rw [g1]
    clear h1
    go_enter Try.func70, Try.ntmps70
    go_wp2_with fail
    go_ret
    exact ⟨rfl, T0⟩
set_option maxHeartbeats 2000000 in
theorem equalR_is (w : World) (v u : Value) (R S : List Row) (hv : RT w v R) (hu : RT w u S) : Calls Try.prog 69 #[v, u, .func (.func 70) #[] #[]] w fun e w' => e = .returned (.bool (decide (R = S))) ∧ Turns [] w w' := by
  have hv0 := Lib.hid hv
  have hu0 := Lib.hid hu
  obtain ⟨A, c, rfl, hc, hcm⟩ := hv.form
  obtain ⟨B, c2, rfl, hc2, hcm2⟩ := hu.form
  clear hv hu
  by_cases hlen : R.length = S.length
  · have g0 : ((R.length : Int) != (S.length : Int)) = false := by simp [hlen]
    have hl2 := Lib.hid hlen
    clear hlen
    go_enter Try.func69, Try.ntmps69
    go_wp2_with fail
    go_loopw [17] (fun v17 wr => ∃ (k : Nat), k ≤ R.length ∧ v17 = .int .i64 k ∧ R.take k = S.take k ∧ Turns [] w wr) (fun v17 _ => R.length - (RowKit.intOf v17).toNat)
    case atStart => exact ⟨0, Nat.zero_le _, rfl, rfl, Turns.refl _ _⟩
    case round =>
      obtain ⟨k, hk, rfl, htk, T⟩ := hrel
      by_cases hlt : k < R.length
      · have g1 : decide ((k : Int) < (R.length : Int)) = true := decide_eq_true (by omega)
        have g1b : decide (k < R.length) = true := decide_eq_true hlt
        have hlt2 : k < S.length := by rw [← hl2.out]; exact hlt
        obtain ⟨r, hx⟩ : ∃ x, R[k]? = some x := ⟨_, List.getElem?_eq_getElem hlt⟩
        obtain ⟨s, hy⟩ : ∃ y, S[k]? = some y := ⟨_, List.getElem?_eq_getElem hlt2⟩
        obtain ⟨ad, c', x, hv, hxr, LX⟩ := hv0.out.at_ hx
        obtain ⟨ad2, c2', y, hv2, hyr, LY⟩ := hu0.out.at_ hy
        injection hv with e1 e2 e3
        injection hv2 with e4 e5 e6
        subst e1 e3 e4 e6
        have T2 := (T.alloc (.cells #[.int .i64 x.key, .int .i64 x.avail, .int .i64 x.mark, x.out] 86)).alloc (.cells #[.int .i64 y.key, .int .i64 y.avail, .int .i64 y.mark, y.out] 86)
        have E := Lib.hid (sameRow_is _ x y r s (hxr.turns T2) (hyr.turns T2))
        obtain ⟨i0, i1, i2, i3⟩ := LX.turns T
        have TA := (T.alloc (.cells #[.int .i64 x.key, .int .i64 x.avail, .int .i64 x.mark, x.out] 86))
        obtain ⟨j0, j1, j2, j3⟩ := LY.turns TA
        obtain ⟨xk, xa, xm, xo⟩ := x
        obtain ⟨yk, ya, ym, yo⟩ := y
        obtain ⟨Ax, cx, hAx, _⟩ := ls_form hxr.out
        obtain ⟨Ay, cy, hAy, _⟩ := ls_form hyr.out
        simp only at hAx hAy i0 i1 i2 i3 j0 j1 j2 j3 T2
        subst hAx hAy
        unfold Rw.v at E
        simp only at E
        have htkh := Lib.hid htk
        have hxh := Lib.hid hx
        have hyh := Lib.hid hy
        clear htk hx hy LX LY hxr hyr e2 e5 TA
        by_cases hrs : r = s
        · rw [decide_eq_true hrs] at E
          have hrsh := Lib.hid hrs
          clear hrs
          go_wp2_with fail
          go_at_call 70
          refine Calls.mono (E.out) ?_
          rintro e w3 ⟨rfl, t3⟩
          go_wp2_with fail
          go_roundw
          case rel => exact ⟨k + 1, by omega, by go_num, eq_next htkh.out hxh.out (by rw [hrsh.out]; exact hyh.out), T2.trans t3⟩
          case measure => simp [RowKit.intOf]; omega
        · rw [decide_eq_false hrs] at E
          have hne := decide_eq_false (ne_at hxh.out hyh.out hrs)
          clear hrs
          go_wp2_with fail
          go_at_call 70
          refine Calls.mono (E.out) ?_
          rintro e w3 ⟨rfl, t3⟩
          go_wp2_with fail
          go_ret
          exact ⟨by rw [hne]; rfl, T2.trans t3⟩
      · obtain rfl : k = R.length := by omega
        have g1 : decide ((R.length : Int) < (R.length : Int)) = false := by simp
        have heq := decide_eq_true (eq_full htk hl2.out)
        clear htk
        go_wp2_with fail
        go_ret
        exact ⟨by rw [heq]; rfl, T⟩
  · have g0 : ((R.length : Int) != (S.length : Int)) = true := by simp; omega
    have hne := decide_eq_false (ne_len hlen)
    clear hlen
    go_enter Try.func69, Try.ntmps69
    go_wp2_with fail
    go_ret
    exact ⟨by rw [hne]; rfl, Turns.refl _ _⟩
def sameTB (s t : Int) (R S : List Row) : Bool := (s == t) && decide (R = S)
theorem sameTable_is (w : World) (s t : Int) (v u : Value) (R S : List Row) (hv : RT w v R) (hu : RT w u S) : Calls Try.prog 31 #[.agg #[.int .i64 s, v], .agg #[.int .i64 t, u]] w fun e w' => e = .returned (.bool (sameTB s t R S)) ∧ Turns [] w w' := by
  unfold sameTB
  have T0 := ((Turns.refl [] w).alloc (.cells #[.int .i64 s, v] 37)).alloc (.cells #[.int .i64 t, u] 37)
  have E := Lib.hid (equalR_is _ _ _ _ _ (hv.turns T0) (hu.turns T0))
  obtain ⟨A, c, rfl, _⟩ := hv.form
  obtain ⟨B, d, rfl, _⟩ := hu.form
  generalize decide (R = S) = q at *
  clear hv hu
  by_cases h1 : s = t
  · have g1 : (s == t) = true := by simpa using h1
    rw [g1]
    clear h1
    go_enter Try.func31, Try.ntmps31
    go_wp2_with fail
    go_at_call 69
    refine Calls.mono (E.out) ?_
    rintro e w2 ⟨rfl, t2⟩
    go_wp2_with fail
    go_ret
    exact ⟨rfl, T0.trans t2⟩
  · have g1 := beq_no h1
    rw [g1]
    clear h1
    go_enter Try.func31, Try.ntmps31
    go_wp2_with fail
    go_ret
    exact ⟨rfl, T0⟩
/-- a token in memory -/
def tkv (t : Tok) (sv rv : Value) : Value := .agg #[.int .i64 t.gen, .int .i64 t.hop, sv, .int .i64 t.start, rv]
structure TokR (w : World) (t : Tok) (sv rv : Value) : Prop where
  st : RdS 1 w sv (ins t.st)
  rows : RT w rv t.rows
theorem TokR.turns {w w' : World} {t : Tok} {sv rv : Value} (h : TokR w t sv rv) (T : Turns [] w w') : TokR w' t sv rv := ⟨h.st.mv (fun a u => T.old), h.rows.turns T⟩
def sameKB (s t : Tok) : Bool := (s.gen == t.gen) && ((s.hop == t.hop) && (decide (s.st = t.st) && sameTB s.start t.start s.rows t.rows))
theorem sameKB_eq (s t : Tok) : sameKB s t = decide (s = t) := by
  obtain ⟨a, b, c, d, e⟩ := s
  obtain ⟨a', b', c', d', e'⟩ := t
  unfold sameKB sameTB
  by_cases h1 : a = a' <;> by_cases h2 : b = b' <;> by_cases h3 : c = c' <;> by_cases h4 : d = d' <;> by_cases h5 : e = e' <;> simp [h1, h2, h3, h4, h5]
set_option maxHeartbeats 2000000 in
theorem sameToken_is (w : World) (s t : Tok) (sv rv sv2 rv2 : Value) (hs : TokR w s sv rv) (ht : TokR w t sv2 rv2) : Calls Try.prog 29 #[tkv s sv rv, tkv t sv2 rv2] w fun e w' => e = .returned (.bool (decide (s = t))) ∧ Turns [] w w' := by
  rw [← sameKB_eq]
  unfold sameKB
  have T0 := ((Turns.refl [] w).alloc (.cells #[.int .i64 s.gen, .int .i64 s.hop, sv, .int .i64 s.start, rv] 39)).alloc (.cells #[.int .i64 t.gen, .int .i64 t.hop, sv2, .int .i64 t.start, rv2] 39)
  have B1 := (Blk.new w #[.int .i64 s.gen, .int .i64 s.hop, sv, .int .i64 s.start, rv] 39).alloc (.cells #[.int .i64 t.gen, .int .i64 t.hop, sv2, .int .i64 t.start, rv2] 39)
  have B2 := Blk.new (w.alloc (.cells #[.int .i64 s.gen, .int .i64 s.hop, sv, .int .i64 s.start, rv] 39)) #[.int .i64 t.gen, .int .i64 t.hop, sv2, .int .i64 t.start, rv2] 39
  have E := Lib.hid (equalI_is _ _ _ _ _ (hs.turns T0).st (ht.turns T0).st)
  have F := Lib.hid (fun W (T : Turns [] w W) => sameTable_is W s.start t.start rv rv2 s.rows t.rows (hs.turns T).rows (ht.turns T).rows)
  obtain ⟨A1, c1, rfl, _⟩ := rform hs.st
  obtain ⟨A2, c2, rfl, _⟩ := rform ht.st
  obtain ⟨A3, c3, rfl, _⟩ := hs.rows.form
  obtain ⟨A4, c4, rfl, _⟩ := ht.rows.form
  generalize decide (s.st = t.st) = q at *
  generalize sameTB s.start t.start s.rows t.rows = q2 at *
  rw [World.size_alloc] at B2
  unfold tkv
  clear hs ht
  by_cases h1 : s.gen = t.gen
  · have g1 : (s.gen == t.gen) = true := by simpa using h1
    by_cases h2 : s.hop = t.hop
    · have g2 : (s.hop == t.hop) = true := by simpa using h2
      rw [g1, g2]
      clear h1 h2
      cases q with
      | true =>
        go_enter Try.func29, Try.ntmps29
        go_wp2_with fail
        go_at_call 67
        refine Calls.mono (E.out) ?_
        rintro e w2 ⟨rfl, t2⟩
        have T2 := T0.trans t2
        have x3 : World.cell? (w2) ⟨w.heap.size, 3, none⟩ = some _ := (B1.turns t2 (by simp)).cell 3
        have x4 : World.cell? (w2) ⟨w.heap.size, 4, none⟩ = some _ := (B1.turns t2 (by simp)).cell 4
        have y3 : World.cell? (w2) ⟨w.heap.size + 1, 3, none⟩ = some _ := (B2.turns t2 (by simp)).cell 3
        have y4 : World.cell? (w2) ⟨w.heap.size + 1, 4, none⟩ = some _ := (B2.turns t2 (by simp)).cell 4
        go_wp2_with fail
        go_at_call 31
        refine Calls.mono (F.out _ T2) ?_
        rintro e w3 ⟨rfl, t3⟩
        go_wp2_with fail
        go_ret
        exact ⟨rfl, T2.trans t3⟩
      | false =>
        go_enter Try.func29, Try.ntmps29
        go_wp2_with fail
        go_at_call 67
        refine Calls.mono (E.out) ?_
        rintro e w2 ⟨rfl, t2⟩
        go_wp2_with fail
        go_ret
        exact ⟨rfl, T0.trans t2⟩
    · have g2 := beq_no h2
      rw [g1, g2]
      clear h1 h2
      go_enter Try.func29, Try.ntmps29
      go_wp2_with fail
      go_ret
      exact ⟨rfl, T0⟩
  · have g1 := beq_no h1
    rw [g1]
    clear h1
    go_enter Try.func29, Try.ntmps29
    go_wp2_with fail
    go_ret
    exact ⟨rfl, T0⟩
/-- nothing -/
def Tok.zero : Tok := ⟨0, 0, [], 0, []⟩
theorem TokR.zero (w : World) : TokR w Tok.zero (.slice none 0 0) (.slice none 0 0) := ⟨RdS.nil 1 w, RT.nil w⟩
theorem none_is (w : World) (t : Tok) (sv rv : Value) (h : TokR w t sv rv) : Calls Try.prog 61 #[tkv t sv rv] w fun e w' => e = .returned (.bool (decide (t = Tok.zero))) ∧ Turns [] w w' := by
  have T0 := (Turns.refl [] w).alloc (.cells #[.int .i64 t.gen, .int .i64 t.hop, sv, .int .i64 t.start, rv] 39)
  have E := Lib.hid (sameToken_is _ t Tok.zero sv rv _ _ (h.turns T0) (TokR.zero _))
  obtain ⟨A1, c1, rfl, _⟩ := rform h.st
  obtain ⟨A3, c3, rfl, _⟩ := h.rows.form
  generalize decide (t = Tok.zero) = q at *
  unfold tkv Tok.zero at E
  unfold tkv
  clear h
  go_enter Try.func61, Try.ntmps61
  go_wp2_with fail
  go_at_call 29
  refine Calls.mono (E.out) ?_
  rintro e w2 ⟨rfl, t2⟩
  go_wp2_with fail
  go_ret
  exact ⟨rfl, T0.trans t2⟩
end Go.Proofs.Ytohokckpheljbaa.Fg
