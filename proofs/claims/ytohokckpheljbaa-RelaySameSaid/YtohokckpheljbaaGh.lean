/- The document's Same, Newer. -/
import Derived.Test.YtohokckpheljbaaGg
import Derived.Test.YtohokckpheljbaaFh
set_option linter.unusedVariables false
set_option linter.unusedSimpArgs false
set_option maxRecDepth 100000
namespace Go.Proofs.Ytohokckpheljbaa.Gh
open Go.RowKit Go.MapKept Go.Shelf Hm Hs Hf Hx Hy Hv Fa Fb Ff Fg Fi Fj Fq Fr_ Ga Gb Gc Gd Ge Gf Gg
def sameFB (f g : Fr) : Bool := (f.kind == g.kind) && ((f.frm == g.frm) && ((f.to == g.to) && ((f.gen == g.gen) && ((f.hop == g.hop) && ((f.bits == g.bits) && decide (f.tok = g.tok))))))
theorem sameFB_eq (f g : Fr) : sameFB f g = decide (f = g) := by
  unfold sameFB
  obtain ⟨a1, a2, a3, a4, a5, a6, a7⟩ := f
  obtain ⟨b1, b2, b3, b4, b5, b6, b7⟩ := g
  rw [Bool.eq_iff_iff]
  simp
set_option maxHeartbeats 2000000 in
theorem rsame_is (w : World) (f g : Fr) (sv rv sv2 rv2 : Value) (h : TokR w f.tok sv rv) (h2 : TokR w g.tok sv2 rv2) : Calls Try.prog 17 #[frv f sv rv, frv g sv2 rv2] w fun e w' => e = .returned (.bool (decide (f = g))) ∧ Turns [] w w' := by
  rw [← sameFB_eq]
  unfold sameFB
  have T0 := ((Turns.refl [] w).alloc (.cells (frc f sv rv) 41)).alloc (.cells (frc g sv2 rv2) 41)
  have B0 := (Blk.new w (frc f sv rv) 41).alloc (.cells (frc g sv2 rv2) 41)
  have B1 := Blk.new (w.alloc (.cells (frc f sv rv) 41)) (frc g sv2 rv2) 41
  rw [World.size_alloc] at B1
  have I1 := Lib.hid (Fh.rsameToken_is _ f.tok g.tok sv rv sv2 rv2 (h.turns T0) (h2.turns T0))
  obtain ⟨A1, c1, rfl, _⟩ := rform h.st
  obtain ⟨A3, c3, rfl, _⟩ := h.rows.form
  obtain ⟨A5, c5, rfl, _⟩ := rform h2.st
  obtain ⟨A7, c7, rfl, _⟩ := h2.rows.form
  unfold tkv at I1
  unfold frv
  generalize decide (f.tok = g.tok) = b7 at *
  clear h h2
  generalize hw0 : (w.alloc (.cells (frc f (.slice A1 f.tok.st.length c1) (.slice A3 f.tok.rows.length c3)) 41)).alloc (.cells (frc g (.slice A5 g.tok.st.length c5) (.slice A7 g.tok.rows.length c7)) 41) = w0 at *
  have x6 : World.cell? (w0) ⟨w.heap.size, 6, none⟩ = some _ := (B0).cell 6
  have x7 : World.cell? (w0) ⟨w.heap.size, 7, none⟩ = some _ := (B0).cell 7
  have x8 : World.cell? (w0) ⟨w.heap.size, 8, none⟩ = some _ := (B0).cell 8
  have x9 : World.cell? (w0) ⟨w.heap.size, 9, none⟩ = some _ := (B0).cell 9
  have x10 : World.cell? (w0) ⟨w.heap.size, 10, none⟩ = some _ := (B0).cell 10
  have y6 : World.cell? (w0) ⟨w.heap.size + 1, 6, none⟩ = some _ := (B1).cell 6
  have y7 : World.cell? (w0) ⟨w.heap.size + 1, 7, none⟩ = some _ := (B1).cell 7
  have y8 : World.cell? (w0) ⟨w.heap.size + 1, 8, none⟩ = some _ := (B1).cell 8
  have y9 : World.cell? (w0) ⟨w.heap.size + 1, 9, none⟩ = some _ := (B1).cell 9
  have y10 : World.cell? (w0) ⟨w.heap.size + 1, 10, none⟩ = some _ := (B1).cell 10
  cases g1 : (f.kind == g.kind) with
  | false =>
    go_enter Try.func17, Try.ntmps17
    go_wp2_with fail
    try rw [hw0]
    try clear hw0
    go_at_call 30
    refine Calls.mono I1.out ?_
    rintro e w2 ⟨rfl, t2⟩
    have T2 := T0.trans t2
    have X2 := B0.turns t2 (by simp)
    have Y2 := B1.turns t2 (by simp)
    clear x6 x7 x8 x9 x10 y6 y7 y8 y9 y10
    have x0 : World.cell? (w2) ⟨w.heap.size, 0, none⟩ = some _ := (X2).cell 0
    have x1 : World.cell? (w2) ⟨w.heap.size, 1, none⟩ = some _ := (X2).cell 1
    have x2 : World.cell? (w2) ⟨w.heap.size, 2, none⟩ = some _ := (X2).cell 2
    have x3 : World.cell? (w2) ⟨w.heap.size, 3, none⟩ = some _ := (X2).cell 3
    have x4 : World.cell? (w2) ⟨w.heap.size, 4, none⟩ = some _ := (X2).cell 4
    have x5 : World.cell? (w2) ⟨w.heap.size, 5, none⟩ = some _ := (X2).cell 5
    have y0 : World.cell? (w2) ⟨w.heap.size + 1, 0, none⟩ = some _ := (Y2).cell 0
    have y1 : World.cell? (w2) ⟨w.heap.size + 1, 1, none⟩ = some _ := (Y2).cell 1
    have y2 : World.cell? (w2) ⟨w.heap.size + 1, 2, none⟩ = some _ := (Y2).cell 2
    have y3 : World.cell? (w2) ⟨w.heap.size + 1, 3, none⟩ = some _ := (Y2).cell 3
    have y4 : World.cell? (w2) ⟨w.heap.size + 1, 4, none⟩ = some _ := (Y2).cell 4
    have y5 : World.cell? (w2) ⟨w.heap.size + 1, 5, none⟩ = some _ := (Y2).cell 5
    go_wp2_with fail
    go_ret
    exact ⟨rfl, T2⟩
  | true =>
    cases g2 : (f.frm == g.frm) with
    | false =>
      go_enter Try.func17, Try.ntmps17
      go_wp2_with fail
      try rw [hw0]
      try clear hw0
      go_at_call 30
      refine Calls.mono I1.out ?_
      rintro e w2 ⟨rfl, t2⟩
      have T2 := T0.trans t2
      have X2 := B0.turns t2 (by simp)
      have Y2 := B1.turns t2 (by simp)
      clear x6 x7 x8 x9 x10 y6 y7 y8 y9 y10
      have x0 : World.cell? (w2) ⟨w.heap.size, 0, none⟩ = some _ := (X2).cell 0
      have x1 : World.cell? (w2) ⟨w.heap.size, 1, none⟩ = some _ := (X2).cell 1
      have x2 : World.cell? (w2) ⟨w.heap.size, 2, none⟩ = some _ := (X2).cell 2
      have x3 : World.cell? (w2) ⟨w.heap.size, 3, none⟩ = some _ := (X2).cell 3
      have x4 : World.cell? (w2) ⟨w.heap.size, 4, none⟩ = some _ := (X2).cell 4
      have x5 : World.cell? (w2) ⟨w.heap.size, 5, none⟩ = some _ := (X2).cell 5
      have y0 : World.cell? (w2) ⟨w.heap.size + 1, 0, none⟩ = some _ := (Y2).cell 0
      have y1 : World.cell? (w2) ⟨w.heap.size + 1, 1, none⟩ = some _ := (Y2).cell 1
      have y2 : World.cell? (w2) ⟨w.heap.size + 1, 2, none⟩ = some _ := (Y2).cell 2
      have y3 : World.cell? (w2) ⟨w.heap.size + 1, 3, none⟩ = some _ := (Y2).cell 3
      have y4 : World.cell? (w2) ⟨w.heap.size + 1, 4, none⟩ = some _ := (Y2).cell 4
      have y5 : World.cell? (w2) ⟨w.heap.size + 1, 5, none⟩ = some _ := (Y2).cell 5
      go_wp2_with fail
      go_ret
      exact ⟨rfl, T2⟩
    | true =>
      cases g3 : (f.to == g.to) with
      | false =>
        go_enter Try.func17, Try.ntmps17
        go_wp2_with fail
        try rw [hw0]
        try clear hw0
        go_at_call 30
        refine Calls.mono I1.out ?_
        rintro e w2 ⟨rfl, t2⟩
        have T2 := T0.trans t2
        have X2 := B0.turns t2 (by simp)
        have Y2 := B1.turns t2 (by simp)
        clear x6 x7 x8 x9 x10 y6 y7 y8 y9 y10
        have x0 : World.cell? (w2) ⟨w.heap.size, 0, none⟩ = some _ := (X2).cell 0
        have x1 : World.cell? (w2) ⟨w.heap.size, 1, none⟩ = some _ := (X2).cell 1
        have x2 : World.cell? (w2) ⟨w.heap.size, 2, none⟩ = some _ := (X2).cell 2
        have x3 : World.cell? (w2) ⟨w.heap.size, 3, none⟩ = some _ := (X2).cell 3
        have x4 : World.cell? (w2) ⟨w.heap.size, 4, none⟩ = some _ := (X2).cell 4
        have x5 : World.cell? (w2) ⟨w.heap.size, 5, none⟩ = some _ := (X2).cell 5
        have y0 : World.cell? (w2) ⟨w.heap.size + 1, 0, none⟩ = some _ := (Y2).cell 0
        have y1 : World.cell? (w2) ⟨w.heap.size + 1, 1, none⟩ = some _ := (Y2).cell 1
        have y2 : World.cell? (w2) ⟨w.heap.size + 1, 2, none⟩ = some _ := (Y2).cell 2
        have y3 : World.cell? (w2) ⟨w.heap.size + 1, 3, none⟩ = some _ := (Y2).cell 3
        have y4 : World.cell? (w2) ⟨w.heap.size + 1, 4, none⟩ = some _ := (Y2).cell 4
        have y5 : World.cell? (w2) ⟨w.heap.size + 1, 5, none⟩ = some _ := (Y2).cell 5
        go_wp2_with fail
        go_ret
        exact ⟨rfl, T2⟩
      | true =>
        cases g4 : (f.gen == g.gen) with
        | false =>
          go_enter Try.func17, Try.ntmps17
          go_wp2_with fail
          try rw [hw0]
          try clear hw0
          go_at_call 30
          refine Calls.mono I1.out ?_
          rintro e w2 ⟨rfl, t2⟩
          have T2 := T0.trans t2
          have X2 := B0.turns t2 (by simp)
          have Y2 := B1.turns t2 (by simp)
          clear x6 x7 x8 x9 x10 y6 y7 y8 y9 y10
          have x0 : World.cell? (w2) ⟨w.heap.size, 0, none⟩ = some _ := (X2).cell 0
          have x1 : World.cell? (w2) ⟨w.heap.size, 1, none⟩ = some _ := (X2).cell 1
          have x2 : World.cell? (w2) ⟨w.heap.size, 2, none⟩ = some _ := (X2).cell 2
          have x3 : World.cell? (w2) ⟨w.heap.size, 3, none⟩ = some _ := (X2).cell 3
          have x4 : World.cell? (w2) ⟨w.heap.size, 4, none⟩ = some _ := (X2).cell 4
          have x5 : World.cell? (w2) ⟨w.heap.size, 5, none⟩ = some _ := (X2).cell 5
          have y0 : World.cell? (w2) ⟨w.heap.size + 1, 0, none⟩ = some _ := (Y2).cell 0
          have y1 : World.cell? (w2) ⟨w.heap.size + 1, 1, none⟩ = some _ := (Y2).cell 1
          have y2 : World.cell? (w2) ⟨w.heap.size + 1, 2, none⟩ = some _ := (Y2).cell 2
          have y3 : World.cell? (w2) ⟨w.heap.size + 1, 3, none⟩ = some _ := (Y2).cell 3
          have y4 : World.cell? (w2) ⟨w.heap.size + 1, 4, none⟩ = some _ := (Y2).cell 4
          have y5 : World.cell? (w2) ⟨w.heap.size + 1, 5, none⟩ = some _ := (Y2).cell 5
          go_wp2_with fail
          go_ret
          exact ⟨rfl, T2⟩
        | true =>
          cases g5 : (f.hop == g.hop) with
          | false =>
            go_enter Try.func17, Try.ntmps17
            go_wp2_with fail
            try rw [hw0]
            try clear hw0
            go_at_call 30
            refine Calls.mono I1.out ?_
            rintro e w2 ⟨rfl, t2⟩
            have T2 := T0.trans t2
            have X2 := B0.turns t2 (by simp)
            have Y2 := B1.turns t2 (by simp)
            clear x6 x7 x8 x9 x10 y6 y7 y8 y9 y10
            have x0 : World.cell? (w2) ⟨w.heap.size, 0, none⟩ = some _ := (X2).cell 0
            have x1 : World.cell? (w2) ⟨w.heap.size, 1, none⟩ = some _ := (X2).cell 1
            have x2 : World.cell? (w2) ⟨w.heap.size, 2, none⟩ = some _ := (X2).cell 2
            have x3 : World.cell? (w2) ⟨w.heap.size, 3, none⟩ = some _ := (X2).cell 3
            have x4 : World.cell? (w2) ⟨w.heap.size, 4, none⟩ = some _ := (X2).cell 4
            have x5 : World.cell? (w2) ⟨w.heap.size, 5, none⟩ = some _ := (X2).cell 5
            have y0 : World.cell? (w2) ⟨w.heap.size + 1, 0, none⟩ = some _ := (Y2).cell 0
            have y1 : World.cell? (w2) ⟨w.heap.size + 1, 1, none⟩ = some _ := (Y2).cell 1
            have y2 : World.cell? (w2) ⟨w.heap.size + 1, 2, none⟩ = some _ := (Y2).cell 2
            have y3 : World.cell? (w2) ⟨w.heap.size + 1, 3, none⟩ = some _ := (Y2).cell 3
            have y4 : World.cell? (w2) ⟨w.heap.size + 1, 4, none⟩ = some _ := (Y2).cell 4
            have y5 : World.cell? (w2) ⟨w.heap.size + 1, 5, none⟩ = some _ := (Y2).cell 5
            go_wp2_with fail
            go_ret
            exact ⟨rfl, T2⟩
          | true =>
            cases g6 : (f.bits == g.bits) with
            | false =>
              go_enter Try.func17, Try.ntmps17
              go_wp2_with fail
              try rw [hw0]
              try clear hw0
              go_at_call 30
              refine Calls.mono I1.out ?_
              rintro e w2 ⟨rfl, t2⟩
              have T2 := T0.trans t2
              have X2 := B0.turns t2 (by simp)
              have Y2 := B1.turns t2 (by simp)
              clear x6 x7 x8 x9 x10 y6 y7 y8 y9 y10
              have x0 : World.cell? (w2) ⟨w.heap.size, 0, none⟩ = some _ := (X2).cell 0
              have x1 : World.cell? (w2) ⟨w.heap.size, 1, none⟩ = some _ := (X2).cell 1
              have x2 : World.cell? (w2) ⟨w.heap.size, 2, none⟩ = some _ := (X2).cell 2
              have x3 : World.cell? (w2) ⟨w.heap.size, 3, none⟩ = some _ := (X2).cell 3
              have x4 : World.cell? (w2) ⟨w.heap.size, 4, none⟩ = some _ := (X2).cell 4
              have x5 : World.cell? (w2) ⟨w.heap.size, 5, none⟩ = some _ := (X2).cell 5
              have y0 : World.cell? (w2) ⟨w.heap.size + 1, 0, none⟩ = some _ := (Y2).cell 0
              have y1 : World.cell? (w2) ⟨w.heap.size + 1, 1, none⟩ = some _ := (Y2).cell 1
              have y2 : World.cell? (w2) ⟨w.heap.size + 1, 2, none⟩ = some _ := (Y2).cell 2
              have y3 : World.cell? (w2) ⟨w.heap.size + 1, 3, none⟩ = some _ := (Y2).cell 3
              have y4 : World.cell? (w2) ⟨w.heap.size + 1, 4, none⟩ = some _ := (Y2).cell 4
              have y5 : World.cell? (w2) ⟨w.heap.size + 1, 5, none⟩ = some _ := (Y2).cell 5
              go_wp2_with fail
              go_ret
              exact ⟨rfl, T2⟩
            | true =>
              go_enter Try.func17, Try.ntmps17
              go_wp2_with fail
              try rw [hw0]
              try clear hw0
              go_at_call 30
              refine Calls.mono I1.out ?_
              rintro e w2 ⟨rfl, t2⟩
              have T2 := T0.trans t2
              have X2 := B0.turns t2 (by simp)
              have Y2 := B1.turns t2 (by simp)
              clear x6 x7 x8 x9 x10 y6 y7 y8 y9 y10
              have x0 : World.cell? (w2) ⟨w.heap.size, 0, none⟩ = some _ := (X2).cell 0
              have x1 : World.cell? (w2) ⟨w.heap.size, 1, none⟩ = some _ := (X2).cell 1
              have x2 : World.cell? (w2) ⟨w.heap.size, 2, none⟩ = some _ := (X2).cell 2
              have x3 : World.cell? (w2) ⟨w.heap.size, 3, none⟩ = some _ := (X2).cell 3
              have x4 : World.cell? (w2) ⟨w.heap.size, 4, none⟩ = some _ := (X2).cell 4
              have x5 : World.cell? (w2) ⟨w.heap.size, 5, none⟩ = some _ := (X2).cell 5
              have y0 : World.cell? (w2) ⟨w.heap.size + 1, 0, none⟩ = some _ := (Y2).cell 0
              have y1 : World.cell? (w2) ⟨w.heap.size + 1, 1, none⟩ = some _ := (Y2).cell 1
              have y2 : World.cell? (w2) ⟨w.heap.size + 1, 2, none⟩ = some _ := (Y2).cell 2
              have y3 : World.cell? (w2) ⟨w.heap.size + 1, 3, none⟩ = some _ := (Y2).cell 3
              have y4 : World.cell? (w2) ⟨w.heap.size + 1, 4, none⟩ = some _ := (Y2).cell 4
              have y5 : World.cell? (w2) ⟨w.heap.size + 1, 5, none⟩ = some _ := (Y2).cell 5
              go_wp2_with fail
              go_ret
              exact ⟨rfl, T2⟩
theorem rnewer_is (w : World) (g h g2 h2 : Int) : Calls Try.prog 78 #[.agg #[.int .i64 g, .int .i64 h], .agg #[.int .i64 g2, .int .i64 h2]] w fun e w' => e = .returned (.bool (newerB g h g2 h2)) ∧ Turns [] w w' := by
  have T := ((Turns.refl [] w).alloc (.cells #[.int .i64 g, .int .i64 h] 76)).alloc (.cells #[.int .i64 g2, .int .i64 h2] 76)
  unfold newerB
  by_cases e : g = g2
  · have g1 : decide (g > g2) = false := decide_eq_false (by omega)
    have g2' : (g == g2) = true := by simpa using e
    rw [if_pos e]
    generalize hq : decide (h > h2) = q
    clear e
    go_enter Try.func78, Try.ntmps78
    go_wp2_with fail
    go_ret
    exact ⟨rfl, T⟩
  · have g1 : (g == g2) = false := by simpa using e
    rw [if_neg e]
    by_cases e2 : g > g2
    · have g3 := decide_eq_true e2
      rw [g3]
      clear e e2
      go_enter Try.func78, Try.ntmps78
      go_wp2_with fail
      go_ret
      exact ⟨rfl, T⟩
    · have g3 := decide_eq_false e2
      rw [g3]
      clear e e2
      go_enter Try.func78, Try.ntmps78
      go_wp2_with fail
      go_ret
      exact ⟨rfl, T⟩
end Go.Proofs.Ytohokckpheljbaa.Gh
