/- frame.Same; annonalaw05's alive. -/
import Derived.Test.YtohokckpheljbaaNk
import Derived.Test.YtohokckpheljbaaNf
import Derived.Test.YtohokckpheljbaaNr
set_option linter.unusedVariables false
set_option linter.unusedSimpArgs false
set_option maxRecDepth 100000
namespace Go.Proofs.Ytohokckpheljbaa.Nl
open Go.RowKit Go.MapKept Hm Hs Hr Hb Hf Hg Hv Hx Fa Ff Fg Fi Fj Fq Kw Kn Kr Ks Kt Na Nb Nz Nc Nd Ne_ Nj Nk Nr
theorem sameB_split (f g : Fr) : decide (f = g) = ((f.kind == g.kind) && ((f.frm == g.frm) && ((f.to == g.to) && ((f.gen == g.gen) && ((f.hop == g.hop) && ((f.bits == g.bits) && decide (f.tok = g.tok))))))) := (sameFB_eq f g).symm
set_option maxHeartbeats 2000000 in
theorem same_is (w : World) (f g : Fr) (sv rv sv2 rv2 : Value) (h : TokR w f.tok sv rv) (h2 : TokR w g.tok sv2 rv2) : Calls Try.prog 28 #[frv f sv rv, frv g sv2 rv2] w fun e w' => e = .returned (.bool (decide (f = g))) ∧ Turns [] w w' := by
  rw [sameB_split]
  have T0 := ((Turns.refl [] w).alloc (.cells (frc f sv rv) 41)).alloc (.cells (frc g sv2 rv2) 41)
  have B0 := (Blk.new w (frc f sv rv) 41).alloc (.cells (frc g sv2 rv2) 41)
  have B1 := Blk.new (w.alloc (.cells (frc f sv rv) 41)) (frc g sv2 rv2) 41
  rw [World.size_alloc] at B1
  have I1 := Lib.hid (sameToken_is _ f.tok g.tok sv rv sv2 rv2 (h.turns T0) (h2.turns T0))
  obtain ⟨A1, c1, rfl, _⟩ := rform h.st
  obtain ⟨A3, c3, rfl, _⟩ := h.rows.form
  obtain ⟨A5, c5, rfl, _⟩ := rform h2.st
  obtain ⟨A7, c7, rfl, _⟩ := h2.rows.form
  unfold tkv at I1
  unfold frv
  generalize decide (f.tok = g.tok) = b7 at *
  clear h h2
  cases g1 : (f.kind == g.kind) with
  | false =>
    go_enter Try.func28, Try.ntmps28
    go_upto_region 1 with fail
    generalize (w.alloc (.cells (frc f (.slice A1 f.tok.st.length c1) (.slice A3 f.tok.rows.length c3)) 41)).alloc (.cells (frc g (.slice A5 g.tok.st.length c5) (.slice A7 g.tok.rows.length c7)) 41) = w0 at *
    generalize w.heap.size + 1 = gb at *
    generalize w.heap.size = fb at *
    have x0 : World.cell? (w0) ⟨fb, 0, none⟩ = some _ := (B0).cell 0
    have x1 : World.cell? (w0) ⟨fb, 1, none⟩ = some _ := (B0).cell 1
    have x2 : World.cell? (w0) ⟨fb, 2, none⟩ = some _ := (B0).cell 2
    have x3 : World.cell? (w0) ⟨fb, 3, none⟩ = some _ := (B0).cell 3
    have x4 : World.cell? (w0) ⟨fb, 4, none⟩ = some _ := (B0).cell 4
    have x5 : World.cell? (w0) ⟨fb, 5, none⟩ = some _ := (B0).cell 5
    have x6 : World.cell? (w0) ⟨fb, 6, none⟩ = some _ := (B0).cell 6
    have x7 : World.cell? (w0) ⟨fb, 7, none⟩ = some _ := (B0).cell 7
    have x8 : World.cell? (w0) ⟨fb, 8, none⟩ = some _ := (B0).cell 8
    have x9 : World.cell? (w0) ⟨fb, 9, none⟩ = some _ := (B0).cell 9
    have x10 : World.cell? (w0) ⟨fb, 10, none⟩ = some _ := (B0).cell 10
    have y0 : World.cell? (w0) ⟨gb, 0, none⟩ = some _ := (B1).cell 0
    have y1 : World.cell? (w0) ⟨gb, 1, none⟩ = some _ := (B1).cell 1
    have y2 : World.cell? (w0) ⟨gb, 2, none⟩ = some _ := (B1).cell 2
    have y3 : World.cell? (w0) ⟨gb, 3, none⟩ = some _ := (B1).cell 3
    have y4 : World.cell? (w0) ⟨gb, 4, none⟩ = some _ := (B1).cell 4
    have y5 : World.cell? (w0) ⟨gb, 5, none⟩ = some _ := (B1).cell 5
    have y6 : World.cell? (w0) ⟨gb, 6, none⟩ = some _ := (B1).cell 6
    have y7 : World.cell? (w0) ⟨gb, 7, none⟩ = some _ := (B1).cell 7
    have y8 : World.cell? (w0) ⟨gb, 8, none⟩ = some _ := (B1).cell 8
    have y9 : World.cell? (w0) ⟨gb, 9, none⟩ = some _ := (B1).cell 9
    have y10 : World.cell? (w0) ⟨gb, 10, none⟩ = some _ := (B1).cell 10
    clear B0 B1
    go_wp2_with fail
    go_ret
    exact ⟨rfl, T0⟩
  | true =>
    cases g2 : (f.frm == g.frm) with
    | false =>
      go_enter Try.func28, Try.ntmps28
      go_upto_region 1 with fail
      generalize (w.alloc (.cells (frc f (.slice A1 f.tok.st.length c1) (.slice A3 f.tok.rows.length c3)) 41)).alloc (.cells (frc g (.slice A5 g.tok.st.length c5) (.slice A7 g.tok.rows.length c7)) 41) = w0 at *
      generalize w.heap.size + 1 = gb at *
      generalize w.heap.size = fb at *
      have x0 : World.cell? (w0) ⟨fb, 0, none⟩ = some _ := (B0).cell 0
      have x1 : World.cell? (w0) ⟨fb, 1, none⟩ = some _ := (B0).cell 1
      have x2 : World.cell? (w0) ⟨fb, 2, none⟩ = some _ := (B0).cell 2
      have x3 : World.cell? (w0) ⟨fb, 3, none⟩ = some _ := (B0).cell 3
      have x4 : World.cell? (w0) ⟨fb, 4, none⟩ = some _ := (B0).cell 4
      have x5 : World.cell? (w0) ⟨fb, 5, none⟩ = some _ := (B0).cell 5
      have x6 : World.cell? (w0) ⟨fb, 6, none⟩ = some _ := (B0).cell 6
      have x7 : World.cell? (w0) ⟨fb, 7, none⟩ = some _ := (B0).cell 7
      have x8 : World.cell? (w0) ⟨fb, 8, none⟩ = some _ := (B0).cell 8
      have x9 : World.cell? (w0) ⟨fb, 9, none⟩ = some _ := (B0).cell 9
      have x10 : World.cell? (w0) ⟨fb, 10, none⟩ = some _ := (B0).cell 10
      have y0 : World.cell? (w0) ⟨gb, 0, none⟩ = some _ := (B1).cell 0
      have y1 : World.cell? (w0) ⟨gb, 1, none⟩ = some _ := (B1).cell 1
      have y2 : World.cell? (w0) ⟨gb, 2, none⟩ = some _ := (B1).cell 2
      have y3 : World.cell? (w0) ⟨gb, 3, none⟩ = some _ := (B1).cell 3
      have y4 : World.cell? (w0) ⟨gb, 4, none⟩ = some _ := (B1).cell 4
      have y5 : World.cell? (w0) ⟨gb, 5, none⟩ = some _ := (B1).cell 5
      have y6 : World.cell? (w0) ⟨gb, 6, none⟩ = some _ := (B1).cell 6
      have y7 : World.cell? (w0) ⟨gb, 7, none⟩ = some _ := (B1).cell 7
      have y8 : World.cell? (w0) ⟨gb, 8, none⟩ = some _ := (B1).cell 8
      have y9 : World.cell? (w0) ⟨gb, 9, none⟩ = some _ := (B1).cell 9
      have y10 : World.cell? (w0) ⟨gb, 10, none⟩ = some _ := (B1).cell 10
      clear B0 B1
      go_wp2_with fail
      go_ret
      exact ⟨rfl, T0⟩
    | true =>
      cases g3 : (f.to == g.to) with
      | false =>
        go_enter Try.func28, Try.ntmps28
        go_upto_region 1 with fail
        generalize (w.alloc (.cells (frc f (.slice A1 f.tok.st.length c1) (.slice A3 f.tok.rows.length c3)) 41)).alloc (.cells (frc g (.slice A5 g.tok.st.length c5) (.slice A7 g.tok.rows.length c7)) 41) = w0 at *
        generalize w.heap.size + 1 = gb at *
        generalize w.heap.size = fb at *
        have x0 : World.cell? (w0) ⟨fb, 0, none⟩ = some _ := (B0).cell 0
        have x1 : World.cell? (w0) ⟨fb, 1, none⟩ = some _ := (B0).cell 1
        have x2 : World.cell? (w0) ⟨fb, 2, none⟩ = some _ := (B0).cell 2
        have x3 : World.cell? (w0) ⟨fb, 3, none⟩ = some _ := (B0).cell 3
        have x4 : World.cell? (w0) ⟨fb, 4, none⟩ = some _ := (B0).cell 4
        have x5 : World.cell? (w0) ⟨fb, 5, none⟩ = some _ := (B0).cell 5
        have x6 : World.cell? (w0) ⟨fb, 6, none⟩ = some _ := (B0).cell 6
        have x7 : World.cell? (w0) ⟨fb, 7, none⟩ = some _ := (B0).cell 7
        have x8 : World.cell? (w0) ⟨fb, 8, none⟩ = some _ := (B0).cell 8
        have x9 : World.cell? (w0) ⟨fb, 9, none⟩ = some _ := (B0).cell 9
        have x10 : World.cell? (w0) ⟨fb, 10, none⟩ = some _ := (B0).cell 10
        have y0 : World.cell? (w0) ⟨gb, 0, none⟩ = some _ := (B1).cell 0
        have y1 : World.cell? (w0) ⟨gb, 1, none⟩ = some _ := (B1).cell 1
        have y2 : World.cell? (w0) ⟨gb, 2, none⟩ = some _ := (B1).cell 2
        have y3 : World.cell? (w0) ⟨gb, 3, none⟩ = some _ := (B1).cell 3
        have y4 : World.cell? (w0) ⟨gb, 4, none⟩ = some _ := (B1).cell 4
        have y5 : World.cell? (w0) ⟨gb, 5, none⟩ = some _ := (B1).cell 5
        have y6 : World.cell? (w0) ⟨gb, 6, none⟩ = some _ := (B1).cell 6
        have y7 : World.cell? (w0) ⟨gb, 7, none⟩ = some _ := (B1).cell 7
        have y8 : World.cell? (w0) ⟨gb, 8, none⟩ = some _ := (B1).cell 8
        have y9 : World.cell? (w0) ⟨gb, 9, none⟩ = some _ := (B1).cell 9
        have y10 : World.cell? (w0) ⟨gb, 10, none⟩ = some _ := (B1).cell 10
        clear B0 B1
        go_wp2_with fail
        go_ret
        exact ⟨rfl, T0⟩
      | true =>
        cases g4 : (f.gen == g.gen) with
        | false =>
          go_enter Try.func28, Try.ntmps28
          go_upto_region 1 with fail
          generalize (w.alloc (.cells (frc f (.slice A1 f.tok.st.length c1) (.slice A3 f.tok.rows.length c3)) 41)).alloc (.cells (frc g (.slice A5 g.tok.st.length c5) (.slice A7 g.tok.rows.length c7)) 41) = w0 at *
          generalize w.heap.size + 1 = gb at *
          generalize w.heap.size = fb at *
          have x0 : World.cell? (w0) ⟨fb, 0, none⟩ = some _ := (B0).cell 0
          have x1 : World.cell? (w0) ⟨fb, 1, none⟩ = some _ := (B0).cell 1
          have x2 : World.cell? (w0) ⟨fb, 2, none⟩ = some _ := (B0).cell 2
          have x3 : World.cell? (w0) ⟨fb, 3, none⟩ = some _ := (B0).cell 3
          have x4 : World.cell? (w0) ⟨fb, 4, none⟩ = some _ := (B0).cell 4
          have x5 : World.cell? (w0) ⟨fb, 5, none⟩ = some _ := (B0).cell 5
          have x6 : World.cell? (w0) ⟨fb, 6, none⟩ = some _ := (B0).cell 6
          have x7 : World.cell? (w0) ⟨fb, 7, none⟩ = some _ := (B0).cell 7
          have x8 : World.cell? (w0) ⟨fb, 8, none⟩ = some _ := (B0).cell 8
          have x9 : World.cell? (w0) ⟨fb, 9, none⟩ = some _ := (B0).cell 9
          have x10 : World.cell? (w0) ⟨fb, 10, none⟩ = some _ := (B0).cell 10
          have y0 : World.cell? (w0) ⟨gb, 0, none⟩ = some _ := (B1).cell 0
          have y1 : World.cell? (w0) ⟨gb, 1, none⟩ = some _ := (B1).cell 1
          have y2 : World.cell? (w0) ⟨gb, 2, none⟩ = some _ := (B1).cell 2
          have y3 : World.cell? (w0) ⟨gb, 3, none⟩ = some _ := (B1).cell 3
          have y4 : World.cell? (w0) ⟨gb, 4, none⟩ = some _ := (B1).cell 4
          have y5 : World.cell? (w0) ⟨gb, 5, none⟩ = some _ := (B1).cell 5
          have y6 : World.cell? (w0) ⟨gb, 6, none⟩ = some _ := (B1).cell 6
          have y7 : World.cell? (w0) ⟨gb, 7, none⟩ = some _ := (B1).cell 7
          have y8 : World.cell? (w0) ⟨gb, 8, none⟩ = some _ := (B1).cell 8
          have y9 : World.cell? (w0) ⟨gb, 9, none⟩ = some _ := (B1).cell 9
          have y10 : World.cell? (w0) ⟨gb, 10, none⟩ = some _ := (B1).cell 10
          clear B0 B1
          go_wp2_with fail
          go_ret
          exact ⟨rfl, T0⟩
        | true =>
          cases g5 : (f.hop == g.hop) with
          | false =>
            go_enter Try.func28, Try.ntmps28
            go_upto_region 1 with fail
            generalize (w.alloc (.cells (frc f (.slice A1 f.tok.st.length c1) (.slice A3 f.tok.rows.length c3)) 41)).alloc (.cells (frc g (.slice A5 g.tok.st.length c5) (.slice A7 g.tok.rows.length c7)) 41) = w0 at *
            generalize w.heap.size + 1 = gb at *
            generalize w.heap.size = fb at *
            have x0 : World.cell? (w0) ⟨fb, 0, none⟩ = some _ := (B0).cell 0
            have x1 : World.cell? (w0) ⟨fb, 1, none⟩ = some _ := (B0).cell 1
            have x2 : World.cell? (w0) ⟨fb, 2, none⟩ = some _ := (B0).cell 2
            have x3 : World.cell? (w0) ⟨fb, 3, none⟩ = some _ := (B0).cell 3
            have x4 : World.cell? (w0) ⟨fb, 4, none⟩ = some _ := (B0).cell 4
            have x5 : World.cell? (w0) ⟨fb, 5, none⟩ = some _ := (B0).cell 5
            have x6 : World.cell? (w0) ⟨fb, 6, none⟩ = some _ := (B0).cell 6
            have x7 : World.cell? (w0) ⟨fb, 7, none⟩ = some _ := (B0).cell 7
            have x8 : World.cell? (w0) ⟨fb, 8, none⟩ = some _ := (B0).cell 8
            have x9 : World.cell? (w0) ⟨fb, 9, none⟩ = some _ := (B0).cell 9
            have x10 : World.cell? (w0) ⟨fb, 10, none⟩ = some _ := (B0).cell 10
            have y0 : World.cell? (w0) ⟨gb, 0, none⟩ = some _ := (B1).cell 0
            have y1 : World.cell? (w0) ⟨gb, 1, none⟩ = some _ := (B1).cell 1
            have y2 : World.cell? (w0) ⟨gb, 2, none⟩ = some _ := (B1).cell 2
            have y3 : World.cell? (w0) ⟨gb, 3, none⟩ = some _ := (B1).cell 3
            have y4 : World.cell? (w0) ⟨gb, 4, none⟩ = some _ := (B1).cell 4
            have y5 : World.cell? (w0) ⟨gb, 5, none⟩ = some _ := (B1).cell 5
            have y6 : World.cell? (w0) ⟨gb, 6, none⟩ = some _ := (B1).cell 6
            have y7 : World.cell? (w0) ⟨gb, 7, none⟩ = some _ := (B1).cell 7
            have y8 : World.cell? (w0) ⟨gb, 8, none⟩ = some _ := (B1).cell 8
            have y9 : World.cell? (w0) ⟨gb, 9, none⟩ = some _ := (B1).cell 9
            have y10 : World.cell? (w0) ⟨gb, 10, none⟩ = some _ := (B1).cell 10
            clear B0 B1
            go_wp2_with fail
            go_ret
            exact ⟨rfl, T0⟩
          | true =>
            cases g6 : (f.bits == g.bits) with
            | false =>
              go_enter Try.func28, Try.ntmps28
              go_upto_region 1 with fail
              generalize (w.alloc (.cells (frc f (.slice A1 f.tok.st.length c1) (.slice A3 f.tok.rows.length c3)) 41)).alloc (.cells (frc g (.slice A5 g.tok.st.length c5) (.slice A7 g.tok.rows.length c7)) 41) = w0 at *
              generalize w.heap.size + 1 = gb at *
              generalize w.heap.size = fb at *
              have x0 : World.cell? (w0) ⟨fb, 0, none⟩ = some _ := (B0).cell 0
              have x1 : World.cell? (w0) ⟨fb, 1, none⟩ = some _ := (B0).cell 1
              have x2 : World.cell? (w0) ⟨fb, 2, none⟩ = some _ := (B0).cell 2
              have x3 : World.cell? (w0) ⟨fb, 3, none⟩ = some _ := (B0).cell 3
              have x4 : World.cell? (w0) ⟨fb, 4, none⟩ = some _ := (B0).cell 4
              have x5 : World.cell? (w0) ⟨fb, 5, none⟩ = some _ := (B0).cell 5
              have x6 : World.cell? (w0) ⟨fb, 6, none⟩ = some _ := (B0).cell 6
              have x7 : World.cell? (w0) ⟨fb, 7, none⟩ = some _ := (B0).cell 7
              have x8 : World.cell? (w0) ⟨fb, 8, none⟩ = some _ := (B0).cell 8
              have x9 : World.cell? (w0) ⟨fb, 9, none⟩ = some _ := (B0).cell 9
              have x10 : World.cell? (w0) ⟨fb, 10, none⟩ = some _ := (B0).cell 10
              have y0 : World.cell? (w0) ⟨gb, 0, none⟩ = some _ := (B1).cell 0
              have y1 : World.cell? (w0) ⟨gb, 1, none⟩ = some _ := (B1).cell 1
              have y2 : World.cell? (w0) ⟨gb, 2, none⟩ = some _ := (B1).cell 2
              have y3 : World.cell? (w0) ⟨gb, 3, none⟩ = some _ := (B1).cell 3
              have y4 : World.cell? (w0) ⟨gb, 4, none⟩ = some _ := (B1).cell 4
              have y5 : World.cell? (w0) ⟨gb, 5, none⟩ = some _ := (B1).cell 5
              have y6 : World.cell? (w0) ⟨gb, 6, none⟩ = some _ := (B1).cell 6
              have y7 : World.cell? (w0) ⟨gb, 7, none⟩ = some _ := (B1).cell 7
              have y8 : World.cell? (w0) ⟨gb, 8, none⟩ = some _ := (B1).cell 8
              have y9 : World.cell? (w0) ⟨gb, 9, none⟩ = some _ := (B1).cell 9
              have y10 : World.cell? (w0) ⟨gb, 10, none⟩ = some _ := (B1).cell 10
              clear B0 B1
              go_wp2_with fail
              go_ret
              exact ⟨rfl, T0⟩
            | true =>
              go_enter Try.func28, Try.ntmps28
              go_upto_region 1 with fail
              generalize (w.alloc (.cells (frc f (.slice A1 f.tok.st.length c1) (.slice A3 f.tok.rows.length c3)) 41)).alloc (.cells (frc g (.slice A5 g.tok.st.length c5) (.slice A7 g.tok.rows.length c7)) 41) = w0 at *
              generalize w.heap.size + 1 = gb at *
              generalize w.heap.size = fb at *
              have x0 : World.cell? (w0) ⟨fb, 0, none⟩ = some _ := (B0).cell 0
              have x1 : World.cell? (w0) ⟨fb, 1, none⟩ = some _ := (B0).cell 1
              have x2 : World.cell? (w0) ⟨fb, 2, none⟩ = some _ := (B0).cell 2
              have x3 : World.cell? (w0) ⟨fb, 3, none⟩ = some _ := (B0).cell 3
              have x4 : World.cell? (w0) ⟨fb, 4, none⟩ = some _ := (B0).cell 4
              have x5 : World.cell? (w0) ⟨fb, 5, none⟩ = some _ := (B0).cell 5
              have x6 : World.cell? (w0) ⟨fb, 6, none⟩ = some _ := (B0).cell 6
              have x7 : World.cell? (w0) ⟨fb, 7, none⟩ = some _ := (B0).cell 7
              have x8 : World.cell? (w0) ⟨fb, 8, none⟩ = some _ := (B0).cell 8
              have x9 : World.cell? (w0) ⟨fb, 9, none⟩ = some _ := (B0).cell 9
              have x10 : World.cell? (w0) ⟨fb, 10, none⟩ = some _ := (B0).cell 10
              have y0 : World.cell? (w0) ⟨gb, 0, none⟩ = some _ := (B1).cell 0
              have y1 : World.cell? (w0) ⟨gb, 1, none⟩ = some _ := (B1).cell 1
              have y2 : World.cell? (w0) ⟨gb, 2, none⟩ = some _ := (B1).cell 2
              have y3 : World.cell? (w0) ⟨gb, 3, none⟩ = some _ := (B1).cell 3
              have y4 : World.cell? (w0) ⟨gb, 4, none⟩ = some _ := (B1).cell 4
              have y5 : World.cell? (w0) ⟨gb, 5, none⟩ = some _ := (B1).cell 5
              have y6 : World.cell? (w0) ⟨gb, 6, none⟩ = some _ := (B1).cell 6
              have y7 : World.cell? (w0) ⟨gb, 7, none⟩ = some _ := (B1).cell 7
              have y8 : World.cell? (w0) ⟨gb, 8, none⟩ = some _ := (B1).cell 8
              have y9 : World.cell? (w0) ⟨gb, 9, none⟩ = some _ := (B1).cell 9
              have y10 : World.cell? (w0) ⟨gb, 10, none⟩ = some _ := (B1).cell 10
              clear B0 B1
              go_wp2_with fail
              go_at_call 29
              refine Calls.mono (I1.out) ?_
              rintro e w2 ⟨rfl, t2⟩
              have T2 := T0.trans t2
              go_wp2_with fail
              go_ret
              exact ⟨rfl, T2⟩
theorem enc_byt (f : Fr) : Byt (encB f) := by
  intro c hc
  unfold encB at hc
  rcases List.mem_append.1 hc with hc | hc
  · unfold putR at hc
    obtain ⟨l, hl, hc⟩ := List.mem_flatten.1 hc
    obtain ⟨x, _, rfl⟩ := List.mem_map.1 hl
    exact byt_be8 x c hc
  · unfold encT at hc
    split at hc
    · exact byt_be8 _ c hc
    · simp at hc
def F1 : Fr := ⟨2, 1, 2, 7, 0, 5, Tok.zero⟩
def F2 : Fr := ⟨0, 0, 0, 0, 0, 0, ⟨4, 0, [-1, 9], 0, [⟨3, 0, 0, [(1, 2)]⟩]⟩⟩
def F3 : Fr := ⟨3, 0, 0, 1, 0, 0, Tok.zero⟩
theorem r1 : rightB F1 = true := by decide +kernel
theorem r2 : rightB F2 = true := by decide +kernel
theorem r3 : rightB F3 = false := by decide +kernel
theorem n1 : (bys (encB F1)).length = 40 := by rw [bys_len]; decide +kernel
theorem n2 : (bys (encB F2)).length = 128 := by rw [bys_len]; decide +kernel
theorem tok0 (w : World) : TokR w Tok.zero (.slice none 0 0) (.slice none 0 0) := ⟨RdS.nil 1 w, RT.nil w⟩
set_option maxHeartbeats 4000000 in
theorem alive_is (w : World) : Calls Try.prog 18 #[] w fun e w' => e = .returned (.bool true) ∧ Turns [] w w' := by
  obtain ⟨X, hX⟩ : ∃ X : Ending → World → Prop, X = fun e w' => e = .returned (.bool true) ∧ Turns [] w w' := ⟨_, rfl⟩
  rw [← hX]
  have hXh : Hid (∀ w', Turns [] w w' → X (.returned (.bool true)) w') := Lib.hid (fun w' h => by rw [hX]; exact ⟨rfl, h⟩)
  clear hX
  have En1 := Lib.hid (encode_ok w F1 _ _ (tok0 w) r1 (by decide))
  unfold frv at En1
  unfold F1 Tok.zero at En1
  go_enter Try.func18, Try.ntmps18
  go_wp2_with fail
  go_at_call 21
  refine Calls.mono (En1.out) ?_
  rintro e w1 ⟨v1, rfl, o1, t1, hn1⟩
  change OwnS 5 1 w1 v1 (bys (encB F1)) at o1
  obtain ⟨A1, c1, hv1, _⟩ := o1.form
  rw [n1] at hv1
  subst hv1
  have De := Nf.decode_is w1 _ (encB F1) o1.reads (by have := n1; rw [bys_len] at this; omega) (enc_byt _)
  rw [dec_enc r1 (by decide)] at De
  have Deh := Lib.hid De
  clear De o1 hn1 En1
  go_wp2_with fail
  go_at_call 19
  refine Calls.mono (Deh.out) ?_
  rintro e w2 ⟨sv, rv, rfl, tk, t2⟩
  obtain ⟨A3, c3, hsv, _⟩ := rform tk.st
  obtain ⟨A4, c4, hrv, _⟩ := tk.rows.form
  subst hsv hrv
  have T2 := t1.trans t2
  have H2 := Lib.hid ((Sep.start w2).alloc #[.int .i64 2, .int .i64 1, .int .i64 2, .int .i64 7, .int .i64 0, .int .u64 5, .int .i64 0, .int .i64 0, .slice A3 0 c3, .int .i64 0, .slice A4 0 c4] 41)
  unfold frv F1 Tok.zero
  clear t1 t2 tk Deh
  go_upto_region 3 with fail
  generalize w2.alloc (.cells #[.int .i64 2, .int .i64 1, .int .i64 2, .int .i64 7, .int .i64 0, .int .u64 5, .int .i64 0, .int .i64 0, .slice A3 0 c3, .int .i64 0, .slice A4 0 c4] 41) = w3 at *
  generalize w2.heap.size = fb at *
  obtain ⟨n, hn⟩ : ∃ n, w3.heap.size = n := ⟨_, rfl⟩
  have H3 := (((H2.out.alloc #[.int .i64 (-1), .int .i64 9] 3).alloc #[.int .i64 1, .int .i64 2] 83).alloc #[.int .i64 3, .int .i64 0, .int .i64 0, .slice (some ⟨w3.heap.size + 1, 0, none⟩) 1 1] 86).alloc #[.int .i64 4, .int .i64 0, .slice (some ⟨w3.heap.size, 0, none⟩) 2 2, .int .i64 0, .slice (some ⟨w3.heap.size + 1 + 1, 0, none⟩) 1 1] 39
  simp only [World.size_alloc] at H3
  have hH3 := Lib.hid H3
  clear H2 H3 hn
  go_upto_region 4 with fail
  generalize (((w3.alloc (.cells #[.int .i64 (-1), .int .i64 9] 3)).alloc (.cells #[.int .i64 1, .int .i64 2] 83)).alloc (.cells #[.int .i64 3, .int .i64 0, .int .i64 0, .slice (some ⟨w3.heap.size + 1, 0, none⟩) 1 1] 86)).alloc (.cells #[.int .i64 4, .int .i64 0, .slice (some ⟨w3.heap.size, 0, none⟩) 2 2, .int .i64 0, .slice (some ⟨w3.heap.size + 1 + 1, 0, none⟩) 1 1] 39) = w4 at *
  generalize w3.heap.size + 1 + 1 + 1 = b3 at *
  generalize w3.heap.size + 1 + 1 = b2 at *
  generalize w3.heap.size + 1 = b1 at *
  generalize w3.heap.size = b0 at *
  have H := hH3.out
  have tk : TokR w4 F2.tok (.slice (some ⟨b0, 0, none⟩) 2 2) (.slice (some ⟨b2, 0, none⟩) 1 1) :=
    ⟨RdS.of_cells (rows := ins [-1, 9]) (H.blk 3 rfl) rfl (by intro r hr; simp [ins] at hr; rcases hr with rfl | rfl <;> rfl) 2 (by simp [ins]) (by decide),
      [Rw.mk 3 0 0 (.slice (some ⟨b1, 0, none⟩) 1 1)], RdS.of_cells (rows := [Rw.mk 3 0 0 (.slice (some ⟨b1, 0, none⟩) 1 1)].map Rw.cells) (H.blk 1 rfl) rfl (by intro r hr; simp at hr; subst hr; rfl) 1 (by simp) (by decide),
      (RowsIs.nil w4).snoc ⟨rfl, rfl, rfl, RdS.of_cells (rows := lss [(1, 2)]) (H.blk 2 rfl) rfl (by intro r hr; simp [lss] at hr; subst hr; rfl) 1 (by simp [lss]) (by decide)⟩⟩
  have En2 := Lib.hid (encode_ok w4 F2 _ _ tk r2 (by decide))
  unfold frv at En2
  unfold F2 at En2
  have x0 : World.cell? (w4) ⟨b3, 0, none⟩ = some _ := (H.blk 0 rfl).cell 0
  have x1 : World.cell? (w4) ⟨b3, 1, none⟩ = some _ := (H.blk 0 rfl).cell 1
  have x2 : World.cell? (w4) ⟨b3, 2, none⟩ = some _ := (H.blk 0 rfl).cell 2
  have x3 : World.cell? (w4) ⟨b3, 3, none⟩ = some _ := (H.blk 0 rfl).cell 3
  have x4 : World.cell? (w4) ⟨b3, 4, none⟩ = some _ := (H.blk 0 rfl).cell 4
  clear H tk
  go_wp2_with fail
  go_at_call 21
  refine Calls.mono (En2.out) ?_
  rintro e w5 ⟨v5, rfl, o5, t5, hn5⟩
  change OwnS 5 1 w5 v5 (bys (encB F2)) at o5
  obtain ⟨A5, c5, hv5, _⟩ := o5.form
  rw [n2] at hv5
  subst hv5
  have H5 := hH3.out.turns t5
  have y3 : World.cell? (w5) ⟨fb, 3, none⟩ = some _ := (H5.blk 4 rfl).cell 3
  have y5 : World.cell? (w5) ⟨fb, 5, none⟩ = some _ := (H5.blk 4 rfl).cell 5
  have T5 := T2.trans H5.t
  have R3 := Lib.hid (Fo.right_is w5 F3 _ _ (tok0 w5) (by decide))
  rw [r3] at R3
  unfold frv at R3
  unfold F3 Tok.zero at R3
  clear x0 x1 x2 x3 x4 En2 o5 t5 hn5 H5 hH3
  go_wp2_with fail
  go_at_call 23
  refine Calls.mono (R3.out) ?_
  rintro e w6 ⟨rfl, t6⟩
  have hX := hXh.out _ (T5.trans t6)
  clear hXh T5 T2 R3 t6
  go_wp2_with fail
  exact hX
end Go.Proofs.Ytohokckpheljbaa.Nl
