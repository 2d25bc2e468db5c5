/- annonalaw05's Fits; the document's Same. -/
import Derived.Test.YtohokckpheljbaaFr
import Derived.Test.YtohokckpheljbaaFh
import Derived.Test.YtohokckpheljbaaFj
set_option linter.unusedVariables false
set_option linter.unusedSimpArgs false
set_option maxRecDepth 100000
namespace Go.Proofs.Ytohokckpheljbaa.Nr
open Go.RowKit Go.MapKept Go.Shelf Hm Hs Hf Hx Hy Hv Fa Fb Ff Fg Fi Fj Fq Fr_
def outB (t : Tok) : Bool := t.rows.all fun r => decide (r.out.length ≤ 100)
def fitsB (t : Tok) : Bool := decide (t.st.length ≤ 100) && (decide (t.rows.length ≤ 100) && outB t)
theorem fitsB_eq (t : Tok) : fitsB t = true ↔ fitsT t := by
  unfold fitsB fitsT outB
  simp
set_option maxHeartbeats 2000000 in
theorem fitsToken_is (w : World) (t : Tok) (sv rv : Value) (h : TokR w t sv rv) : Calls Try.prog 44 #[tkv t sv rv] w fun e w' => e = .returned (.bool (fitsB t)) ∧ Turns [] w w' := by
  have T0 := (Turns.refl [] w).alloc (.cells #[.int .i64 t.gen, .int .i64 t.hop, sv, .int .i64 t.start, rv] 39)
  have b0 := Blk.new w #[.int .i64 t.gen, .int .i64 t.hop, sv, .int .i64 t.start, rv] 39
  obtain ⟨X, hX⟩ : ∃ X : Ending → World → Prop, X = fun e w' => e = .returned (.bool (fitsB t)) ∧ Turns [] w w' := ⟨_, rfl⟩
  rw [← hX]
  have hXh : Hid (∀ b w', fitsB t = b → Turns [] w w' → X (.returned (.bool b)) w') := Lib.hid (fun b w' h t => by rw [hX]; exact ⟨by rw [h], t⟩)
  have hrh := Lib.hid h.rows
  obtain ⟨A, c, rfl, _⟩ := rform h.st
  obtain ⟨B, d, rfl, _⟩ := h.rows.form
  unfold tkv
  have c2 : World.cell? (w.alloc (.cells #[.int .i64 t.gen, .int .i64 t.hop, .slice A t.st.length c, .int .i64 t.start, .slice B t.rows.length d] 39)) ⟨w.heap.size, 2, none⟩ = some _ := (b0).cell 2
  have c4 : World.cell? (w.alloc (.cells #[.int .i64 t.gen, .int .i64 t.hop, .slice A t.st.length c, .int .i64 t.start, .slice B t.rows.length d] 39)) ⟨w.heap.size, 4, none⟩ = some _ := (b0).cell 4
  clear hX h b0
  by_cases h1 : (t.st.length : Int) > 100
  · have g1 := decide_eq_true h1
    have hX := hXh.out false _ (by unfold fitsB; rw [decide_eq_false (by omega : ¬ t.st.length ≤ 100)]; rfl) T0
    clear h1
    go_enter Try.func44, Try.ntmps44
    go_wp2_with fail
    exact hX
  · have g1 : decide ((t.st.length : Int) > 100) = false := decide_eq_false h1
    by_cases h2 : (t.rows.length : Int) > 100
    · have g2 := decide_eq_true h2
      have hX := hXh.out false _ (by unfold fitsB; rw [decide_eq_false (by omega : ¬ t.rows.length ≤ 100), Bool.false_and, Bool.and_false]) T0
      clear h1 h2
      go_enter Try.func44, Try.ntmps44
      go_wp2_with fail
      exact hX
    · have g2 : decide ((t.rows.length : Int) > 100) = false := decide_eq_false h2
      have hfo : Hid (fitsB t = outB t) := Lib.hid (by unfold fitsB; rw [decide_eq_true (by omega : t.st.length ≤ 100), decide_eq_true (by omega : t.rows.length ≤ 100)]; rfl)
      clear h1 h2
      generalize hw0 : w.alloc (.cells #[.int .i64 t.gen, .int .i64 t.hop, .slice A t.st.length c, .int .i64 t.start, .slice B t.rows.length d] 39) = w0 at *
      go_enter Try.func44, Try.ntmps44
      go_wp2_with fail
      try rw [hw0]
      clear hw0
      go_loopw [3] (fun v3 wr => ∃ (k : Nat), k ≤ t.rows.length ∧ v3 = .int .i64 k ∧ wr = w0 ∧ outB t = (t.rows.drop k).all fun r => decide (r.out.length ≤ 100)) (fun v3 _ => t.rows.length - (RowKit.intOf v3).toNat)
      case atStart => exact ⟨0, by omega, rfl, rfl, rfl⟩
      case round =>
        obtain ⟨k, hk, rfl, rfl, hin⟩ := hrel
        by_cases hlt : k < t.rows.length
        · have g7 : decide ((k : Int) < (t.rows.length : Int)) = true := decide_eq_true (by omega)
          have g7b : decide (k < t.rows.length) = true := decide_eq_true hlt
          obtain ⟨x, hx⟩ : ∃ x, t.rows[k]? = some x := ⟨_, List.getElem?_eq_getElem hlt⟩
          obtain ⟨ad, c', x', hv, hxr, Lc⟩ := hrh.out.at_ hx
          injection hv with e1 e2 e3
          subst e1 e3
          have i0 := T0.old Lc.o
          obtain ⟨A4, c4, hout, _⟩ := ls_form hxr.out
          rw [hout] at i0
          rw [drop_cons hx, List.all_cons] at hin
          clear e2 Lc
          by_cases h3 : (x.out.length : Int) > 100
          · have g3 := decide_eq_true h3
            have hX := hXh.out false _ (by rw [hfo.out, hin, decide_eq_false (by omega : ¬ x.out.length ≤ 100)]; rfl) T0
            clear h3 hin hx hout
            go_wp2_with fail
            exact hX
          · have g3 : decide ((x.out.length : Int) > 100) = false := decide_eq_false h3
            rw [decide_eq_true (by omega : x.out.length ≤ 100), Bool.true_and] at hin
            have hinh := Lib.hid hin
            clear h3 hin hx hout
            go_wp2_with fail
            go_roundw
            case rel => exact ⟨k + 1, by omega, by go_num, by first | rfl | trivial, hinh.out⟩
            case measure => simp [RowKit.intOf]; omega
        · obtain rfl : k = t.rows.length := by omega
          have g7 : decide ((t.rows.length : Int) < (t.rows.length : Int)) = false := by simp
          rw [List.drop_length] at hin
          have hX := hXh.out true _ (by rw [hfo.out, hin]; rfl) T0
          clear hin
          go_wp2_with fail
          exact hX
theorem fits_is (w : World) (f : Fr) (sv rv : Value) (h : TokR w f.tok sv rv) : Calls Try.prog 16 #[frv f sv rv] w fun e w' => e = .returned (.bool (fitsB f.tok)) ∧ Turns [] w w' := by
  have T0 := (Turns.refl [] w).alloc (.cells (frc f sv rv) 41)
  have B0 := Blk.new w (frc f sv rv) 41
  have I1 := Lib.hid (fitsToken_is _ f.tok sv rv (h.turns T0))
  obtain ⟨A1, c1, rfl, _⟩ := rform h.st
  obtain ⟨A3, c3, rfl, _⟩ := h.rows.form
  unfold tkv at I1
  unfold frv
  clear h
  have x6 : World.cell? (w.alloc (.cells (frc f (.slice A1 f.tok.st.length c1) (.slice A3 f.tok.rows.length c3)) 41)) ⟨w.heap.size, 6, none⟩ = some _ := (B0).cell 6
  have x7 : World.cell? (w.alloc (.cells (frc f (.slice A1 f.tok.st.length c1) (.slice A3 f.tok.rows.length c3)) 41)) ⟨w.heap.size, 7, none⟩ = some _ := (B0).cell 7
  have x8 : World.cell? (w.alloc (.cells (frc f (.slice A1 f.tok.st.length c1) (.slice A3 f.tok.rows.length c3)) 41)) ⟨w.heap.size, 8, none⟩ = some _ := (B0).cell 8
  have x9 : World.cell? (w.alloc (.cells (frc f (.slice A1 f.tok.st.length c1) (.slice A3 f.tok.rows.length c3)) 41)) ⟨w.heap.size, 9, none⟩ = some _ := (B0).cell 9
  have x10 : World.cell? (w.alloc (.cells (frc f (.slice A1 f.tok.st.length c1) (.slice A3 f.tok.rows.length c3)) 41)) ⟨w.heap.size, 10, none⟩ = some _ := (B0).cell 10
  go_enter Try.func16, Try.ntmps16
  go_wp2_with fail
  go_at_call 44
  refine Calls.mono (I1.out) ?_
  rintro e w2 ⟨rfl, t2⟩
  go_wp2_with fail
  go_ret
  exact ⟨rfl, T0.trans t2⟩
def sameFB (f g : Fr) : Bool := (f.kind == g.kind) && ((f.frm == g.frm) && ((f.to == g.to) && ((f.gen == g.gen) && ((f.hop == g.hop) && ((f.bits == g.bits) && decide (f.tok = g.tok))))))
theorem sameFB_eq (f g : Fr) : sameFB f g = decide (f = g) := by
  unfold sameFB
  obtain ⟨a1, a2, a3, a4, a5, a6, a7⟩ := f
  obtain ⟨b1, b2, b3, b4, b5, b6, b7⟩ := g
  rw [Bool.eq_iff_iff]
  simp
set_option maxHeartbeats 2000000 in
theorem rsame_is (w : World) (f g : Fr) (sv rv sv2 rv2 : Value) (h : TokR w f.tok sv rv) (h2 : TokR w g.tok sv2 rv2) : Calls Try.prog 17 #[frv f sv rv, frv g sv2 rv2] w fun e w' => e = .returned (.bool (decide (f = g))) ∧ Turns [] w w' := by
  rw [← sameFB_eq]
  unfold sameFB
  have T0 := ((Turns.refl [] w).alloc (.cells (frc f sv rv) 41)).alloc (.cells (frc g sv2 rv2) 41)
  have B0 := (Blk.new w (frc f sv rv) 41).alloc (.cells (frc g sv2 rv2) 41)
  have B1 := Blk.new (w.alloc (.cells (frc f sv rv) 41)) (frc g sv2 rv2) 41
  rw [World.size_alloc] at B1
  have I1 := Lib.hid (Fh.rsameToken_is _ f.tok g.tok sv rv sv2 rv2 (h.turns T0) (h2.turns T0))
  obtain ⟨A1, c1, rfl, _⟩ := rform h.st
  obtain ⟨A3, c3, rfl, _⟩ := h.rows.form
  obtain ⟨A5, c5, rfl, _⟩ := rform h2.st
  obtain ⟨A7, c7, rfl, _⟩ := h2.rows.form
  unfold tkv at I1
  unfold frv
  generalize decide (f.tok = g.tok) = b7 at *
  clear h h2
  generalize hw0 : (w.alloc (.cells (frc f (.slice A1 f.tok.st.length c1) (.slice A3 f.tok.rows.length c3)) 41)).alloc (.cells (frc g (.slice A5 g.tok.st.length c5) (.slice A7 g.tok.rows.length c7)) 41) = w0 at *
  have x6 : World.cell? (w0) ⟨w.heap.size, 6, none⟩ = some _ := (B0).cell 6
  have x7 : World.cell? (w0) ⟨w.heap.size, 7, none⟩ = some _ := (B0).cell 7
  have x8 : World.cell? (w0) ⟨w.heap.size, 8, none⟩ = some _ := (B0).cell 8
  have x9 : World.cell? (w0) ⟨w.heap.size, 9, none⟩ = some _ := (B0).cell 9
  have x10 : World.cell? (w0) ⟨w.heap.size, 10, none⟩ = some _ := (B0).cell 10
  have y6 : World.cell? (w0) ⟨w.heap.size + 1, 6, none⟩ = some _ := (B1).cell 6
  have y7 : World.cell? (w0) ⟨w.heap.size + 1, 7, none⟩ = some _ := (B1).cell 7
  have y8 : World.cell? (w0) ⟨w.heap.size + 1, 8, none⟩ = some _ := (B1).cell 8
  have y9 : World.cell? (w0) ⟨w.heap.size + 1, 9, none⟩ = some _ := (B1).cell 9
  have y10 : World.cell? (w0) ⟨w.heap.size + 1, 10, none⟩ = some _ := (B1).cell 10
  cases g1 : (f.kind == g.kind) with
  | false =>
    go_enter Try.func17, Try.ntmps17
    go_wp2_with fail
    try rw [hw0]
    try clear hw0
    go_at_call 30
    refine Calls.mono I1.out ?_
    rintro e w2 ⟨rfl, t2⟩
    have T2 := T0.trans t2
    have X2 := B0.turns t2 (by simp)
    have Y2 := B1.turns t2 (by simp)
    clear x6 x7 x8 x9 x10 y6 y7 y8 y9 y10
    have x0 : World.cell? (w2) ⟨w.heap.size, 0, none⟩ = some _ := (X2).cell 0
    have x1 : World.cell? (w2) ⟨w.heap.size, 1, none⟩ = some _ := (X2).cell 1
    have x2 : World.cell? (w2) ⟨w.heap.size, 2, none⟩ = some _ := (X2).cell 2
    have x3 : World.cell? (w2) ⟨w.heap.size, 3, none⟩ = some _ := (X2).cell 3
    have x4 : World.cell? (w2) ⟨w.heap.size, 4, none⟩ = some _ := (X2).cell 4
    have x5 : World.cell? (w2) ⟨w.heap.size, 5, none⟩ = some _ := (X2).cell 5
    have y0 : World.cell? (w2) ⟨w.heap.size + 1, 0, none⟩ = some _ := (Y2).cell 0
    have y1 : World.cell? (w2) ⟨w.heap.size + 1, 1, none⟩ = some _ := (Y2).cell 1
    have y2 : World.cell? (w2) ⟨w.heap.size + 1, 2, none⟩ = some _ := (Y2).cell 2
    have y3 : World.cell? (w2) ⟨w.heap.size + 1, 3, none⟩ = some _ := (Y2).cell 3
    have y4 : World.cell? (w2) ⟨w.heap.size + 1, 4, none⟩ = some _ := (Y2).cell 4
    have y5 : World.cell? (w2) ⟨w.heap.size + 1, 5, none⟩ = some _ := (Y2).cell 5
    go_wp2_with fail
    go_ret
    exact ⟨rfl, T2⟩
  | true =>
    cases g2 : (f.frm == g.frm) with
    | false =>
      go_enter Try.func17, Try.ntmps17
      go_wp2_with fail
      try rw [hw0]
      try clear hw0
      go_at_call 30
      refine Calls.mono I1.out ?_
      rintro e w2 ⟨rfl, t2⟩
      have T2 := T0.trans t2
      have X2 := B0.turns t2 (by simp)
      have Y2 := B1.turns t2 (by simp)
      clear x6 x7 x8 x9 x10 y6 y7 y8 y9 y10
      have x0 : World.cell? (w2) ⟨w.heap.size, 0, none⟩ = some _ := (X2).cell 0
      have x1 : World.cell? (w2) ⟨w.heap.size, 1, none⟩ = some _ := (X2).cell 1
      have x2 : World.cell? (w2) ⟨w.heap.size, 2, none⟩ = some _ := (X2).cell 2
      have x3 : World.cell? (w2) ⟨w.heap.size, 3, none⟩ = some _ := (X2).cell 3
      have x4 : World.cell? (w2) ⟨w.heap.size, 4, none⟩ = some _ := (X2).cell 4
      have x5 : World.cell? (w2) ⟨w.heap.size, 5, none⟩ = some _ := (X2).cell 5
      have y0 : World.cell? (w2) ⟨w.heap.size + 1, 0, none⟩ = some _ := (Y2).cell 0
      have y1 : World.cell? (w2) ⟨w.heap.size + 1, 1, none⟩ = some _ := (Y2).cell 1
      have y2 : World.cell? (w2) ⟨w.heap.size + 1, 2, none⟩ = some _ := (Y2).cell 2
      have y3 : World.cell? (w2) ⟨w.heap.size + 1, 3, none⟩ = some _ := (Y2).cell 3
      have y4 : World.cell? (w2) ⟨w.heap.size + 1, 4, none⟩ = some _ := (Y2).cell 4
      have y5 : World.cell? (w2) ⟨w.heap.size + 1, 5, none⟩ = some _ := (Y2).cell 5
      go_wp2_with fail
      go_ret
      exact ⟨rfl, T2⟩
    | true =>
      cases g3 : (f.to == g.to) with
      | false =>
        go_enter Try.func17, Try.ntmps17
        go_wp2_with fail
        try rw [hw0]
        try clear hw0
        go_at_call 30
        refine Calls.mono I1.out ?_
        rintro e w2 ⟨rfl, t2⟩
        have T2 := T0.trans t2
        have X2 := B0.turns t2 (by simp)
        have Y2 := B1.turns t2 (by simp)
        clear x6 x7 x8 x9 x10 y6 y7 y8 y9 y10
        have x0 : World.cell? (w2) ⟨w.heap.size, 0, none⟩ = some _ := (X2).cell 0
        have x1 : World.cell? (w2) ⟨w.heap.size, 1, none⟩ = some _ := (X2).cell 1
        have x2 : World.cell? (w2) ⟨w.heap.size, 2, none⟩ = some _ := (X2).cell 2
        have x3 : World.cell? (w2) ⟨w.heap.size, 3, none⟩ = some _ := (X2).cell 3
        have x4 : World.cell? (w2) ⟨w.heap.size, 4, none⟩ = some _ := (X2).cell 4
        have x5 : World.cell? (w2) ⟨w.heap.size, 5, none⟩ = some _ := (X2).cell 5
        have y0 : World.cell? (w2) ⟨w.heap.size + 1, 0, none⟩ = some _ := (Y2).cell 0
        have y1 : World.cell? (w2) ⟨w.heap.size + 1, 1, none⟩ = some _ := (Y2).cell 1
        have y2 : World.cell? (w2) ⟨w.heap.size + 1, 2, none⟩ = some _ := (Y2).cell 2
        have y3 : World.cell? (w2) ⟨w.heap.size + 1, 3, none⟩ = some _ := (Y2).cell 3
        have y4 : World.cell? (w2) ⟨w.heap.size + 1, 4, none⟩ = some _ := (Y2).cell 4
        have y5 : World.cell? (w2) ⟨w.heap.size + 1, 5, none⟩ = some _ := (Y2).cell 5
        go_wp2_with fail
        go_ret
        exact ⟨rfl, T2⟩
      | true =>
        cases g4 : (f.gen == g.gen) with
        | false =>
          go_enter Try.func17, Try.ntmps17
          go_wp2_with fail
          try rw [hw0]
          try clear hw0
          go_at_call 30
          refine Calls.mono I1.out ?_
          rintro e w2 ⟨rfl, t2⟩
          have T2 := T0.trans t2
          have X2 := B0.turns t2 (by simp)
          have Y2 := B1.turns t2 (by simp)
          clear x6 x7 x8 x9 x10 y6 y7 y8 y9 y10
          have x0 : World.cell? (w2) ⟨w.heap.size, 0, none⟩ = some _ := (X2).cell 0
          have x1 : World.cell? (w2) ⟨w.heap.size, 1, none⟩ = some _ := (X2).cell 1
          have x2 : World.cell? (w2) ⟨w.heap.size, 2, none⟩ = some _ := (X2).cell 2
          have x3 : World.cell? (w2) ⟨w.heap.size, 3, none⟩ = some _ := (X2).cell 3
          have x4 : World.cell? (w2) ⟨w.heap.size, 4, none⟩ = some _ := (X2).cell 4
          have x5 : World.cell? (w2) ⟨w.heap.size, 5, none⟩ = some _ := (X2).cell 5
          have y0 : World.cell? (w2) ⟨w.heap.size + 1, 0, none⟩ = some _ := (Y2).cell 0
          have y1 : World.cell? (w2) ⟨w.heap.size + 1, 1, none⟩ = some _ := (Y2).cell 1
          have y2 : World.cell? (w2) ⟨w.heap.size + 1, 2, none⟩ = some _ := (Y2).cell 2
          have y3 : World.cell? (w2) ⟨w.heap.size + 1, 3, none⟩ = some _ := (Y2).cell 3
          have y4 : World.cell? (w2) ⟨w.heap.size + 1, 4, none⟩ = some _ := (Y2).cell 4
          have y5 : World.cell? (w2) ⟨w.heap.size + 1, 5, none⟩ = some _ := (Y2).cell 5
          go_wp2_with fail
          go_ret
          exact ⟨rfl, T2⟩
        | true =>
          cases g5 : (f.hop == g.hop) with
          | false =>
            go_enter Try.func17, Try.ntmps17
            go_wp2_with fail
            try rw [hw0]
            try clear hw0
            go_at_call 30
            refine Calls.mono I1.out ?_
            rintro e w2 ⟨rfl, t2⟩
            have T2 := T0.trans t2
            have X2 := B0.turns t2 (by simp)
            have Y2 := B1.turns t2 (by simp)
            clear x6 x7 x8 x9 x10 y6 y7 y8 y9 y10
            have x0 : World.cell? (w2) ⟨w.heap.size, 0, none⟩ = some _ := (X2).cell 0
            have x1 : World.cell? (w2) ⟨w.heap.size, 1, none⟩ = some _ := (X2).cell 1
            have x2 : World.cell? (w2) ⟨w.heap.size, 2, none⟩ = some _ := (X2).cell 2
            have x3 : World.cell? (w2) ⟨w.heap.size, 3, none⟩ = some _ := (X2).cell 3
            have x4 : World.cell? (w2) ⟨w.heap.size, 4, none⟩ = some _ := (X2).cell 4
            have x5 : World.cell? (w2) ⟨w.heap.size, 5, none⟩ = some _ := (X2).cell 5
            have y0 : World.cell? (w2) ⟨w.heap.size + 1, 0, none⟩ = some _ := (Y2).cell 0
            have y1 : World.cell? (w2) ⟨w.heap.size + 1, 1, none⟩ = some _ := (Y2).cell 1
            have y2 : World.cell? (w2) ⟨w.heap.size + 1, 2, none⟩ = some _ := (Y2).cell 2
            have y3 : World.cell? (w2) ⟨w.heap.size + 1, 3, none⟩ = some _ := (Y2).cell 3
            have y4 : World.cell? (w2) ⟨w.heap.size + 1, 4, none⟩ = some _ := (Y2).cell 4
            have y5 : World.cell? (w2) ⟨w.heap.size + 1, 5, none⟩ = some _ := (Y2).cell 5
            go_wp2_with fail
            go_ret
            exact ⟨rfl, T2⟩
          | true =>
            cases g6 : (f.bits == g.bits) with
            | false =>
              go_enter Try.func17, Try.ntmps17
              go_wp2_with fail
              try rw [hw0]
              try clear hw0
              go_at_call 30
              refine Calls.mono I1.out ?_
              rintro e w2 ⟨rfl, t2⟩
              have T2 := T0.trans t2
              have X2 := B0.turns t2 (by simp)
              have Y2 := B1.turns t2 (by simp)
              clear x6 x7 x8 x9 x10 y6 y7 y8 y9 y10
              have x0 : World.cell? (w2) ⟨w.heap.size, 0, none⟩ = some _ := (X2).cell 0
              have x1 : World.cell? (w2) ⟨w.heap.size, 1, none⟩ = some _ := (X2).cell 1
              have x2 : World.cell? (w2) ⟨w.heap.size, 2, none⟩ = some _ := (X2).cell 2
              have x3 : World.cell? (w2) ⟨w.heap.size, 3, none⟩ = some _ := (X2).cell 3
              have x4 : World.cell? (w2) ⟨w.heap.size, 4, none⟩ = some _ := (X2).cell 4
              have x5 : World.cell? (w2) ⟨w.heap.size, 5, none⟩ = some _ := (X2).cell 5
              have y0 : World.cell? (w2) ⟨w.heap.size + 1, 0, none⟩ = some _ := (Y2).cell 0
              have y1 : World.cell? (w2) ⟨w.heap.size + 1, 1, none⟩ = some _ := (Y2).cell 1
              have y2 : World.cell? (w2) ⟨w.heap.size + 1, 2, none⟩ = some _ := (Y2).cell 2
              have y3 : World.cell? (w2) ⟨w.heap.size + 1, 3, none⟩ = some _ := (Y2).cell 3
              have y4 : World.cell? (w2) ⟨w.heap.size + 1, 4, none⟩ = some _ := (Y2).cell 4
              have y5 : World.cell? (w2) ⟨w.heap.size + 1, 5, none⟩ = some _ := (Y2).cell 5
              go_wp2_with fail
              go_ret
              exact ⟨rfl, T2⟩
            | true =>
              go_enter Try.func17, Try.ntmps17
              go_wp2_with fail
              try rw [hw0]
              try clear hw0
              go_at_call 30
              refine Calls.mono I1.out ?_
              rintro e w2 ⟨rfl, t2⟩
              have T2 := T0.trans t2
              have X2 := B0.turns t2 (by simp)
              have Y2 := B1.turns t2 (by simp)
              clear x6 x7 x8 x9 x10 y6 y7 y8 y9 y10
              have x0 : World.cell? (w2) ⟨w.heap.size, 0, none⟩ = some _ := (X2).cell 0
              have x1 : World.cell? (w2) ⟨w.heap.size, 1, none⟩ = some _ := (X2).cell 1
              have x2 : World.cell? (w2) ⟨w.heap.size, 2, none⟩ = some _ := (X2).cell 2
              have x3 : World.cell? (w2) ⟨w.heap.size, 3, none⟩ = some _ := (X2).cell 3
              have x4 : World.cell? (w2) ⟨w.heap.size, 4, none⟩ = some _ := (X2).cell 4
              have x5 : World.cell? (w2) ⟨w.heap.size, 5, none⟩ = some _ := (X2).cell 5
              have y0 : World.cell? (w2) ⟨w.heap.size + 1, 0, none⟩ = some _ := (Y2).cell 0
              have y1 : World.cell? (w2) ⟨w.heap.size + 1, 1, none⟩ = some _ := (Y2).cell 1
              have y2 : World.cell? (w2) ⟨w.heap.size + 1, 2, none⟩ = some _ := (Y2).cell 2
              have y3 : World.cell? (w2) ⟨w.heap.size + 1, 3, none⟩ = some _ := (Y2).cell 3
              have y4 : World.cell? (w2) ⟨w.heap.size + 1, 4, none⟩ = some _ := (Y2).cell 4
              have y5 : World.cell? (w2) ⟨w.heap.size + 1, 5, none⟩ = some _ := (Y2).cell 5
              go_wp2_with fail
              go_ret
              exact ⟨rfl, T2⟩
end Go.Proofs.Ytohokckpheljbaa.Nr
