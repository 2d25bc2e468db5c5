/- The document's relay: Ack, Drop. -/
import Derived.Test.YtohokckpheljbaaGi
set_option linter.unusedVariables false
set_option linter.unusedSimpArgs false
set_option maxRecDepth 100000
namespace Go.Proofs.Ytohokckpheljbaa.Gj
open Go.RowKit Go.MapKept Go.Shelf Hm Hs Hf Hx Hy Hv Fa Fb Ff Fg Fi Fj Fq Fr_ Ga Gb Gc Gd Ge Gf Gg Gh Gi
theorem frc_form {g : Fr} {w0 : World} {sv rv : Value} (h : TokR w0 g.tok sv rv) : ∃ A1 c1 A3 c3, sv = .slice A1 g.tok.st.length c1 ∧ rv = .slice A3 g.tok.rows.length c3 := by
  obtain ⟨A1, c1, h1, _⟩ := rform h.st
  obtain ⟨A3, c3, h2, _⟩ := h.rows.form
  exact ⟨A1, c1, A3, c3, h1, h2⟩
def ackO (o : Option Fr) (f : Fr) : Bool := match o with | none => false | some g => ackQ g f
set_option maxHeartbeats 4000000 in
theorem dack_is (m : Nat) (w0 w : World) (b : Nat) (n : Int) (o : Option Fr) (f : Fr) (sv rv : Value) (h : IsDoc m w0 w b n o) (ht : TokR w f.tok sv rv) :
    Calls Try.prog 36 #[.pointer (some ⟨b, 0, none⟩), frv f sv rv] w fun e w' => e = .returned (.bool (ackO o f)) ∧ IsDoc m w0 w' b n (relO o (ackO o f)) ∧ Turns [b] w w' := by
  obtain ⟨X, hX⟩ : ∃ X : Ending → World → Prop, X = fun e w' => e = .returned (.bool (ackO o f)) ∧ IsDoc m w0 w' b n (relO o (ackO o f)) ∧ Turns [b] w w' := ⟨_, rfl⟩
  rw [← hX]
  have hXh : Hid (∀ (q : Bool) (w' : World), ackO o f = q → IsDoc m w0 w' b n (relO o q) → Turns [b] w w' → X (.returned (.bool q)) w') := Lib.hid (fun q w' h1 h2 h3 => by rw [hX, h1]; exact ⟨rfl, h2, h3⟩)
  have T0 := (Turns.refl [] w).alloc (.cells (frc f sv rv) 41)
  have R1 := Lib.hid (Fp.rright_is _ f sv rv (ht.turns T0))
  have B0 := Blk.new w (frc f sv rv) 41
  obtain ⟨A1, c1, A3, c3, rfl, rfl⟩ := frc_form ht
  unfold frv
  unfold frv at R1
  have hh := Lib.hid h
  clear h ht hX
  have x0 : World.cell? (w.alloc (.cells (frc f (.slice A1 f.tok.st.length c1) (.slice A3 f.tok.rows.length c3)) 41)) ⟨w.heap.size, 0, none⟩ = some _ := (B0).cell 0
  have x1 : World.cell? (w.alloc (.cells (frc f (.slice A1 f.tok.st.length c1) (.slice A3 f.tok.rows.length c3)) 41)) ⟨w.heap.size, 1, none⟩ = some _ := (B0).cell 1
  have x2 : World.cell? (w.alloc (.cells (frc f (.slice A1 f.tok.st.length c1) (.slice A3 f.tok.rows.length c3)) 41)) ⟨w.heap.size, 2, none⟩ = some _ := (B0).cell 2
  have x3 : World.cell? (w.alloc (.cells (frc f (.slice A1 f.tok.st.length c1) (.slice A3 f.tok.rows.length c3)) 41)) ⟨w.heap.size, 3, none⟩ = some _ := (B0).cell 3
  have x4 : World.cell? (w.alloc (.cells (frc f (.slice A1 f.tok.st.length c1) (.slice A3 f.tok.rows.length c3)) 41)) ⟨w.heap.size, 4, none⟩ = some _ := (B0).cell 4
  have x5 : World.cell? (w.alloc (.cells (frc f (.slice A1 f.tok.st.length c1) (.slice A3 f.tok.rows.length c3)) 41)) ⟨w.heap.size, 5, none⟩ = some _ := (B0).cell 5
  have x6 : World.cell? (w.alloc (.cells (frc f (.slice A1 f.tok.st.length c1) (.slice A3 f.tok.rows.length c3)) 41)) ⟨w.heap.size, 6, none⟩ = some _ := (B0).cell 6
  have x7 : World.cell? (w.alloc (.cells (frc f (.slice A1 f.tok.st.length c1) (.slice A3 f.tok.rows.length c3)) 41)) ⟨w.heap.size, 7, none⟩ = some _ := (B0).cell 7
  have x8 : World.cell? (w.alloc (.cells (frc f (.slice A1 f.tok.st.length c1) (.slice A3 f.tok.rows.length c3)) 41)) ⟨w.heap.size, 8, none⟩ = some _ := (B0).cell 8
  have x9 : World.cell? (w.alloc (.cells (frc f (.slice A1 f.tok.st.length c1) (.slice A3 f.tok.rows.length c3)) 41)) ⟨w.heap.size, 9, none⟩ = some _ := (B0).cell 9
  have x10 : World.cell? (w.alloc (.cells (frc f (.slice A1 f.tok.st.length c1) (.slice A3 f.tok.rows.length c3)) 41)) ⟨w.heap.size, 10, none⟩ = some _ := (B0).cell 10
  cases hr : rightB f with
  | false =>
    have ha : ackO o f = false := by unfold ackO ackQ; cases o with | none => rfl | some g => simp [hr]
    rw [hr] at R1
    clear hr
    go_enter Try.func36, Try.ntmps36
    go_wp2_with fail
    go_at_call 22
    refine Calls.mono (R1.out) ?_
    rintro e w2 ⟨rfl, t2⟩
    have T2 := T0.trans t2
    have B2 := B0.turns t2 (by simp)
    clear x0 x1 x2 x3 x4 x5 x6 x7 x8 x9 x10
    have x0 : World.cell? (w2) ⟨w.heap.size, 0, none⟩ = some _ := (B2).cell 0
    have x1 : World.cell? (w2) ⟨w.heap.size, 1, none⟩ = some _ := (B2).cell 1
    have x2 : World.cell? (w2) ⟨w.heap.size, 2, none⟩ = some _ := (B2).cell 2
    have x3 : World.cell? (w2) ⟨w.heap.size, 3, none⟩ = some _ := (B2).cell 3
    have x4 : World.cell? (w2) ⟨w.heap.size, 4, none⟩ = some _ := (B2).cell 4
    have h2 := hh.out.turns T2
    have hX := hXh.out false _ ha h2 (T2.mono (by simp))
    clear ha h2 hXh hh
    go_wp2_with fail
    exact hX
  | true =>
    rw [hr] at R1
    by_cases hk : f.kind = 1
    · have g0 : (f.kind != 1) = false := by simp [hk]
      cases o with
      | none =>
        have ha : ackO none f = false := rfl
        clear hr hk
        go_enter Try.func36, Try.ntmps36
        go_wp2_with fail
        go_at_call 22
        refine Calls.mono (R1.out) ?_
        rintro e w2 ⟨rfl, t2⟩
        have T2 := T0.trans t2
        have B2 := B0.turns t2 (by simp)
        clear x0 x1 x2 x3 x4 x5 x6 x7 x8 x9 x10
        have x0 : World.cell? (w2) ⟨w.heap.size, 0, none⟩ = some _ := (B2).cell 0
        have x1 : World.cell? (w2) ⟨w.heap.size, 1, none⟩ = some _ := (B2).cell 1
        have x2 : World.cell? (w2) ⟨w.heap.size, 2, none⟩ = some _ := (B2).cell 2
        have x3 : World.cell? (w2) ⟨w.heap.size, 3, none⟩ = some _ := (B2).cell 3
        have x4 : World.cell? (w2) ⟨w.heap.size, 4, none⟩ = some _ := (B2).cell 4
        have h2 := hh.out.turns T2
        have hX := hXh.out false _ ha h2 (T2.mono (by simp))
        have b0 : w2.cell? ⟨b, 0, none⟩ = some (.slice none 0 0) := by
          cases h2 with
          | none hm h => exact h.cell 0
        clear ha h2 hXh hh
        go_wp2_with fail
        exact hX
      | some g =>
        have ha : ackO (some g) f = ((f.frm == g.to) && ((f.to == g.frm) && ((f.gen == g.tok.gen) && (f.hop == g.tok.hop)))) := by unfold ackO ackQ; rw [hr]; simp [hk]
        rw [ha] at hXh
        clear hr hk ha
        obtain ⟨hl1, hl2, hl3, v, hv⟩ := (hh.out).let_go
        clear hl1 hl2 hl3 hv v
        cases g1 : (f.frm == g.to) with
        | false =>
          have e1 : (f.frm != g.to) = true := by simp [bne, g1]
          have ha : ((f.frm == g.to) && ((f.to == g.frm) && ((f.gen == g.tok.gen) && (f.hop == g.tok.hop)))) = false := by rw [g1]; rfl
          go_enter Try.func36, Try.ntmps36
          go_wp2_with fail
          go_at_call 22
          refine Calls.mono (R1.out) ?_
          rintro e w2 ⟨rfl, t2⟩
          have T2 := T0.trans t2
          have B2 := B0.turns t2 (by simp)
          clear x0 x1 x2 x3 x4 x5 x6 x7 x8 x9 x10
          have x0 : World.cell? (w2) ⟨w.heap.size, 0, none⟩ = some _ := (B2).cell 0
          have x1 : World.cell? (w2) ⟨w.heap.size, 1, none⟩ = some _ := (B2).cell 1
          have x2 : World.cell? (w2) ⟨w.heap.size, 2, none⟩ = some _ := (B2).cell 2
          have x3 : World.cell? (w2) ⟨w.heap.size, 3, none⟩ = some _ := (B2).cell 3
          have x4 : World.cell? (w2) ⟨w.heap.size, 4, none⟩ = some _ := (B2).cell 4
          have h2 := hh.out.turns T2
          obtain ⟨fb, sv2, rv2, hB, hF, hg⟩ : ∃ fb sv rv, Blk w2 b #[.slice (some ⟨fb, 0, none⟩) 1 1, .int .i64 n] 30 ∧ Blk w2 fb (frc g sv rv) 41 ∧ TokR w0 g.tok sv rv := by
            cases h2 with
            | some hm g fb sv rv h hfb hB ht => exact ⟨fb, sv, rv, h, hB, ht⟩
          obtain ⟨A5, c5, A6, c6, rfl, rfl⟩ := frc_form hg
          have b0 : World.cell? (w2) ⟨b, 0, none⟩ = some _ := (hB).cell 0
          have q0 : World.cell? (w2) ⟨fb, 0, none⟩ = some _ := (hF).cell 0
          have q1 : World.cell? (w2) ⟨fb, 1, none⟩ = some _ := (hF).cell 1
          have q2 : World.cell? (w2) ⟨fb, 2, none⟩ = some _ := (hF).cell 2
          have q3 : World.cell? (w2) ⟨fb, 3, none⟩ = some _ := (hF).cell 3
          have q4 : World.cell? (w2) ⟨fb, 4, none⟩ = some _ := (hF).cell 4
          have q5 : World.cell? (w2) ⟨fb, 5, none⟩ = some _ := (hF).cell 5
          have q6 : World.cell? (w2) ⟨fb, 6, none⟩ = some _ := (hF).cell 6
          have q7 : World.cell? (w2) ⟨fb, 7, none⟩ = some _ := (hF).cell 7
          have q8 : World.cell? (w2) ⟨fb, 8, none⟩ = some _ := (hF).cell 8
          have q9 : World.cell? (w2) ⟨fb, 9, none⟩ = some _ := (hF).cell 9
          have q10 : World.cell? (w2) ⟨fb, 10, none⟩ = some _ := (hF).cell 10
          have t3 := (Turns.refl [] w2).alloc (.cells (frc g (.slice A5 g.tok.st.length c5) (.slice A6 g.tok.rows.length c6)) 41)
          have B3 := Blk.new w2 (frc g (.slice A5 g.tok.st.length c5) (.slice A6 g.tok.rows.length c6)) 41
          have T3 := T2.trans t3
          have h3 := h2.turns t3
          have X3 := B2.turns t3 (by simp)
          go_upto_region 5 with fail
          generalize w2.alloc (.cells (frc g (.slice A5 g.tok.st.length c5) (.slice A6 g.tok.rows.length c6)) 41) = w3 at *
          clear x0 x1 x2 x3 x4 b0 q0 q1 q2 q3 q4 q5 q6 q7 q8 q9 q10
          have x1 : World.cell? (w3) ⟨w.heap.size, 1, none⟩ = some _ := (X3).cell 1
          have x2 : World.cell? (w3) ⟨w.heap.size, 2, none⟩ = some _ := (X3).cell 2
          have x3 : World.cell? (w3) ⟨w.heap.size, 3, none⟩ = some _ := (X3).cell 3
          have x4 : World.cell? (w3) ⟨w.heap.size, 4, none⟩ = some _ := (X3).cell 4
          have y1 : World.cell? (w3) ⟨w2.heap.size, 1, none⟩ = some _ := (B3).cell 1
          have y2 : World.cell? (w3) ⟨w2.heap.size, 2, none⟩ = some _ := (B3).cell 2
          have y6 : World.cell? (w3) ⟨w2.heap.size, 6, none⟩ = some _ := (B3).cell 6
          have y7 : World.cell? (w3) ⟨w2.heap.size, 7, none⟩ = some _ := (B3).cell 7
          have hX := hXh.out false _ ha h3 (T3.mono (by simp))
          clear ha h3 hXh hh
          go_wp2_with fail
          exact hX
        | true =>
          have e1 : (f.frm != g.to) = false := by simp [bne, g1]
          cases g2 : (f.to == g.frm) with
          | false =>
            have e2 : (f.to != g.frm) = true := by simp [bne, g2]
            have ha : ((f.frm == g.to) && ((f.to == g.frm) && ((f.gen == g.tok.gen) && (f.hop == g.tok.hop)))) = false := by rw [g1, g2]; rfl
            go_enter Try.func36, Try.ntmps36
            go_wp2_with fail
            go_at_call 22
            refine Calls.mono (R1.out) ?_
            rintro e w2 ⟨rfl, t2⟩
            have T2 := T0.trans t2
            have B2 := B0.turns t2 (by simp)
            clear x0 x1 x2 x3 x4 x5 x6 x7 x8 x9 x10
            have x0 : World.cell? (w2) ⟨w.heap.size, 0, none⟩ = some _ := (B2).cell 0
            have x1 : World.cell? (w2) ⟨w.heap.size, 1, none⟩ = some _ := (B2).cell 1
            have x2 : World.cell? (w2) ⟨w.heap.size, 2, none⟩ = some _ := (B2).cell 2
            have x3 : World.cell? (w2) ⟨w.heap.size, 3, none⟩ = some _ := (B2).cell 3
            have x4 : World.cell? (w2) ⟨w.heap.size, 4, none⟩ = some _ := (B2).cell 4
            have h2 := hh.out.turns T2
            obtain ⟨fb, sv2, rv2, hB, hF, hg⟩ : ∃ fb sv rv, Blk w2 b #[.slice (some ⟨fb, 0, none⟩) 1 1, .int .i64 n] 30 ∧ Blk w2 fb (frc g sv rv) 41 ∧ TokR w0 g.tok sv rv := by
              cases h2 with
              | some hm g fb sv rv h hfb hB ht => exact ⟨fb, sv, rv, h, hB, ht⟩
            obtain ⟨A5, c5, A6, c6, rfl, rfl⟩ := frc_form hg
            have b0 : World.cell? (w2) ⟨b, 0, none⟩ = some _ := (hB).cell 0
            have q0 : World.cell? (w2) ⟨fb, 0, none⟩ = some _ := (hF).cell 0
            have q1 : World.cell? (w2) ⟨fb, 1, none⟩ = some _ := (hF).cell 1
            have q2 : World.cell? (w2) ⟨fb, 2, none⟩ = some _ := (hF).cell 2
            have q3 : World.cell? (w2) ⟨fb, 3, none⟩ = some _ := (hF).cell 3
            have q4 : World.cell? (w2) ⟨fb, 4, none⟩ = some _ := (hF).cell 4
            have q5 : World.cell? (w2) ⟨fb, 5, none⟩ = some _ := (hF).cell 5
            have q6 : World.cell? (w2) ⟨fb, 6, none⟩ = some _ := (hF).cell 6
            have q7 : World.cell? (w2) ⟨fb, 7, none⟩ = some _ := (hF).cell 7
            have q8 : World.cell? (w2) ⟨fb, 8, none⟩ = some _ := (hF).cell 8
            have q9 : World.cell? (w2) ⟨fb, 9, none⟩ = some _ := (hF).cell 9
            have q10 : World.cell? (w2) ⟨fb, 10, none⟩ = some _ := (hF).cell 10
            have t3 := (Turns.refl [] w2).alloc (.cells (frc g (.slice A5 g.tok.st.length c5) (.slice A6 g.tok.rows.length c6)) 41)
            have B3 := Blk.new w2 (frc g (.slice A5 g.tok.st.length c5) (.slice A6 g.tok.rows.length c6)) 41
            have T3 := T2.trans t3
            have h3 := h2.turns t3
            have X3 := B2.turns t3 (by simp)
            go_upto_region 5 with fail
            generalize w2.alloc (.cells (frc g (.slice A5 g.tok.st.length c5) (.slice A6 g.tok.rows.length c6)) 41) = w3 at *
            clear x0 x1 x2 x3 x4 b0 q0 q1 q2 q3 q4 q5 q6 q7 q8 q9 q10
            have x1 : World.cell? (w3) ⟨w.heap.size, 1, none⟩ = some _ := (X3).cell 1
            have x2 : World.cell? (w3) ⟨w.heap.size, 2, none⟩ = some _ := (X3).cell 2
            have x3 : World.cell? (w3) ⟨w.heap.size, 3, none⟩ = some _ := (X3).cell 3
            have x4 : World.cell? (w3) ⟨w.heap.size, 4, none⟩ = some _ := (X3).cell 4
            have y1 : World.cell? (w3) ⟨w2.heap.size, 1, none⟩ = some _ := (B3).cell 1
            have y2 : World.cell? (w3) ⟨w2.heap.size, 2, none⟩ = some _ := (B3).cell 2
            have y6 : World.cell? (w3) ⟨w2.heap.size, 6, none⟩ = some _ := (B3).cell 6
            have y7 : World.cell? (w3) ⟨w2.heap.size, 7, none⟩ = some _ := (B3).cell 7
            have hX := hXh.out false _ ha h3 (T3.mono (by simp))
            clear ha h3 hXh hh
            go_wp2_with fail
            exact hX
          | true =>
            have e2 : (f.to != g.frm) = false := by simp [bne, g2]
            cases g3 : (f.gen == g.tok.gen) with
            | false =>
              have e3 : (f.gen != g.tok.gen) = true := by simp [bne, g3]
              have ha : ((f.frm == g.to) && ((f.to == g.frm) && ((f.gen == g.tok.gen) && (f.hop == g.tok.hop)))) = false := by rw [g1, g2, g3]; rfl
              go_enter Try.func36, Try.ntmps36
              go_wp2_with fail
              go_at_call 22
              refine Calls.mono (R1.out) ?_
              rintro e w2 ⟨rfl, t2⟩
              have T2 := T0.trans t2
              have B2 := B0.turns t2 (by simp)
              clear x0 x1 x2 x3 x4 x5 x6 x7 x8 x9 x10
              have x0 : World.cell? (w2) ⟨w.heap.size, 0, none⟩ = some _ := (B2).cell 0
              have x1 : World.cell? (w2) ⟨w.heap.size, 1, none⟩ = some _ := (B2).cell 1
              have x2 : World.cell? (w2) ⟨w.heap.size, 2, none⟩ = some _ := (B2).cell 2
              have x3 : World.cell? (w2) ⟨w.heap.size, 3, none⟩ = some _ := (B2).cell 3
              have x4 : World.cell? (w2) ⟨w.heap.size, 4, none⟩ = some _ := (B2).cell 4
              have h2 := hh.out.turns T2
              obtain ⟨fb, sv2, rv2, hB, hF, hg⟩ : ∃ fb sv rv, Blk w2 b #[.slice (some ⟨fb, 0, none⟩) 1 1, .int .i64 n] 30 ∧ Blk w2 fb (frc g sv rv) 41 ∧ TokR w0 g.tok sv rv := by
                cases h2 with
                | some hm g fb sv rv h hfb hB ht => exact ⟨fb, sv, rv, h, hB, ht⟩
              obtain ⟨A5, c5, A6, c6, rfl, rfl⟩ := frc_form hg
              have b0 : World.cell? (w2) ⟨b, 0, none⟩ = some _ := (hB).cell 0
              have q0 : World.cell? (w2) ⟨fb, 0, none⟩ = some _ := (hF).cell 0
              have q1 : World.cell? (w2) ⟨fb, 1, none⟩ = some _ := (hF).cell 1
              have q2 : World.cell? (w2) ⟨fb, 2, none⟩ = some _ := (hF).cell 2
              have q3 : World.cell? (w2) ⟨fb, 3, none⟩ = some _ := (hF).cell 3
              have q4 : World.cell? (w2) ⟨fb, 4, none⟩ = some _ := (hF).cell 4
              have q5 : World.cell? (w2) ⟨fb, 5, none⟩ = some _ := (hF).cell 5
              have q6 : World.cell? (w2) ⟨fb, 6, none⟩ = some _ := (hF).cell 6
              have q7 : World.cell? (w2) ⟨fb, 7, none⟩ = some _ := (hF).cell 7
              have q8 : World.cell? (w2) ⟨fb, 8, none⟩ = some _ := (hF).cell 8
              have q9 : World.cell? (w2) ⟨fb, 9, none⟩ = some _ := (hF).cell 9
              have q10 : World.cell? (w2) ⟨fb, 10, none⟩ = some _ := (hF).cell 10
              have t3 := (Turns.refl [] w2).alloc (.cells (frc g (.slice A5 g.tok.st.length c5) (.slice A6 g.tok.rows.length c6)) 41)
              have B3 := Blk.new w2 (frc g (.slice A5 g.tok.st.length c5) (.slice A6 g.tok.rows.length c6)) 41
              have T3 := T2.trans t3
              have h3 := h2.turns t3
              have X3 := B2.turns t3 (by simp)
              go_upto_region 5 with fail
              generalize w2.alloc (.cells (frc g (.slice A5 g.tok.st.length c5) (.slice A6 g.tok.rows.length c6)) 41) = w3 at *
              clear x0 x1 x2 x3 x4 b0 q0 q1 q2 q3 q4 q5 q6 q7 q8 q9 q10
              have x1 : World.cell? (w3) ⟨w.heap.size, 1, none⟩ = some _ := (X3).cell 1
              have x2 : World.cell? (w3) ⟨w.heap.size, 2, none⟩ = some _ := (X3).cell 2
              have x3 : World.cell? (w3) ⟨w.heap.size, 3, none⟩ = some _ := (X3).cell 3
              have x4 : World.cell? (w3) ⟨w.heap.size, 4, none⟩ = some _ := (X3).cell 4
              have y1 : World.cell? (w3) ⟨w2.heap.size, 1, none⟩ = some _ := (B3).cell 1
              have y2 : World.cell? (w3) ⟨w2.heap.size, 2, none⟩ = some _ := (B3).cell 2
              have y6 : World.cell? (w3) ⟨w2.heap.size, 6, none⟩ = some _ := (B3).cell 6
              have y7 : World.cell? (w3) ⟨w2.heap.size, 7, none⟩ = some _ := (B3).cell 7
              have hX := hXh.out false _ ha h3 (T3.mono (by simp))
              clear ha h3 hXh hh
              go_wp2_with fail
              exact hX
            | true =>
              have e3 : (f.gen != g.tok.gen) = false := by simp [bne, g3]
              cases g4 : (f.hop == g.tok.hop) with
              | false =>
                have e4 : (f.hop != g.tok.hop) = true := by simp [bne, g4]
                have ha : ((f.frm == g.to) && ((f.to == g.frm) && ((f.gen == g.tok.gen) && (f.hop == g.tok.hop)))) = false := by rw [g1, g2, g3, g4]; rfl
                go_enter Try.func36, Try.ntmps36
                go_wp2_with fail
                go_at_call 22
                refine Calls.mono (R1.out) ?_
                rintro e w2 ⟨rfl, t2⟩
                have T2 := T0.trans t2
                have B2 := B0.turns t2 (by simp)
                clear x0 x1 x2 x3 x4 x5 x6 x7 x8 x9 x10
                have x0 : World.cell? (w2) ⟨w.heap.size, 0, none⟩ = some _ := (B2).cell 0
                have x1 : World.cell? (w2) ⟨w.heap.size, 1, none⟩ = some _ := (B2).cell 1
                have x2 : World.cell? (w2) ⟨w.heap.size, 2, none⟩ = some _ := (B2).cell 2
                have x3 : World.cell? (w2) ⟨w.heap.size, 3, none⟩ = some _ := (B2).cell 3
                have x4 : World.cell? (w2) ⟨w.heap.size, 4, none⟩ = some _ := (B2).cell 4
                have h2 := hh.out.turns T2
                obtain ⟨fb, sv2, rv2, hB, hF, hg⟩ : ∃ fb sv rv, Blk w2 b #[.slice (some ⟨fb, 0, none⟩) 1 1, .int .i64 n] 30 ∧ Blk w2 fb (frc g sv rv) 41 ∧ TokR w0 g.tok sv rv := by
                  cases h2 with
                  | some hm g fb sv rv h hfb hB ht => exact ⟨fb, sv, rv, h, hB, ht⟩
                obtain ⟨A5, c5, A6, c6, rfl, rfl⟩ := frc_form hg
                have b0 : World.cell? (w2) ⟨b, 0, none⟩ = some _ := (hB).cell 0
                have q0 : World.cell? (w2) ⟨fb, 0, none⟩ = some _ := (hF).cell 0
                have q1 : World.cell? (w2) ⟨fb, 1, none⟩ = some _ := (hF).cell 1
                have q2 : World.cell? (w2) ⟨fb, 2, none⟩ = some _ := (hF).cell 2
                have q3 : World.cell? (w2) ⟨fb, 3, none⟩ = some _ := (hF).cell 3
                have q4 : World.cell? (w2) ⟨fb, 4, none⟩ = some _ := (hF).cell 4
                have q5 : World.cell? (w2) ⟨fb, 5, none⟩ = some _ := (hF).cell 5
                have q6 : World.cell? (w2) ⟨fb, 6, none⟩ = some _ := (hF).cell 6
                have q7 : World.cell? (w2) ⟨fb, 7, none⟩ = some _ := (hF).cell 7
                have q8 : World.cell? (w2) ⟨fb, 8, none⟩ = some _ := (hF).cell 8
                have q9 : World.cell? (w2) ⟨fb, 9, none⟩ = some _ := (hF).cell 9
                have q10 : World.cell? (w2) ⟨fb, 10, none⟩ = some _ := (hF).cell 10
                have t3 := (Turns.refl [] w2).alloc (.cells (frc g (.slice A5 g.tok.st.length c5) (.slice A6 g.tok.rows.length c6)) 41)
                have B3 := Blk.new w2 (frc g (.slice A5 g.tok.st.length c5) (.slice A6 g.tok.rows.length c6)) 41
                have T3 := T2.trans t3
                have h3 := h2.turns t3
                have X3 := B2.turns t3 (by simp)
                go_upto_region 5 with fail
                generalize w2.alloc (.cells (frc g (.slice A5 g.tok.st.length c5) (.slice A6 g.tok.rows.length c6)) 41) = w3 at *
                clear x0 x1 x2 x3 x4 b0 q0 q1 q2 q3 q4 q5 q6 q7 q8 q9 q10
                have x1 : World.cell? (w3) ⟨w.heap.size, 1, none⟩ = some _ := (X3).cell 1
                have x2 : World.cell? (w3) ⟨w.heap.size, 2, none⟩ = some _ := (X3).cell 2
                have x3 : World.cell? (w3) ⟨w.heap.size, 3, none⟩ = some _ := (X3).cell 3
                have x4 : World.cell? (w3) ⟨w.heap.size, 4, none⟩ = some _ := (X3).cell 4
                have y1 : World.cell? (w3) ⟨w2.heap.size, 1, none⟩ = some _ := (B3).cell 1
                have y2 : World.cell? (w3) ⟨w2.heap.size, 2, none⟩ = some _ := (B3).cell 2
                have y6 : World.cell? (w3) ⟨w2.heap.size, 6, none⟩ = some _ := (B3).cell 6
                have y7 : World.cell? (w3) ⟨w2.heap.size, 7, none⟩ = some _ := (B3).cell 7
                have hX := hXh.out false _ ha h3 (T3.mono (by simp))
                clear ha h3 hXh hh
                go_wp2_with fail
                exact hX
              | true =>
                have e4 : (f.hop != g.tok.hop) = false := by simp [bne, g4]
                have ha : ((f.frm == g.to) && ((f.to == g.frm) && ((f.gen == g.tok.gen) && (f.hop == g.tok.hop)))) = true := by rw [g1, g2, g3, g4]; rfl
                go_enter Try.func36, Try.ntmps36
                go_wp2_with fail
                go_at_call 22
                refine Calls.mono (R1.out) ?_
                rintro e w2 ⟨rfl, t2⟩
                have T2 := T0.trans t2
                have B2 := B0.turns t2 (by simp)
                clear x0 x1 x2 x3 x4 x5 x6 x7 x8 x9 x10
                have x0 : World.cell? (w2) ⟨w.heap.size, 0, none⟩ = some _ := (B2).cell 0
                have x1 : World.cell? (w2) ⟨w.heap.size, 1, none⟩ = some _ := (B2).cell 1
                have x2 : World.cell? (w2) ⟨w.heap.size, 2, none⟩ = some _ := (B2).cell 2
                have x3 : World.cell? (w2) ⟨w.heap.size, 3, none⟩ = some _ := (B2).cell 3
                have x4 : World.cell? (w2) ⟨w.heap.size, 4, none⟩ = some _ := (B2).cell 4
                have h2 := hh.out.turns T2
                obtain ⟨fb, sv2, rv2, hB, hF, hg⟩ : ∃ fb sv rv, Blk w2 b #[.slice (some ⟨fb, 0, none⟩) 1 1, .int .i64 n] 30 ∧ Blk w2 fb (frc g sv rv) 41 ∧ TokR w0 g.tok sv rv := by
                  cases h2 with
                  | some hm g fb sv rv h hfb hB ht => exact ⟨fb, sv, rv, h, hB, ht⟩
                obtain ⟨A5, c5, A6, c6, rfl, rfl⟩ := frc_form hg
                have b0 : World.cell? (w2) ⟨b, 0, none⟩ = some _ := (hB).cell 0
                have q0 : World.cell? (w2) ⟨fb, 0, none⟩ = some _ := (hF).cell 0
                have q1 : World.cell? (w2) ⟨fb, 1, none⟩ = some _ := (hF).cell 1
                have q2 : World.cell? (w2) ⟨fb, 2, none⟩ = some _ := (hF).cell 2
                have q3 : World.cell? (w2) ⟨fb, 3, none⟩ = some _ := (hF).cell 3
                have q4 : World.cell? (w2) ⟨fb, 4, none⟩ = some _ := (hF).cell 4
                have q5 : World.cell? (w2) ⟨fb, 5, none⟩ = some _ := (hF).cell 5
                have q6 : World.cell? (w2) ⟨fb, 6, none⟩ = some _ := (hF).cell 6
                have q7 : World.cell? (w2) ⟨fb, 7, none⟩ = some _ := (hF).cell 7
                have q8 : World.cell? (w2) ⟨fb, 8, none⟩ = some _ := (hF).cell 8
                have q9 : World.cell? (w2) ⟨fb, 9, none⟩ = some _ := (hF).cell 9
                have q10 : World.cell? (w2) ⟨fb, 10, none⟩ = some _ := (hF).cell 10
                have t3 := (Turns.refl [] w2).alloc (.cells (frc g (.slice A5 g.tok.st.length c5) (.slice A6 g.tok.rows.length c6)) 41)
                have B3 := Blk.new w2 (frc g (.slice A5 g.tok.st.length c5) (.slice A6 g.tok.rows.length c6)) 41
                have T3 := T2.trans t3
                have h3 := h2.turns t3
                have X3 := B2.turns t3 (by simp)
                go_upto_region 5 with fail
                generalize w2.alloc (.cells (frc g (.slice A5 g.tok.st.length c5) (.slice A6 g.tok.rows.length c6)) 41) = w3 at *
                clear x0 x1 x2 x3 x4 b0 q0 q1 q2 q3 q4 q5 q6 q7 q8 q9 q10
                have x1 : World.cell? (w3) ⟨w.heap.size, 1, none⟩ = some _ := (X3).cell 1
                have x2 : World.cell? (w3) ⟨w.heap.size, 2, none⟩ = some _ := (X3).cell 2
                have x3 : World.cell? (w3) ⟨w.heap.size, 3, none⟩ = some _ := (X3).cell 3
                have x4 : World.cell? (w3) ⟨w.heap.size, 4, none⟩ = some _ := (X3).cell 4
                have y1 : World.cell? (w3) ⟨w2.heap.size, 1, none⟩ = some _ := (B3).cell 1
                have y2 : World.cell? (w3) ⟨w2.heap.size, 2, none⟩ = some _ := (B3).cell 2
                have y6 : World.cell? (w3) ⟨w2.heap.size, 6, none⟩ = some _ := (B3).cell 6
                have y7 : World.cell? (w3) ⟨w2.heap.size, 7, none⟩ = some _ := (B3).cell 7
                obtain ⟨bf, hn, tn, v, bv⟩ := h3.let_go
                have hX := hXh.out true _ ha hn ((T3.mono (by simp)).trans tn)
                clear ha h3 hXh hh hn tn
                go_wp2_with fail
                exact hX
    · have g0 : (f.kind != 1) = true := by simp [hk]
      have ha : ackO o f = false := by unfold ackO ackQ; cases o with | none => rfl | some g => simp [hk]
      clear hr hk
      go_enter Try.func36, Try.ntmps36
      go_wp2_with fail
      go_at_call 22
      refine Calls.mono (R1.out) ?_
      rintro e w2 ⟨rfl, t2⟩
      have T2 := T0.trans t2
      have B2 := B0.turns t2 (by simp)
      clear x0 x1 x2 x3 x4 x5 x6 x7 x8 x9 x10
      have x0 : World.cell? (w2) ⟨w.heap.size, 0, none⟩ = some _ := (B2).cell 0
      have x1 : World.cell? (w2) ⟨w.heap.size, 1, none⟩ = some _ := (B2).cell 1
      have x2 : World.cell? (w2) ⟨w.heap.size, 2, none⟩ = some _ := (B2).cell 2
      have x3 : World.cell? (w2) ⟨w.heap.size, 3, none⟩ = some _ := (B2).cell 3
      have x4 : World.cell? (w2) ⟨w.heap.size, 4, none⟩ = some _ := (B2).cell 4
      have h2 := hh.out.turns T2
      have hX := hXh.out false _ ha h2 (T2.mono (by simp))
      clear ha h2 hXh hh
      go_wp2_with fail
      exact hX
def dropO (o : Option Fr) (g h : Int) : Bool := match o with | none => false | some f => newerB g h f.tok.gen f.tok.hop
set_option maxHeartbeats 2000000 in
theorem ddrop_is (m : Nat) (w0 w : World) (b : Nat) (n : Int) (o : Option Fr) (g h : Int) (hd : IsDoc m w0 w b n o) :
    Calls Try.prog 37 #[.pointer (some ⟨b, 0, none⟩), .agg #[.int .i64 g, .int .i64 h]] w fun e w' => e = .returned (.bool (dropO o g h)) ∧ IsDoc m w0 w' b n (relO o (dropO o g h)) ∧ Turns [b] w w' := by
  have T0 := (Turns.refl [] w).alloc (.cells #[.int .i64 g, .int .i64 h] 76)
  have B0 := Blk.new w #[.int .i64 g, .int .i64 h] 76
  have h0 := hd.turns T0
  cases o with
  | none =>
    have b0 : (w.alloc (.cells #[.int .i64 g, .int .i64 h] 76)).cell? ⟨b, 0, none⟩ = some (.slice none 0 0) := by
      cases h0 with
      | none hm h => exact h.cell 0
    unfold dropO relO
    simp only [Bool.false_eq_true, if_false]
    clear hd
    go_enter Try.func37, Try.ntmps37
    go_wp2_with fail
    go_ret
    exact ⟨rfl, h0, T0.mono (by simp)⟩
  | some f =>
    obtain ⟨fb, sv2, rv2, hB, hF, hg⟩ : ∃ fb sv rv, Blk (w.alloc (.cells #[.int .i64 g, .int .i64 h] 76)) b #[.slice (some ⟨fb, 0, none⟩) 1 1, .int .i64 n] 30 ∧ Blk (w.alloc (.cells #[.int .i64 g, .int .i64 h] 76)) fb (frc f sv rv) 41 ∧ TokR w0 f.tok sv rv := by
      cases h0 with
      | some hm g fb sv rv h hfb hB ht => exact ⟨fb, sv, rv, h, hB, ht⟩
    obtain ⟨A5, c5, A6, c6, rfl, rfl⟩ := frc_form hg
    unfold dropO
    simp only
    have Nw := Lib.hid (fun W => rnewer_is W g h f.tok.gen f.tok.hop)
    generalize newerB g h f.tok.gen f.tok.hop = z at *
    clear hd
    generalize hw1 : w.alloc (.cells #[.int .i64 g, .int .i64 h] 76) = w1 at *
    have b0 : World.cell? (w1) ⟨b, 0, none⟩ = some _ := (hB).cell 0
    have q6 : World.cell? (w1) ⟨fb, 6, none⟩ = some _ := (hF).cell 6
    have q7 : World.cell? (w1) ⟨fb, 7, none⟩ = some _ := (hF).cell 7
    have q8 : World.cell? (w1) ⟨fb, 8, none⟩ = some _ := (hF).cell 8
    have q9 : World.cell? (w1) ⟨fb, 9, none⟩ = some _ := (hF).cell 9
    have q10 : World.cell? (w1) ⟨fb, 10, none⟩ = some _ := (hF).cell 10
    have t3 := (Turns.refl [] w1).alloc (.cells #[.int .i64 f.tok.gen, .int .i64 f.tok.hop, .slice A5 f.tok.st.length c5, .int .i64 f.tok.start, .slice A6 f.tok.rows.length c6] 39)
    have B3 := Blk.new w1 #[.int .i64 f.tok.gen, .int .i64 f.tok.hop, .slice A5 f.tok.st.length c5, .int .i64 f.tok.start, .slice A6 f.tok.rows.length c6] 39
    have T3 := T0.trans t3
    have h3 := h0.turns t3
    have P3 := B0.turns t3 (by simp)
    go_enter Try.func37, Try.ntmps37
    go_upto_region 1 with fail
    try rw [hw1]
    clear hw1
    go_upto_region 4 with fail
    generalize w1.alloc (.cells #[.int .i64 f.tok.gen, .int .i64 f.tok.hop, .slice A5 f.tok.st.length c5, .int .i64 f.tok.start, .slice A6 f.tok.rows.length c6] 39) = w3 at *
    clear b0 q6 q7 q8 q9 q10
    have p0 : World.cell? (w3) ⟨w.heap.size, 0, none⟩ = some _ := (P3).cell 0
    have p1 : World.cell? (w3) ⟨w.heap.size, 1, none⟩ = some _ := (P3).cell 1
    have y0 : World.cell? (w3) ⟨w1.heap.size, 0, none⟩ = some _ := (B3).cell 0
    have y1 : World.cell? (w3) ⟨w1.heap.size, 1, none⟩ = some _ := (B3).cell 1
    go_wp2_with fail
    go_at_call 78
    refine Calls.mono (Nw.out _) ?_
    rintro e w4 ⟨rfl, t4⟩
    have T4 := T3.trans t4
    have h4 := h3.turns t4
    cases z with
    | false =>
      go_wp2_with fail
      go_ret
      exact ⟨rfl, h4, T4.mono (by simp)⟩
    | true =>
      obtain ⟨bf, hn, tn, v, bv⟩ := h4.let_go
      have T5 := (T4.mono (G := [b]) (by simp)).trans tn
      go_wp2_with fail
      go_ret
      exact ⟨rfl, hn, T5⟩
end Go.Proofs.Ytohokckpheljbaa.Gj
