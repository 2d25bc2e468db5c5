/- The walks of package relay: Ack. -/
import Derived.Test.YtohokckpheljbaaGe
set_option linter.unusedVariables false
set_option linter.unusedSimpArgs false
set_option maxRecDepth 100000
namespace Go.Proofs.Ytohokckpheljbaa.Gf
open Go.RowKit Go.MapKept Go.Shelf Hm Hs Hf Hg Hw Hx Hy Hv Fa Fb Ff Fg Fi Fj Fq Fr_ Ga Gb Gc Gd Ge
theorem ack_nil (w : World) (f : Fr) (sv rv : Value) (h : TokR w f.tok sv rv) : Calls Try.prog 14 #[.pointer none, frv f sv rv] w fun e w' => e = .returned (.bool false) ∧ Turns [] w w' := by
  obtain ⟨A1, c1, rfl, _⟩ := rform h.st
  obtain ⟨A3, c3, rfl, _⟩ := h.rows.form
  unfold frv
  clear h
  go_enter Try.func14, Try.ntmps14
  go_wp2_with fail
  go_ret
  exact ⟨rfl, (Turns.refl _ _).alloc _⟩
theorem ack_none (m : Nat) (w : World) (b : Nat) (cnt : Int) (f : Fr) (sv rv : Value) (hr : IsRelay m w b cnt none) (h : TokR w f.tok sv rv) : Calls Try.prog 14 #[.pointer (some ⟨b, 0, none⟩), frv f sv rv] w fun e w' => e = .returned (.bool false) ∧ Turns [] w w' := by
  have T := (Turns.refl [] w).alloc (.cells (frc f sv rv) 41)
  have hc : w.cell? ⟨b, 0, none⟩ = some (.pointer none) := by
    cases hr with
    | none hm h => exact h.cell 0
  have c0 := T.old hc
  obtain ⟨A1, c1, rfl, _⟩ := rform h.st
  obtain ⟨A3, c3, rfl, _⟩ := h.rows.form
  unfold frv
  clear h hr hc
  go_enter Try.func14, Try.ntmps14
  go_wp2_with fail
  go_ret
  exact ⟨rfl, T⟩
def ackQ (g f : Fr) : Bool := rightB f && ((f.kind == 1) && ((f.frm == g.to) && ((f.to == g.frm) && ((f.gen == g.tok.gen) && (f.hop == g.tok.hop)))))
set_option maxHeartbeats 8000000 in
theorem ack_some (m : Nat) (w : World) (b : Nat) (cnt : Int) (g f : Fr) (sv rv : Value) (hr : IsRelay m w b cnt (some g)) (h : TokR w f.tok sv rv) (hn : f.tok.st.length ≤ 100000) : Calls Try.prog 14 #[.pointer (some ⟨b, 0, none⟩), frv f sv rv] w fun e w' => e = .returned (.bool (ackQ g f)) ∧ IsRelay m w' b cnt (relO (some g) (ackQ g f)) ∧ Turns [b] w w' := by
  have T0 := (Turns.refl [] w).alloc (.cells (frc f sv rv) 41)
  have B0 := Blk.new w (frc f sv rv) 41
  have R1 := Lib.hid (Fo.right_is _ f sv rv (h.turns T0) hn)
  obtain ⟨A1, c1, rfl, _⟩ := rform h.st
  obtain ⟨A3, c3, rfl, _⟩ := h.rows.form
  obtain ⟨X, hX⟩ : ∃ X : Ending → World → Prop, X = fun e w' => e = .returned (.bool (ackQ g f)) ∧ IsRelay m w' b cnt (relO (some g) (ackQ g f)) ∧ Turns [b] w w' := ⟨_, rfl⟩
  rw [← hX]
  have hXh : Hid (∀ (q : Bool) (w' : World), ackQ g f = q → IsRelay m w' b cnt (relO (some g) q) → Turns [b] w w' → X (.returned (.bool q)) w') := Lib.hid (fun q w' h1 h2 h3 => by rw [hX, h1]; exact ⟨rfl, h2, h3⟩)
  obtain ⟨hb, sv2, rv2, hB, hh⟩ : ∃ hb sv rv, Blk w b #[.pointer (some ⟨hb, 0, none⟩), .int .i64 cnt] 74 ∧ HeldAt w m hb g sv rv := by
    cases hr with
    | some hm g hb sv rv h hh => exact ⟨hb, sv, rv, h, hh⟩
  obtain ⟨A5, c5, rfl, _⟩ := rform hh.tok.st
  obtain ⟨A6, c6, rfl, _⟩ := hh.tok.tok.rows.form
  have hbm := hr.bm
  have hrh := Lib.hid hr
  have hhh := Lib.hid hh
  have hBh := Lib.hid hB
  have b0 : (w.alloc (.cells (frc f (.slice A1 f.tok.st.length c1) (.slice A3 f.tok.rows.length c3)) 41)).cell? ⟨b, 0, none⟩ = some _ := T0.old (hB.cell 0)
  unfold frv
  unfold frv at R1
  have x0 : World.cell? (w.alloc (.cells (frc f (.slice A1 f.tok.st.length c1) (.slice A3 f.tok.rows.length c3)) 41)) ⟨w.heap.size, 0, none⟩ = some _ := (B0).cell 0
  have x1 : World.cell? (w.alloc (.cells (frc f (.slice A1 f.tok.st.length c1) (.slice A3 f.tok.rows.length c3)) 41)) ⟨w.heap.size, 1, none⟩ = some _ := (B0).cell 1
  have x2 : World.cell? (w.alloc (.cells (frc f (.slice A1 f.tok.st.length c1) (.slice A3 f.tok.rows.length c3)) 41)) ⟨w.heap.size, 2, none⟩ = some _ := (B0).cell 2
  have x3 : World.cell? (w.alloc (.cells (frc f (.slice A1 f.tok.st.length c1) (.slice A3 f.tok.rows.length c3)) 41)) ⟨w.heap.size, 3, none⟩ = some _ := (B0).cell 3
  have x4 : World.cell? (w.alloc (.cells (frc f (.slice A1 f.tok.st.length c1) (.slice A3 f.tok.rows.length c3)) 41)) ⟨w.heap.size, 4, none⟩ = some _ := (B0).cell 4
  have x5 : World.cell? (w.alloc (.cells (frc f (.slice A1 f.tok.st.length c1) (.slice A3 f.tok.rows.length c3)) 41)) ⟨w.heap.size, 5, none⟩ = some _ := (B0).cell 5
  have x6 : World.cell? (w.alloc (.cells (frc f (.slice A1 f.tok.st.length c1) (.slice A3 f.tok.rows.length c3)) 41)) ⟨w.heap.size, 6, none⟩ = some _ := (B0).cell 6
  have x7 : World.cell? (w.alloc (.cells (frc f (.slice A1 f.tok.st.length c1) (.slice A3 f.tok.rows.length c3)) 41)) ⟨w.heap.size, 7, none⟩ = some _ := (B0).cell 7
  have x8 : World.cell? (w.alloc (.cells (frc f (.slice A1 f.tok.st.length c1) (.slice A3 f.tok.rows.length c3)) 41)) ⟨w.heap.size, 8, none⟩ = some _ := (B0).cell 8
  have x9 : World.cell? (w.alloc (.cells (frc f (.slice A1 f.tok.st.length c1) (.slice A3 f.tok.rows.length c3)) 41)) ⟨w.heap.size, 9, none⟩ = some _ := (B0).cell 9
  have x10 : World.cell? (w.alloc (.cells (frc f (.slice A1 f.tok.st.length c1) (.slice A3 f.tok.rows.length c3)) 41)) ⟨w.heap.size, 10, none⟩ = some _ := (B0).cell 10
  clear h hX hr hh hB
  cases hq : rightB f with
  | false =>
    have ha : ackQ g f = false := by unfold ackQ; rw [hq]; rfl
    rw [hq] at R1
    clear hq
    go_enter Try.func14, Try.ntmps14
    go_wp2_with fail
    go_at_call 23
    refine Calls.mono (R1.out) ?_
    rintro e w2 ⟨rfl, t2⟩
    have T2 := T0.trans t2
    have B2 := B0.turns t2 (by simp)
    clear x0 x1 x2 x3 x4 x5 x6 x7 x8 x9 x10 b0
    have x0 : World.cell? (w2) ⟨w.heap.size, 0, none⟩ = some _ := (B2).cell 0
    have x1 : World.cell? (w2) ⟨w.heap.size, 1, none⟩ = some _ := (B2).cell 1
    have x2 : World.cell? (w2) ⟨w.heap.size, 2, none⟩ = some _ := (B2).cell 2
    have x3 : World.cell? (w2) ⟨w.heap.size, 3, none⟩ = some _ := (B2).cell 3
    have x4 : World.cell? (w2) ⟨w.heap.size, 4, none⟩ = some _ := (B2).cell 4
    have hX := hXh.out false _ ha (hrh.out.turns T2) (T2.mono (by simp))
    clear ha
    go_wp2_with fail
    exact hX
  | true =>
    rw [hq] at R1
    by_cases hk : f.kind = 1
    · have g0 : (f.kind != 1) = false := by simp [hk]
      have ha : ackQ g f = ((f.frm == g.to) && ((f.to == g.frm) && ((f.gen == g.tok.gen) && (f.hop == g.tok.hop)))) := by unfold ackQ; rw [hq]; simp [hk]
      rw [ha] at hXh
      clear hq hk ha
      cases g1 : (f.frm == g.to) with
      | false =>
        have ha : ((f.frm == g.to) && ((f.to == g.frm) && ((f.gen == g.tok.gen) && (f.hop == g.tok.hop)))) = false := by rw [g1]; rfl
        go_enter Try.func14, Try.ntmps14
        go_wp2_with fail
        go_at_call 23
        refine Calls.mono (R1.out) ?_
        rintro e w2 ⟨rfl, t2⟩
        have T2 := T0.trans t2
        have B2 := B0.turns t2 (by simp)
        clear x0 x1 x2 x3 x4 x5 x6 x7 x8 x9 x10 b0
        have x0 : World.cell? (w2) ⟨w.heap.size, 0, none⟩ = some _ := (B2).cell 0
        have x1 : World.cell? (w2) ⟨w.heap.size, 1, none⟩ = some _ := (B2).cell 1
        have x2 : World.cell? (w2) ⟨w.heap.size, 2, none⟩ = some _ := (B2).cell 2
        have x3 : World.cell? (w2) ⟨w.heap.size, 3, none⟩ = some _ := (B2).cell 3
        have x4 : World.cell? (w2) ⟨w.heap.size, 4, none⟩ = some _ := (B2).cell 4
        have T3 := (T2.alloc (.cells #[.int .i64 f.gen, .int .i64 f.hop] 52)).drew
        have B3 := ((B2.alloc (.cells #[.int .i64 f.gen, .int .i64 f.hop] 52))).drew
        have P3 := (Blk.new w2 #[.int .i64 f.gen, .int .i64 f.hop] 52).drew
        go_wp2_with fail
        clear x0 x1 x2 x3 x4
        go_wp2_with fail
        refine wp_region_flo4 [(0, true, [32], []), (1, true, [], [[32, 23, 11, 10, 2], [35, 34, 23, 11, 10, 2]]), (2, true, [], [[32, 23, 11, 10], [35, 34, 23, 11, 10]]), (3, true, [], [[32, 23, 11, 10, 9, 8, 7, 6, 5, 4], [35, 34, 23, 11, 10, 9, 8, 7, 6, 5, 4]]), (4, true, [], [[32, 23, 11, 10, 9, 8, 7, 6, 5], [35, 34, 23, 11, 10, 9, 8, 7, 6, 5]]), (5, true, [], [[32, 23, 11, 10, 9, 8, 7, 6], [35, 34, 23, 11, 10, 9, 8, 7, 6]]), (6, true, [], [[32, 23, 11, 10, 9, 8, 7], [35, 34, 23, 11, 10, 9, 8, 7]]), (7, true, [], [[32, 23, 11, 10, 9, 8], [35, 34, 23, 11, 10, 9, 8]]), (8, true, [], [[32, 23, 11, 10, 9], [35, 34, 23, 11, 10, 9]]), (9, true, [], [[32, 23, 11, 10], [35, 34, 23, 11, 10]]), (10, true, [], [[32, 23, 11], [35, 34, 23, 11]]), (11, true, [], [[32, 23], [35, 34, 23]]), (12, true, [], [[32, 23, 22, 21, 13], [35, 34, 23, 22, 21, 13]]), (13, true, [], [[32, 23, 22, 21], [35, 34, 23, 22, 21]]), (14, true, [], [[32, 23, 22, 21, 20, 19, 18, 17, 16, 15], [35, 34, 23, 22, 21, 20, 19, 18, 17, 16, 15]]), (15, true, [], [[32, 23, 22, 21, 20, 19, 18, 17, 16], [35, 34, 23, 22, 21, 20, 19, 18, 17, 16]]), (16, true, [], [[32, 23, 22, 21, 20, 19, 18, 17], [35, 34, 23, 22, 21, 20, 19, 18, 17]]), (17, true, [], [[32, 23, 22, 21, 20, 19, 18], [35, 34, 23, 22, 21, 20, 19, 18]]), (18, true, [], [[32, 23, 22, 21, 20, 19], [35, 34, 23, 22, 21, 20, 19]]), (19, true, [], [[32, 23, 22, 21, 20], [35, 34, 23, 22, 21, 20]]), (20, true, [], [[32, 23, 22, 21], [35, 34, 23, 22, 21]]), (21, true, [], [[32, 23, 22], [35, 34, 23, 22]]), (22, true, [], [[32, 23], [35, 34, 23]]), (23, true, [], [[35, 34]]), (24, true, [32], [[35, 34, 33]]), (25, true, [], [[32, 31, 30, 29, 28, 27, 26], [35, 32, 31, 30, 29, 28, 27, 26]]), (26, true, [], [[32, 31, 30, 29, 28, 27], [35, 32, 31, 30, 29, 28, 27]]), (27, true, [], [[32, 31, 30, 29, 28], [35, 32, 31, 30, 29, 28]]), (28, true, [], [[32, 31, 30, 29], [35, 32, 31, 30, 29]]), (29, true, [], [[32, 31, 30], [35, 32, 31, 30]]), (30, true, [], [[32, 31], [35, 32, 31]]), (31, true, [], [[35, 32]]), (32, false, [], []), (33, true, [], [[35, 34]]), (34, true, [], []), (35, false, [], []), (36, true, [], [])] (fun j W => Kl 35 (w2.alloc (.cells #[.int .i64 f.gen, .int .i64 f.hop] 52)).drew W j) (by kernel_rfl) rfl (by kernel_rfl) (by intro c d v a w h; cases d <;> first | (simpa [Exit.then, Exit.inBlock, Act.put] using h) | exact h) ?_
        generalize (w2.alloc (.cells #[.int .i64 f.gen, .int .i64 f.hop] 52)).drew = w3 at *
        have At := Lib.hid (fun W (t : Turns [] w3 W) => at_is W g.tok _ _ (hhh.out.far (T3.trans t) (by simp)).tok.tok)
        unfold tkv at At
        have x1 : World.cell? (w3) ⟨w.heap.size, 1, none⟩ = some _ := (B3).cell 1
        have x2 : World.cell? (w3) ⟨w.heap.size, 2, none⟩ = some _ := (B3).cell 2
        have p0 : World.cell? (w3) ⟨w2.heap.size, 0, none⟩ = some _ := (P3).cell 0
        have p1 : World.cell? (w3) ⟨w2.heap.size, 1, none⟩ = some _ := (P3).cell 1
        have h1 : World.cell? (w3) ⟨hb, 1, none⟩ = some _ := ((hhh.out.far T3 (by simp)).blk).cell 1
        have h2 : World.cell? (w3) ⟨hb, 2, none⟩ = some _ := ((hhh.out.far T3 (by simp)).blk).cell 2
        have h6 : World.cell? (w3) ⟨hb, 6, none⟩ = some _ := ((hhh.out.far T3 (by simp)).blk).cell 6
        have h7 : World.cell? (w3) ⟨hb, 7, none⟩ = some _ := ((hhh.out.far T3 (by simp)).blk).cell 7
        have h8 : World.cell? (w3) ⟨hb, 8, none⟩ = some _ := ((hhh.out.far T3 (by simp)).blk).cell 8
        have h9 : World.cell? (w3) ⟨hb, 9, none⟩ = some _ := ((hhh.out.far T3 (by simp)).blk).cell 9
        have h10 : World.cell? (w3) ⟨hb, 10, none⟩ = some _ := ((hhh.out.far T3 (by simp)).blk).cell 10
        have b0 : World.cell? (w3) ⟨b, 0, none⟩ = some _ := (hBh.out.turns T3 (by simp)).cell 0
        refine flo4_read _ rfl (fun W => Turns [] w3 W) (Turns.refl _ _) (fun j hj W hW => hW.out (by simp at hj <;> omega)) (fun K hK => ?_)
        go_simp
        first | (refine hK _ ?_) | (refine ⟨fun W hS => ?_, hK _ ?_⟩; · (have X1 := hS.old x1; have X2 := hS.old x2; have P0 := hS.old p0; have P1 := hS.old p1; have H1 := hS.old h1; have H2 := hS.old h2; have H6 := hS.old h6; have H7 := hS.old h7; have H8 := hS.old h8; have H9 := hS.old h9; have H10 := hS.old h10; have B0 := hS.old b0; try go_simp))
        clear hK K
        refine flo4_read _ rfl (fun W => Turns [] w3 W) (Turns.refl _ _) (fun j hj W hW => hW.out (by simp at hj <;> omega)) (fun K hK => ?_)
        go_simp
        first | (refine hK _ ?_) | (refine ⟨fun W hS => ?_, hK _ ?_⟩; · (have X1 := hS.old x1; have X2 := hS.old x2; have P0 := hS.old p0; have P1 := hS.old p1; have H1 := hS.old h1; have H2 := hS.old h2; have H6 := hS.old h6; have H7 := hS.old h7; have H8 := hS.old h8; have H9 := hS.old h9; have H10 := hS.old h10; have B0 := hS.old b0; try go_simp))
        clear hK K
        refine flo4_read _ rfl (fun W => Turns [] w3 W) (Turns.refl _ _) (fun j hj W hW => hW.out (by simp at hj <;> omega)) (fun K hK => ?_)
        go_simp
        first | (refine hK _ ?_) | (refine ⟨fun W hS => ?_, hK _ ?_⟩; · (have X1 := hS.old x1; have X2 := hS.old x2; have P0 := hS.old p0; have P1 := hS.old p1; have H1 := hS.old h1; have H2 := hS.old h2; have H6 := hS.old h6; have H7 := hS.old h7; have H8 := hS.old h8; have H9 := hS.old h9; have H10 := hS.old h10; have B0 := hS.old b0; try go_simp))
        clear hK K
        refine flo4_read _ rfl (fun W => Turns [] w3 W) (Turns.refl _ _) (fun j hj W hW => hW.out (by simp at hj <;> omega)) (fun K hK => ?_)
        go_simp
        first | (refine hK _ ?_) | (refine ⟨fun W hS => ?_, hK _ ?_⟩; · (have X1 := hS.old x1; have X2 := hS.old x2; have P0 := hS.old p0; have P1 := hS.old p1; have H1 := hS.old h1; have H2 := hS.old h2; have H6 := hS.old h6; have H7 := hS.old h7; have H8 := hS.old h8; have H9 := hS.old h9; have H10 := hS.old h10; have B0 := hS.old b0; try go_simp))
        clear hK K
        refine flo4_read _ rfl (fun W => Turns [] w3 W) (Turns.refl _ _) (fun j hj W hW => hW.out (by simp at hj <;> omega)) (fun K hK => ?_)
        go_simp
        first | (refine hK _ ?_) | (refine ⟨fun W hS => ?_, hK _ ?_⟩; · (have X1 := hS.old x1; have X2 := hS.old x2; have P0 := hS.old p0; have P1 := hS.old p1; have H1 := hS.old h1; have H2 := hS.old h2; have H6 := hS.old h6; have H7 := hS.old h7; have H8 := hS.old h8; have H9 := hS.old h9; have H10 := hS.old h10; have B0 := hS.old b0; try go_simp))
        clear hK K
        refine flo4_read _ rfl (fun W => Turns [] w3 W) (Turns.refl _ _) (fun j hj W hW => hW.out (by simp at hj <;> omega)) (fun K hK => ?_)
        go_simp
        first | (refine hK _ ?_) | (refine ⟨fun W hS => ?_, hK _ ?_⟩; · (have X1 := hS.old x1; have X2 := hS.old x2; have P0 := hS.old p0; have P1 := hS.old p1; have H1 := hS.old h1; have H2 := hS.old h2; have H6 := hS.old h6; have H7 := hS.old h7; have H8 := hS.old h8; have H9 := hS.old h9; have H10 := hS.old h10; have B0 := hS.old b0; try go_simp))
        clear hK K
        refine flo4_read _ rfl (fun W => Turns [] w3 W) (Turns.refl _ _) (fun j hj W hW => hW.out (by simp at hj <;> omega)) (fun K hK => ?_)
        go_simp
        first | (refine hK _ ?_) | (refine ⟨fun W hS => ?_, hK _ ?_⟩; · (have X1 := hS.old x1; have X2 := hS.old x2; have P0 := hS.old p0; have P1 := hS.old p1; have H1 := hS.old h1; have H2 := hS.old h2; have H6 := hS.old h6; have H7 := hS.old h7; have H8 := hS.old h8; have H9 := hS.old h9; have H10 := hS.old h10; have B0 := hS.old b0; try go_simp))
        clear hK K
        refine flo4_read _ rfl (fun W => Turns [] w3 W) (Turns.refl _ _) (fun j hj W hW => hW.out (by simp at hj <;> omega)) (fun K hK => ?_)
        go_simp
        first | (refine hK _ ?_) | (refine ⟨fun W hS => ?_, hK _ ?_⟩; · (have X1 := hS.old x1; have X2 := hS.old x2; have P0 := hS.old p0; have P1 := hS.old p1; have H1 := hS.old h1; have H2 := hS.old h2; have H6 := hS.old h6; have H7 := hS.old h7; have H8 := hS.old h8; have H9 := hS.old h9; have H10 := hS.old h10; have B0 := hS.old b0; try go_simp))
        clear hK K
        refine flo4_read _ rfl (fun W => Turns [] w3 W) (Turns.refl _ _) (fun j hj W hW => hW.out (by simp at hj <;> omega)) (fun K hK => ?_)
        go_simp
        first | (refine hK _ ?_) | (refine ⟨fun W hS => ?_, hK _ ?_⟩; · (have X1 := hS.old x1; have X2 := hS.old x2; have P0 := hS.old p0; have P1 := hS.old p1; have H1 := hS.old h1; have H2 := hS.old h2; have H6 := hS.old h6; have H7 := hS.old h7; have H8 := hS.old h8; have H9 := hS.old h9; have H10 := hS.old h10; have B0 := hS.old b0; try go_simp))
        clear hK K
        refine flo4_read _ rfl (fun W => Turns [] w3 W) (Turns.refl _ _) (fun j hj W hW => hW.out (by simp at hj <;> omega)) (fun K hK => ?_)
        go_simp
        first | (refine hK _ ?_) | (refine ⟨fun W hS => ?_, hK _ ?_⟩; · (have X1 := hS.old x1; have X2 := hS.old x2; have P0 := hS.old p0; have P1 := hS.old p1; have H1 := hS.old h1; have H2 := hS.old h2; have H6 := hS.old h6; have H7 := hS.old h7; have H8 := hS.old h8; have H9 := hS.old h9; have H10 := hS.old h10; have B0 := hS.old b0; try go_simp))
        clear hK K
        refine flo4_read _ rfl (fun W => Turns [] w3 W) (Turns.refl _ _) (fun j hj W hW => hW.out (by simp at hj <;> omega)) (fun K hK => ?_)
        go_simp
        first | (refine hK _ ?_) | (refine ⟨fun W hS => ?_, hK _ ?_⟩; · (have X1 := hS.old x1; have X2 := hS.old x2; have P0 := hS.old p0; have P1 := hS.old p1; have H1 := hS.old h1; have H2 := hS.old h2; have H6 := hS.old h6; have H7 := hS.old h7; have H8 := hS.old h8; have H9 := hS.old h9; have H10 := hS.old h10; have B0 := hS.old b0; try go_simp))
        clear hK K
        refine flo4_read _ rfl (fun W => Turns [] w3 W) (Turns.refl _ _) (fun j hj W hW => hW.out (by simp at hj <;> omega)) (fun K hK => ?_)
        go_simp
        first | (refine hK _ ?_) | (refine ⟨fun W hS => ?_, hK _ ?_⟩; · (have X1 := hS.old x1; have X2 := hS.old x2; have P0 := hS.old p0; have P1 := hS.old p1; have H1 := hS.old h1; have H2 := hS.old h2; have H6 := hS.old h6; have H7 := hS.old h7; have H8 := hS.old h8; have H9 := hS.old h9; have H10 := hS.old h10; have B0 := hS.old b0; try go_simp))
        clear hK K
        refine flo4_read _ rfl (fun W => Turns [] w3 W) (Turns.refl _ _) (fun j hj W hW => hW.out (by simp at hj <;> omega)) (fun K hK => ?_)
        go_simp
        first | (refine hK _ ?_) | (refine ⟨fun W hS => ?_, hK _ ?_⟩; · (have X1 := hS.old x1; have X2 := hS.old x2; have P0 := hS.old p0; have P1 := hS.old p1; have H1 := hS.old h1; have H2 := hS.old h2; have H6 := hS.old h6; have H7 := hS.old h7; have H8 := hS.old h8; have H9 := hS.old h9; have H10 := hS.old h10; have B0 := hS.old b0; try go_simp))
        clear hK K
        refine flo4_read _ rfl (fun W => Turns [] w3 W) (Turns.refl _ _) (fun j hj W hW => hW.out (by simp at hj <;> omega)) (fun K hK => ?_)
        go_simp
        first | (refine hK _ ?_) | (refine ⟨fun W hS => ?_, hK _ ?_⟩; · (have X1 := hS.old x1; have X2 := hS.old x2; have P0 := hS.old p0; have P1 := hS.old p1; have H1 := hS.old h1; have H2 := hS.old h2; have H6 := hS.old h6; have H7 := hS.old h7; have H8 := hS.old h8; have H9 := hS.old h9; have H10 := hS.old h10; have B0 := hS.old b0; try go_simp))
        clear hK K
        refine flo4_read _ rfl (fun W => Turns [] w3 W) (Turns.refl _ _) (fun j hj W hW => hW.out (by simp at hj <;> omega)) (fun K hK => ?_)
        go_simp
        first | (refine hK _ ?_) | (refine ⟨fun W hS => ?_, hK _ ?_⟩; · (have X1 := hS.old x1; have X2 := hS.old x2; have P0 := hS.old p0; have P1 := hS.old p1; have H1 := hS.old h1; have H2 := hS.old h2; have H6 := hS.old h6; have H7 := hS.old h7; have H8 := hS.old h8; have H9 := hS.old h9; have H10 := hS.old h10; have B0 := hS.old b0; try go_simp))
        clear hK K
        refine flo4_read _ rfl (fun W => Turns [] w3 W) (Turns.refl _ _) (fun j hj W hW => hW.out (by simp at hj <;> omega)) (fun K hK => ?_)
        go_simp
        first | (refine hK _ ?_) | (refine ⟨fun W hS => ?_, hK _ ?_⟩; · (have X1 := hS.old x1; have X2 := hS.old x2; have P0 := hS.old p0; have P1 := hS.old p1; have H1 := hS.old h1; have H2 := hS.old h2; have H6 := hS.old h6; have H7 := hS.old h7; have H8 := hS.old h8; have H9 := hS.old h9; have H10 := hS.old h10; have B0 := hS.old b0; try go_simp))
        clear hK K
        refine flo4_read _ rfl (fun W => Turns [] w3 W) (Turns.refl _ _) (fun j hj W hW => hW.out (by simp at hj <;> omega)) (fun K hK => ?_)
        go_simp
        first | (refine hK _ ?_) | (refine ⟨fun W hS => ?_, hK _ ?_⟩; · (have X1 := hS.old x1; have X2 := hS.old x2; have P0 := hS.old p0; have P1 := hS.old p1; have H1 := hS.old h1; have H2 := hS.old h2; have H6 := hS.old h6; have H7 := hS.old h7; have H8 := hS.old h8; have H9 := hS.old h9; have H10 := hS.old h10; have B0 := hS.old b0; try go_simp))
        clear hK K
        refine flo4_read _ rfl (fun W => Turns [] w3 W) (Turns.refl _ _) (fun j hj W hW => hW.out (by simp at hj <;> omega)) (fun K hK => ?_)
        go_simp
        first | (refine hK _ ?_) | (refine ⟨fun W hS => ?_, hK _ ?_⟩; · (have X1 := hS.old x1; have X2 := hS.old x2; have P0 := hS.old p0; have P1 := hS.old p1; have H1 := hS.old h1; have H2 := hS.old h2; have H6 := hS.old h6; have H7 := hS.old h7; have H8 := hS.old h8; have H9 := hS.old h9; have H10 := hS.old h10; have B0 := hS.old b0; try go_simp))
        clear hK K
        refine flo4_read _ rfl (fun W => Turns [] w3 W) (Turns.refl _ _) (fun j hj W hW => hW.out (by simp at hj <;> omega)) (fun K hK => ?_)
        go_simp
        first | (refine hK _ ?_) | (refine ⟨fun W hS => ?_, hK _ ?_⟩; · (have X1 := hS.old x1; have X2 := hS.old x2; have P0 := hS.old p0; have P1 := hS.old p1; have H1 := hS.old h1; have H2 := hS.old h2; have H6 := hS.old h6; have H7 := hS.old h7; have H8 := hS.old h8; have H9 := hS.old h9; have H10 := hS.old h10; have B0 := hS.old b0; try go_simp))
        clear hK K
        refine flo4_read _ rfl (fun W => Turns [] w3 W) (Turns.refl _ _) (fun j hj W hW => hW.out (by simp at hj <;> omega)) (fun K hK => ?_)
        go_simp
        first | (refine hK _ ?_) | (refine ⟨fun W hS => ?_, hK _ ?_⟩; · (have X1 := hS.old x1; have X2 := hS.old x2; have P0 := hS.old p0; have P1 := hS.old p1; have H1 := hS.old h1; have H2 := hS.old h2; have H6 := hS.old h6; have H7 := hS.old h7; have H8 := hS.old h8; have H9 := hS.old h9; have H10 := hS.old h10; have B0 := hS.old b0; try go_simp))
        clear hK K
        refine flo4_read _ rfl (fun W => Turns [] w3 W) (Turns.refl _ _) (fun j hj W hW => hW.out (by simp at hj <;> omega)) (fun K hK => ?_)
        go_simp
        first | (refine hK _ ?_) | (refine ⟨fun W hS => ?_, hK _ ?_⟩; · (have X1 := hS.old x1; have X2 := hS.old x2; have P0 := hS.old p0; have P1 := hS.old p1; have H1 := hS.old h1; have H2 := hS.old h2; have H6 := hS.old h6; have H7 := hS.old h7; have H8 := hS.old h8; have H9 := hS.old h9; have H10 := hS.old h10; have B0 := hS.old b0; try go_simp))
        clear hK K
        refine flo4_read _ rfl (fun W => Turns [] w3 W) (Turns.refl _ _) (fun j hj W hW => hW.out (by simp at hj <;> omega)) (fun K hK => ?_)
        go_simp
        first | (refine hK _ ?_) | (refine ⟨fun W hS => ?_, hK _ ?_⟩; · (have X1 := hS.old x1; have X2 := hS.old x2; have P0 := hS.old p0; have P1 := hS.old p1; have H1 := hS.old h1; have H2 := hS.old h2; have H6 := hS.old h6; have H7 := hS.old h7; have H8 := hS.old h8; have H9 := hS.old h9; have H10 := hS.old h10; have B0 := hS.old b0; try go_simp))
        clear hK K
        refine flo4_read _ rfl (fun W => Turns [] w3 W) (Turns.refl _ _) (fun j hj W hW => hW.out (by simp at hj <;> omega)) (fun K hK => ?_)
        go_simp
        first | (refine hK _ ?_) | (refine ⟨fun W hS => ?_, hK _ ?_⟩; · (have X1 := hS.old x1; have X2 := hS.old x2; have P0 := hS.old p0; have P1 := hS.old p1; have H1 := hS.old h1; have H2 := hS.old h2; have H6 := hS.old h6; have H7 := hS.old h7; have H8 := hS.old h8; have H9 := hS.old h9; have H10 := hS.old h10; have B0 := hS.old b0; try go_simp))
        clear hK K
        refine flo4_read _ rfl (fun W => Turns [] w3 W) (Turns.refl _ _) (fun j hj W hW => hW.out (by simp at hj <;> omega)) (fun K hK => ?_)
        go_simp
        first | (refine hK _ ?_) | (refine ⟨fun W hS => ?_, hK _ ?_⟩; · (have X1 := hS.old x1; have X2 := hS.old x2; have P0 := hS.old p0; have P1 := hS.old p1; have H1 := hS.old h1; have H2 := hS.old h2; have H6 := hS.old h6; have H7 := hS.old h7; have H8 := hS.old h8; have H9 := hS.old h9; have H10 := hS.old h10; have B0 := hS.old b0; try go_simp))
        clear hK K
        refine flo4_read _ rfl (fun W => Turns [] w3 W) (Turns.refl _ _) (fun j hj W hW => hW.out (by simp at hj <;> omega)) (fun K hK => ?_)
        go_simp
        first | (refine hK _ ?_) | (refine ⟨fun W hS => ?_, hK _ ?_⟩; · (have X1 := hS.old x1; have X2 := hS.old x2; have P0 := hS.old p0; have P1 := hS.old p1; have H1 := hS.old h1; have H2 := hS.old h2; have H6 := hS.old h6; have H7 := hS.old h7; have H8 := hS.old h8; have H9 := hS.old h9; have H10 := hS.old h10; have B0 := hS.old b0; try go_simp))
        clear hK K
        refine flo4_read _ rfl (fun W => Turns [] w3 W) (Turns.refl _ _) (fun j hj W hW => hW.out (by simp at hj <;> omega)) (fun K hK => ?_)
        go_simp
        first | (refine hK _ ?_) | (refine ⟨fun W hS => ?_, hK _ ?_⟩; · (have X1 := hS.old x1; have X2 := hS.old x2; have P0 := hS.old p0; have P1 := hS.old p1; have H1 := hS.old h1; have H2 := hS.old h2; have H6 := hS.old h6; have H7 := hS.old h7; have H8 := hS.old h8; have H9 := hS.old h9; have H10 := hS.old h10; have B0 := hS.old b0; try go_simp))
        clear hK K
        refine flo4_read _ rfl (fun W => Turns [] w3 W) (Turns.refl _ _) (fun j hj W hW => hW.out (by simp at hj <;> omega)) (fun K hK => ?_)
        go_simp
        first | (refine hK _ ?_) | (refine ⟨fun W hS => ?_, hK _ ?_⟩; · (have X1 := hS.old x1; have X2 := hS.old x2; have P0 := hS.old p0; have P1 := hS.old p1; have H1 := hS.old h1; have H2 := hS.old h2; have H6 := hS.old h6; have H7 := hS.old h7; have H8 := hS.old h8; have H9 := hS.old h9; have H10 := hS.old h10; have B0 := hS.old b0; try go_simp))
        clear hK K
        refine flo4_read _ rfl (fun W => Turns [] w3 W) (Turns.refl _ _) (fun j hj W hW => hW.out (by simp at hj <;> omega)) (fun K hK => ?_)
        go_simp
        first | (refine hK _ ?_) | (refine ⟨fun W hS => ?_, hK _ ?_⟩; · (have X1 := hS.old x1; have X2 := hS.old x2; have P0 := hS.old p0; have P1 := hS.old p1; have H1 := hS.old h1; have H2 := hS.old h2; have H6 := hS.old h6; have H7 := hS.old h7; have H8 := hS.old h8; have H9 := hS.old h9; have H10 := hS.old h10; have B0 := hS.old b0; try go_simp))
        clear hK K
        refine flo4_read _ rfl (fun W => Turns [] w3 W) (Turns.refl _ _) (fun j hj W hW => hW.out (by simp at hj <;> omega)) (fun K hK => ?_)
        go_simp
        first | (refine hK _ ?_) | (refine ⟨fun W hS => ?_, hK _ ?_⟩; · (have X1 := hS.old x1; have X2 := hS.old x2; have P0 := hS.old p0; have P1 := hS.old p1; have H1 := hS.old h1; have H2 := hS.old h2; have H6 := hS.old h6; have H7 := hS.old h7; have H8 := hS.old h8; have H9 := hS.old h9; have H10 := hS.old h10; have B0 := hS.old b0; try go_simp))
        clear hK K
        refine flo4_read _ rfl (fun W => Turns [] w3 W) (Turns.refl _ _) (fun j hj W hW => hW.out (by simp at hj <;> omega)) (fun K hK => ?_)
        go_simp
        first | (refine hK _ ?_) | (refine ⟨fun W hS => ?_, hK _ ?_⟩; · (have X1 := hS.old x1; have X2 := hS.old x2; have P0 := hS.old p0; have P1 := hS.old p1; have H1 := hS.old h1; have H2 := hS.old h2; have H6 := hS.old h6; have H7 := hS.old h7; have H8 := hS.old h8; have H9 := hS.old h9; have H10 := hS.old h10; have B0 := hS.old b0; try go_simp))
        clear hK K
        refine flo4_read _ rfl (fun W => Turns [] w3 W) (Turns.refl _ _) (fun j hj W hW => hW.out (by simp at hj <;> omega)) (fun K hK => ?_)
        go_simp
        first | (refine hK _ ?_) | (refine ⟨fun W hS => ?_, hK _ ?_⟩; · (have X1 := hS.old x1; have X2 := hS.old x2; have P0 := hS.old p0; have P1 := hS.old p1; have H1 := hS.old h1; have H2 := hS.old h2; have H6 := hS.old h6; have H7 := hS.old h7; have H8 := hS.old h8; have H9 := hS.old h9; have H10 := hS.old h10; have B0 := hS.old b0; try go_simp))
        clear hK K
        refine flo4_read _ rfl (fun W => Turns [] w3 W) (Turns.refl _ _) (fun j hj W hW => hW.out (by simp at hj <;> omega)) (fun K hK => ?_)
        go_simp
        first | (refine hK _ ?_) | (refine ⟨fun W hS => ?_, hK _ ?_⟩; · (have X1 := hS.old x1; have X2 := hS.old x2; have P0 := hS.old p0; have P1 := hS.old p1; have H1 := hS.old h1; have H2 := hS.old h2; have H6 := hS.old h6; have H7 := hS.old h7; have H8 := hS.old h8; have H9 := hS.old h9; have H10 := hS.old h10; have B0 := hS.old b0; try go_simp))
        clear hK K
        clear x1 x2 p0 p1 h1 h2 h6 h7 h8 h9 h10 b0
        refine flo4_alone _ rfl ?_
        go_wp2_with fail
        refine ⟨⟨fun _ => Turns.refl _ _⟩, _, fun _ _ h => h, ?_⟩
        refine flo4_read _ rfl (fun W => True) (trivial) (fun j hj W hW => trivial) (fun K hK => ?_)
        go_simp
        first | (refine hK _ ?_) | (refine ⟨fun W hS => ?_, hK _ ?_⟩; · (skip; try go_simp))
        clear hK K
        refine flo4_read _ rfl (fun W => True) (trivial) (fun j hj W hW => trivial) (fun K hK => ?_)
        go_simp
        first | (refine hK _ ?_) | (refine ⟨fun W hS => ?_, hK _ ?_⟩; · (skip; try go_simp))
        clear hK K
        refine flo4_alone _ rfl ?_
        go_wp2_with fail
        go_at_call 41
        refine Calls.mono (release_is m _ b cnt (some g) false (hrh.out.turns T3)) ?_
        rintro e w4 ⟨rfl, h4, t4⟩
        go_wp2_with fail
        refine ⟨⟨fun hn => absurd rfl hn⟩, _, fun _ _ h => h, ?_⟩
        refine flo4_read _ rfl (fun W => True) (trivial) (fun j hj W hW => trivial) (fun K hK => ?_)
        go_simp
        first | (refine hK _ ?_) | (refine ⟨fun W hS => ?_, hK _ ?_⟩; · (skip; try go_simp))
        clear hK K
        refine flo4_end ?_
        have hX := hXh.out false _ ha h4 ((T3.mono (by simp)).trans t4)
        clear ha
        go_wp2_with fail
        exact hX
      | true =>
        cases g2 : (f.to == g.frm) with
        | false =>
          have ha : ((f.frm == g.to) && ((f.to == g.frm) && ((f.gen == g.tok.gen) && (f.hop == g.tok.hop)))) = false := by rw [g1, g2]; rfl
          go_enter Try.func14, Try.ntmps14
          go_wp2_with fail
          go_at_call 23
          refine Calls.mono (R1.out) ?_
          rintro e w2 ⟨rfl, t2⟩
          have T2 := T0.trans t2
          have B2 := B0.turns t2 (by simp)
          clear x0 x1 x2 x3 x4 x5 x6 x7 x8 x9 x10 b0
          have x0 : World.cell? (w2) ⟨w.heap.size, 0, none⟩ = some _ := (B2).cell 0
          have x1 : World.cell? (w2) ⟨w.heap.size, 1, none⟩ = some _ := (B2).cell 1
          have x2 : World.cell? (w2) ⟨w.heap.size, 2, none⟩ = some _ := (B2).cell 2
          have x3 : World.cell? (w2) ⟨w.heap.size, 3, none⟩ = some _ := (B2).cell 3
          have x4 : World.cell? (w2) ⟨w.heap.size, 4, none⟩ = some _ := (B2).cell 4
          have T3 := (T2.alloc (.cells #[.int .i64 f.gen, .int .i64 f.hop] 52)).drew
          have B3 := ((B2.alloc (.cells #[.int .i64 f.gen, .int .i64 f.hop] 52))).drew
          have P3 := (Blk.new w2 #[.int .i64 f.gen, .int .i64 f.hop] 52).drew
          go_wp2_with fail
          clear x0 x1 x2 x3 x4
          go_wp2_with fail
          refine wp_region_flo4 [(0, true, [32], []), (1, true, [], [[32, 23, 11, 10, 2], [35, 34, 23, 11, 10, 2]]), (2, true, [], [[32, 23, 11, 10], [35, 34, 23, 11, 10]]), (3, true, [], [[32, 23, 11, 10, 9, 8, 7, 6, 5, 4], [35, 34, 23, 11, 10, 9, 8, 7, 6, 5, 4]]), (4, true, [], [[32, 23, 11, 10, 9, 8, 7, 6, 5], [35, 34, 23, 11, 10, 9, 8, 7, 6, 5]]), (5, true, [], [[32, 23, 11, 10, 9, 8, 7, 6], [35, 34, 23, 11, 10, 9, 8, 7, 6]]), (6, true, [], [[32, 23, 11, 10, 9, 8, 7], [35, 34, 23, 11, 10, 9, 8, 7]]), (7, true, [], [[32, 23, 11, 10, 9, 8], [35, 34, 23, 11, 10, 9, 8]]), (8, true, [], [[32, 23, 11, 10, 9], [35, 34, 23, 11, 10, 9]]), (9, true, [], [[32, 23, 11, 10], [35, 34, 23, 11, 10]]), (10, true, [], [[32, 23, 11], [35, 34, 23, 11]]), (11, true, [], [[32, 23], [35, 34, 23]]), (12, true, [], [[32, 23, 22, 21, 13], [35, 34, 23, 22, 21, 13]]), (13, true, [], [[32, 23, 22, 21], [35, 34, 23, 22, 21]]), (14, true, [], [[32, 23, 22, 21, 20, 19, 18, 17, 16, 15], [35, 34, 23, 22, 21, 20, 19, 18, 17, 16, 15]]), (15, true, [], [[32, 23, 22, 21, 20, 19, 18, 17, 16], [35, 34, 23, 22, 21, 20, 19, 18, 17, 16]]), (16, true, [], [[32, 23, 22, 21, 20, 19, 18, 17], [35, 34, 23, 22, 21, 20, 19, 18, 17]]), (17, true, [], [[32, 23, 22, 21, 20, 19, 18], [35, 34, 23, 22, 21, 20, 19, 18]]), (18, true, [], [[32, 23, 22, 21, 20, 19], [35, 34, 23, 22, 21, 20, 19]]), (19, true, [], [[32, 23, 22, 21, 20], [35, 34, 23, 22, 21, 20]]), (20, true, [], [[32, 23, 22, 21], [35, 34, 23, 22, 21]]), (21, true, [], [[32, 23, 22], [35, 34, 23, 22]]), (22, true, [], [[32, 23], [35, 34, 23]]), (23, true, [], [[35, 34]]), (24, true, [32], [[35, 34, 33]]), (25, true, [], [[32, 31, 30, 29, 28, 27, 26], [35, 32, 31, 30, 29, 28, 27, 26]]), (26, true, [], [[32, 31, 30, 29, 28, 27], [35, 32, 31, 30, 29, 28, 27]]), (27, true, [], [[32, 31, 30, 29, 28], [35, 32, 31, 30, 29, 28]]), (28, true, [], [[32, 31, 30, 29], [35, 32, 31, 30, 29]]), (29, true, [], [[32, 31, 30], [35, 32, 31, 30]]), (30, true, [], [[32, 31], [35, 32, 31]]), (31, true, [], [[35, 32]]), (32, false, [], []), (33, true, [], [[35, 34]]), (34, true, [], []), (35, false, [], []), (36, true, [], [])] (fun j W => Kl 35 (w2.alloc (.cells #[.int .i64 f.gen, .int .i64 f.hop] 52)).drew W j) (by kernel_rfl) rfl (by kernel_rfl) (by intro c d v a w h; cases d <;> first | (simpa [Exit.then, Exit.inBlock, Act.put] using h) | exact h) ?_
          generalize (w2.alloc (.cells #[.int .i64 f.gen, .int .i64 f.hop] 52)).drew = w3 at *
          have At := Lib.hid (fun W (t : Turns [] w3 W) => at_is W g.tok _ _ (hhh.out.far (T3.trans t) (by simp)).tok.tok)
          unfold tkv at At
          have x1 : World.cell? (w3) ⟨w.heap.size, 1, none⟩ = some _ := (B3).cell 1
          have x2 : World.cell? (w3) ⟨w.heap.size, 2, none⟩ = some _ := (B3).cell 2
          have p0 : World.cell? (w3) ⟨w2.heap.size, 0, none⟩ = some _ := (P3).cell 0
          have p1 : World.cell? (w3) ⟨w2.heap.size, 1, none⟩ = some _ := (P3).cell 1
          have h1 : World.cell? (w3) ⟨hb, 1, none⟩ = some _ := ((hhh.out.far T3 (by simp)).blk).cell 1
          have h2 : World.cell? (w3) ⟨hb, 2, none⟩ = some _ := ((hhh.out.far T3 (by simp)).blk).cell 2
          have h6 : World.cell? (w3) ⟨hb, 6, none⟩ = some _ := ((hhh.out.far T3 (by simp)).blk).cell 6
          have h7 : World.cell? (w3) ⟨hb, 7, none⟩ = some _ := ((hhh.out.far T3 (by simp)).blk).cell 7
          have h8 : World.cell? (w3) ⟨hb, 8, none⟩ = some _ := ((hhh.out.far T3 (by simp)).blk).cell 8
          have h9 : World.cell? (w3) ⟨hb, 9, none⟩ = some _ := ((hhh.out.far T3 (by simp)).blk).cell 9
          have h10 : World.cell? (w3) ⟨hb, 10, none⟩ = some _ := ((hhh.out.far T3 (by simp)).blk).cell 10
          have b0 : World.cell? (w3) ⟨b, 0, none⟩ = some _ := (hBh.out.turns T3 (by simp)).cell 0
          refine flo4_read _ rfl (fun W => Turns [] w3 W) (Turns.refl _ _) (fun j hj W hW => hW.out (by simp at hj <;> omega)) (fun K hK => ?_)
          go_simp
          first | (refine hK _ ?_) | (refine ⟨fun W hS => ?_, hK _ ?_⟩; · (have X1 := hS.old x1; have X2 := hS.old x2; have P0 := hS.old p0; have P1 := hS.old p1; have H1 := hS.old h1; have H2 := hS.old h2; have H6 := hS.old h6; have H7 := hS.old h7; have H8 := hS.old h8; have H9 := hS.old h9; have H10 := hS.old h10; have B0 := hS.old b0; try go_simp))
          clear hK K
          refine flo4_read _ rfl (fun W => Turns [] w3 W) (Turns.refl _ _) (fun j hj W hW => hW.out (by simp at hj <;> omega)) (fun K hK => ?_)
          go_simp
          first | (refine hK _ ?_) | (refine ⟨fun W hS => ?_, hK _ ?_⟩; · (have X1 := hS.old x1; have X2 := hS.old x2; have P0 := hS.old p0; have P1 := hS.old p1; have H1 := hS.old h1; have H2 := hS.old h2; have H6 := hS.old h6; have H7 := hS.old h7; have H8 := hS.old h8; have H9 := hS.old h9; have H10 := hS.old h10; have B0 := hS.old b0; try go_simp))
          clear hK K
          refine flo4_read _ rfl (fun W => Turns [] w3 W) (Turns.refl _ _) (fun j hj W hW => hW.out (by simp at hj <;> omega)) (fun K hK => ?_)
          go_simp
          first | (refine hK _ ?_) | (refine ⟨fun W hS => ?_, hK _ ?_⟩; · (have X1 := hS.old x1; have X2 := hS.old x2; have P0 := hS.old p0; have P1 := hS.old p1; have H1 := hS.old h1; have H2 := hS.old h2; have H6 := hS.old h6; have H7 := hS.old h7; have H8 := hS.old h8; have H9 := hS.old h9; have H10 := hS.old h10; have B0 := hS.old b0; try go_simp))
          clear hK K
          refine flo4_read _ rfl (fun W => Turns [] w3 W) (Turns.refl _ _) (fun j hj W hW => hW.out (by simp at hj <;> omega)) (fun K hK => ?_)
          go_simp
          first | (refine hK _ ?_) | (refine ⟨fun W hS => ?_, hK _ ?_⟩; · (have X1 := hS.old x1; have X2 := hS.old x2; have P0 := hS.old p0; have P1 := hS.old p1; have H1 := hS.old h1; have H2 := hS.old h2; have H6 := hS.old h6; have H7 := hS.old h7; have H8 := hS.old h8; have H9 := hS.old h9; have H10 := hS.old h10; have B0 := hS.old b0; try go_simp))
          clear hK K
          refine flo4_read _ rfl (fun W => Turns [] w3 W) (Turns.refl _ _) (fun j hj W hW => hW.out (by simp at hj <;> omega)) (fun K hK => ?_)
          go_simp
          first | (refine hK _ ?_) | (refine ⟨fun W hS => ?_, hK _ ?_⟩; · (have X1 := hS.old x1; have X2 := hS.old x2; have P0 := hS.old p0; have P1 := hS.old p1; have H1 := hS.old h1; have H2 := hS.old h2; have H6 := hS.old h6; have H7 := hS.old h7; have H8 := hS.old h8; have H9 := hS.old h9; have H10 := hS.old h10; have B0 := hS.old b0; try go_simp))
          clear hK K
          refine flo4_read _ rfl (fun W => Turns [] w3 W) (Turns.refl _ _) (fun j hj W hW => hW.out (by simp at hj <;> omega)) (fun K hK => ?_)
          go_simp
          first | (refine hK _ ?_) | (refine ⟨fun W hS => ?_, hK _ ?_⟩; · (have X1 := hS.old x1; have X2 := hS.old x2; have P0 := hS.old p0; have P1 := hS.old p1; have H1 := hS.old h1; have H2 := hS.old h2; have H6 := hS.old h6; have H7 := hS.old h7; have H8 := hS.old h8; have H9 := hS.old h9; have H10 := hS.old h10; have B0 := hS.old b0; try go_simp))
          clear hK K
          refine flo4_read _ rfl (fun W => Turns [] w3 W) (Turns.refl _ _) (fun j hj W hW => hW.out (by simp at hj <;> omega)) (fun K hK => ?_)
          go_simp
          first | (refine hK _ ?_) | (refine ⟨fun W hS => ?_, hK _ ?_⟩; · (have X1 := hS.old x1; have X2 := hS.old x2; have P0 := hS.old p0; have P1 := hS.old p1; have H1 := hS.old h1; have H2 := hS.old h2; have H6 := hS.old h6; have H7 := hS.old h7; have H8 := hS.old h8; have H9 := hS.old h9; have H10 := hS.old h10; have B0 := hS.old b0; try go_simp))
          clear hK K
          refine flo4_read _ rfl (fun W => Turns [] w3 W) (Turns.refl _ _) (fun j hj W hW => hW.out (by simp at hj <;> omega)) (fun K hK => ?_)
          go_simp
          first | (refine hK _ ?_) | (refine ⟨fun W hS => ?_, hK _ ?_⟩; · (have X1 := hS.old x1; have X2 := hS.old x2; have P0 := hS.old p0; have P1 := hS.old p1; have H1 := hS.old h1; have H2 := hS.old h2; have H6 := hS.old h6; have H7 := hS.old h7; have H8 := hS.old h8; have H9 := hS.old h9; have H10 := hS.old h10; have B0 := hS.old b0; try go_simp))
          clear hK K
          refine flo4_read _ rfl (fun W => Turns [] w3 W) (Turns.refl _ _) (fun j hj W hW => hW.out (by simp at hj <;> omega)) (fun K hK => ?_)
          go_simp
          first | (refine hK _ ?_) | (refine ⟨fun W hS => ?_, hK _ ?_⟩; · (have X1 := hS.old x1; have X2 := hS.old x2; have P0 := hS.old p0; have P1 := hS.old p1; have H1 := hS.old h1; have H2 := hS.old h2; have H6 := hS.old h6; have H7 := hS.old h7; have H8 := hS.old h8; have H9 := hS.old h9; have H10 := hS.old h10; have B0 := hS.old b0; try go_simp))
          clear hK K
          refine flo4_read _ rfl (fun W => Turns [] w3 W) (Turns.refl _ _) (fun j hj W hW => hW.out (by simp at hj <;> omega)) (fun K hK => ?_)
          go_simp
          first | (refine hK _ ?_) | (refine ⟨fun W hS => ?_, hK _ ?_⟩; · (have X1 := hS.old x1; have X2 := hS.old x2; have P0 := hS.old p0; have P1 := hS.old p1; have H1 := hS.old h1; have H2 := hS.old h2; have H6 := hS.old h6; have H7 := hS.old h7; have H8 := hS.old h8; have H9 := hS.old h9; have H10 := hS.old h10; have B0 := hS.old b0; try go_simp))
          clear hK K
          refine flo4_read _ rfl (fun W => Turns [] w3 W) (Turns.refl _ _) (fun j hj W hW => hW.out (by simp at hj <;> omega)) (fun K hK => ?_)
          go_simp
          first | (refine hK _ ?_) | (refine ⟨fun W hS => ?_, hK _ ?_⟩; · (have X1 := hS.old x1; have X2 := hS.old x2; have P0 := hS.old p0; have P1 := hS.old p1; have H1 := hS.old h1; have H2 := hS.old h2; have H6 := hS.old h6; have H7 := hS.old h7; have H8 := hS.old h8; have H9 := hS.old h9; have H10 := hS.old h10; have B0 := hS.old b0; try go_simp))
          clear hK K
          refine flo4_read _ rfl (fun W => Turns [] w3 W) (Turns.refl _ _) (fun j hj W hW => hW.out (by simp at hj <;> omega)) (fun K hK => ?_)
          go_simp
          first | (refine hK _ ?_) | (refine ⟨fun W hS => ?_, hK _ ?_⟩; · (have X1 := hS.old x1; have X2 := hS.old x2; have P0 := hS.old p0; have P1 := hS.old p1; have H1 := hS.old h1; have H2 := hS.old h2; have H6 := hS.old h6; have H7 := hS.old h7; have H8 := hS.old h8; have H9 := hS.old h9; have H10 := hS.old h10; have B0 := hS.old b0; try go_simp))
          clear hK K
          refine flo4_read _ rfl (fun W => Turns [] w3 W) (Turns.refl _ _) (fun j hj W hW => hW.out (by simp at hj <;> omega)) (fun K hK => ?_)
          go_simp
          first | (refine hK _ ?_) | (refine ⟨fun W hS => ?_, hK _ ?_⟩; · (have X1 := hS.old x1; have X2 := hS.old x2; have P0 := hS.old p0; have P1 := hS.old p1; have H1 := hS.old h1; have H2 := hS.old h2; have H6 := hS.old h6; have H7 := hS.old h7; have H8 := hS.old h8; have H9 := hS.old h9; have H10 := hS.old h10; have B0 := hS.old b0; try go_simp))
          clear hK K
          refine flo4_read _ rfl (fun W => Turns [] w3 W) (Turns.refl _ _) (fun j hj W hW => hW.out (by simp at hj <;> omega)) (fun K hK => ?_)
          go_simp
          first | (refine hK _ ?_) | (refine ⟨fun W hS => ?_, hK _ ?_⟩; · (have X1 := hS.old x1; have X2 := hS.old x2; have P0 := hS.old p0; have P1 := hS.old p1; have H1 := hS.old h1; have H2 := hS.old h2; have H6 := hS.old h6; have H7 := hS.old h7; have H8 := hS.old h8; have H9 := hS.old h9; have H10 := hS.old h10; have B0 := hS.old b0; try go_simp))
          clear hK K
          refine flo4_read _ rfl (fun W => Turns [] w3 W) (Turns.refl _ _) (fun j hj W hW => hW.out (by simp at hj <;> omega)) (fun K hK => ?_)
          go_simp
          first | (refine hK _ ?_) | (refine ⟨fun W hS => ?_, hK _ ?_⟩; · (have X1 := hS.old x1; have X2 := hS.old x2; have P0 := hS.old p0; have P1 := hS.old p1; have H1 := hS.old h1; have H2 := hS.old h2; have H6 := hS.old h6; have H7 := hS.old h7; have H8 := hS.old h8; have H9 := hS.old h9; have H10 := hS.old h10; have B0 := hS.old b0; try go_simp))
          clear hK K
          refine flo4_read _ rfl (fun W => Turns [] w3 W) (Turns.refl _ _) (fun j hj W hW => hW.out (by simp at hj <;> omega)) (fun K hK => ?_)
          go_simp
          first | (refine hK _ ?_) | (refine ⟨fun W hS => ?_, hK _ ?_⟩; · (have X1 := hS.old x1; have X2 := hS.old x2; have P0 := hS.old p0; have P1 := hS.old p1; have H1 := hS.old h1; have H2 := hS.old h2; have H6 := hS.old h6; have H7 := hS.old h7; have H8 := hS.old h8; have H9 := hS.old h9; have H10 := hS.old h10; have B0 := hS.old b0; try go_simp))
          clear hK K
          refine flo4_read _ rfl (fun W => Turns [] w3 W) (Turns.refl _ _) (fun j hj W hW => hW.out (by simp at hj <;> omega)) (fun K hK => ?_)
          go_simp
          first | (refine hK _ ?_) | (refine ⟨fun W hS => ?_, hK _ ?_⟩; · (have X1 := hS.old x1; have X2 := hS.old x2; have P0 := hS.old p0; have P1 := hS.old p1; have H1 := hS.old h1; have H2 := hS.old h2; have H6 := hS.old h6; have H7 := hS.old h7; have H8 := hS.old h8; have H9 := hS.old h9; have H10 := hS.old h10; have B0 := hS.old b0; try go_simp))
          clear hK K
          refine flo4_read _ rfl (fun W => Turns [] w3 W) (Turns.refl _ _) (fun j hj W hW => hW.out (by simp at hj <;> omega)) (fun K hK => ?_)
          go_simp
          first | (refine hK _ ?_) | (refine ⟨fun W hS => ?_, hK _ ?_⟩; · (have X1 := hS.old x1; have X2 := hS.old x2; have P0 := hS.old p0; have P1 := hS.old p1; have H1 := hS.old h1; have H2 := hS.old h2; have H6 := hS.old h6; have H7 := hS.old h7; have H8 := hS.old h8; have H9 := hS.old h9; have H10 := hS.old h10; have B0 := hS.old b0; try go_simp))
          clear hK K
          refine flo4_read _ rfl (fun W => Turns [] w3 W) (Turns.refl _ _) (fun j hj W hW => hW.out (by simp at hj <;> omega)) (fun K hK => ?_)
          go_simp
          first | (refine hK _ ?_) | (refine ⟨fun W hS => ?_, hK _ ?_⟩; · (have X1 := hS.old x1; have X2 := hS.old x2; have P0 := hS.old p0; have P1 := hS.old p1; have H1 := hS.old h1; have H2 := hS.old h2; have H6 := hS.old h6; have H7 := hS.old h7; have H8 := hS.old h8; have H9 := hS.old h9; have H10 := hS.old h10; have B0 := hS.old b0; try go_simp))
          clear hK K
          refine flo4_read _ rfl (fun W => Turns [] w3 W) (Turns.refl _ _) (fun j hj W hW => hW.out (by simp at hj <;> omega)) (fun K hK => ?_)
          go_simp
          first | (refine hK _ ?_) | (refine ⟨fun W hS => ?_, hK _ ?_⟩; · (have X1 := hS.old x1; have X2 := hS.old x2; have P0 := hS.old p0; have P1 := hS.old p1; have H1 := hS.old h1; have H2 := hS.old h2; have H6 := hS.old h6; have H7 := hS.old h7; have H8 := hS.old h8; have H9 := hS.old h9; have H10 := hS.old h10; have B0 := hS.old b0; try go_simp))
          clear hK K
          refine flo4_read _ rfl (fun W => Turns [] w3 W) (Turns.refl _ _) (fun j hj W hW => hW.out (by simp at hj <;> omega)) (fun K hK => ?_)
          go_simp
          first | (refine hK _ ?_) | (refine ⟨fun W hS => ?_, hK _ ?_⟩; · (have X1 := hS.old x1; have X2 := hS.old x2; have P0 := hS.old p0; have P1 := hS.old p1; have H1 := hS.old h1; have H2 := hS.old h2; have H6 := hS.old h6; have H7 := hS.old h7; have H8 := hS.old h8; have H9 := hS.old h9; have H10 := hS.old h10; have B0 := hS.old b0; try go_simp))
          clear hK K
          refine flo4_read _ rfl (fun W => Turns [] w3 W) (Turns.refl _ _) (fun j hj W hW => hW.out (by simp at hj <;> omega)) (fun K hK => ?_)
          go_simp
          first | (refine hK _ ?_) | (refine ⟨fun W hS => ?_, hK _ ?_⟩; · (have X1 := hS.old x1; have X2 := hS.old x2; have P0 := hS.old p0; have P1 := hS.old p1; have H1 := hS.old h1; have H2 := hS.old h2; have H6 := hS.old h6; have H7 := hS.old h7; have H8 := hS.old h8; have H9 := hS.old h9; have H10 := hS.old h10; have B0 := hS.old b0; try go_simp))
          clear hK K
          refine flo4_read _ rfl (fun W => Turns [] w3 W) (Turns.refl _ _) (fun j hj W hW => hW.out (by simp at hj <;> omega)) (fun K hK => ?_)
          go_simp
          first | (refine hK _ ?_) | (refine ⟨fun W hS => ?_, hK _ ?_⟩; · (have X1 := hS.old x1; have X2 := hS.old x2; have P0 := hS.old p0; have P1 := hS.old p1; have H1 := hS.old h1; have H2 := hS.old h2; have H6 := hS.old h6; have H7 := hS.old h7; have H8 := hS.old h8; have H9 := hS.old h9; have H10 := hS.old h10; have B0 := hS.old b0; try go_simp))
          clear hK K
          refine flo4_read _ rfl (fun W => Turns [] w3 W) (Turns.refl _ _) (fun j hj W hW => hW.out (by simp at hj <;> omega)) (fun K hK => ?_)
          go_simp
          first | (refine hK _ ?_) | (refine ⟨fun W hS => ?_, hK _ ?_⟩; · (have X1 := hS.old x1; have X2 := hS.old x2; have P0 := hS.old p0; have P1 := hS.old p1; have H1 := hS.old h1; have H2 := hS.old h2; have H6 := hS.old h6; have H7 := hS.old h7; have H8 := hS.old h8; have H9 := hS.old h9; have H10 := hS.old h10; have B0 := hS.old b0; try go_simp))
          clear hK K
          refine flo4_read _ rfl (fun W => Turns [] w3 W) (Turns.refl _ _) (fun j hj W hW => hW.out (by simp at hj <;> omega)) (fun K hK => ?_)
          go_simp
          first | (refine hK _ ?_) | (refine ⟨fun W hS => ?_, hK _ ?_⟩; · (have X1 := hS.old x1; have X2 := hS.old x2; have P0 := hS.old p0; have P1 := hS.old p1; have H1 := hS.old h1; have H2 := hS.old h2; have H6 := hS.old h6; have H7 := hS.old h7; have H8 := hS.old h8; have H9 := hS.old h9; have H10 := hS.old h10; have B0 := hS.old b0; try go_simp))
          clear hK K
          refine flo4_read _ rfl (fun W => Turns [] w3 W) (Turns.refl _ _) (fun j hj W hW => hW.out (by simp at hj <;> omega)) (fun K hK => ?_)
          go_simp
          first | (refine hK _ ?_) | (refine ⟨fun W hS => ?_, hK _ ?_⟩; · (have X1 := hS.old x1; have X2 := hS.old x2; have P0 := hS.old p0; have P1 := hS.old p1; have H1 := hS.old h1; have H2 := hS.old h2; have H6 := hS.old h6; have H7 := hS.old h7; have H8 := hS.old h8; have H9 := hS.old h9; have H10 := hS.old h10; have B0 := hS.old b0; try go_simp))
          clear hK K
          refine flo4_read _ rfl (fun W => Turns [] w3 W) (Turns.refl _ _) (fun j hj W hW => hW.out (by simp at hj <;> omega)) (fun K hK => ?_)
          go_simp
          first | (refine hK _ ?_) | (refine ⟨fun W hS => ?_, hK _ ?_⟩; · (have X1 := hS.old x1; have X2 := hS.old x2; have P0 := hS.old p0; have P1 := hS.old p1; have H1 := hS.old h1; have H2 := hS.old h2; have H6 := hS.old h6; have H7 := hS.old h7; have H8 := hS.old h8; have H9 := hS.old h9; have H10 := hS.old h10; have B0 := hS.old b0; try go_simp))
          clear hK K
          refine flo4_read _ rfl (fun W => Turns [] w3 W) (Turns.refl _ _) (fun j hj W hW => hW.out (by simp at hj <;> omega)) (fun K hK => ?_)
          go_simp
          first | (refine hK _ ?_) | (refine ⟨fun W hS => ?_, hK _ ?_⟩; · (have X1 := hS.old x1; have X2 := hS.old x2; have P0 := hS.old p0; have P1 := hS.old p1; have H1 := hS.old h1; have H2 := hS.old h2; have H6 := hS.old h6; have H7 := hS.old h7; have H8 := hS.old h8; have H9 := hS.old h9; have H10 := hS.old h10; have B0 := hS.old b0; try go_simp))
          clear hK K
          refine flo4_read _ rfl (fun W => Turns [] w3 W) (Turns.refl _ _) (fun j hj W hW => hW.out (by simp at hj <;> omega)) (fun K hK => ?_)
          go_simp
          first | (refine hK _ ?_) | (refine ⟨fun W hS => ?_, hK _ ?_⟩; · (have X1 := hS.old x1; have X2 := hS.old x2; have P0 := hS.old p0; have P1 := hS.old p1; have H1 := hS.old h1; have H2 := hS.old h2; have H6 := hS.old h6; have H7 := hS.old h7; have H8 := hS.old h8; have H9 := hS.old h9; have H10 := hS.old h10; have B0 := hS.old b0; try go_simp))
          clear hK K
          refine flo4_read _ rfl (fun W => Turns [] w3 W) (Turns.refl _ _) (fun j hj W hW => hW.out (by simp at hj <;> omega)) (fun K hK => ?_)
          go_simp
          first | (refine hK _ ?_) | (refine ⟨fun W hS => ?_, hK _ ?_⟩; · (have X1 := hS.old x1; have X2 := hS.old x2; have P0 := hS.old p0; have P1 := hS.old p1; have H1 := hS.old h1; have H2 := hS.old h2; have H6 := hS.old h6; have H7 := hS.old h7; have H8 := hS.old h8; have H9 := hS.old h9; have H10 := hS.old h10; have B0 := hS.old b0; try go_simp))
          clear hK K
          refine flo4_read _ rfl (fun W => Turns [] w3 W) (Turns.refl _ _) (fun j hj W hW => hW.out (by simp at hj <;> omega)) (fun K hK => ?_)
          go_simp
          first | (refine hK _ ?_) | (refine ⟨fun W hS => ?_, hK _ ?_⟩; · (have X1 := hS.old x1; have X2 := hS.old x2; have P0 := hS.old p0; have P1 := hS.old p1; have H1 := hS.old h1; have H2 := hS.old h2; have H6 := hS.old h6; have H7 := hS.old h7; have H8 := hS.old h8; have H9 := hS.old h9; have H10 := hS.old h10; have B0 := hS.old b0; try go_simp))
          clear hK K
          refine flo4_read _ rfl (fun W => Turns [] w3 W) (Turns.refl _ _) (fun j hj W hW => hW.out (by simp at hj <;> omega)) (fun K hK => ?_)
          go_simp
          first | (refine hK _ ?_) | (refine ⟨fun W hS => ?_, hK _ ?_⟩; · (have X1 := hS.old x1; have X2 := hS.old x2; have P0 := hS.old p0; have P1 := hS.old p1; have H1 := hS.old h1; have H2 := hS.old h2; have H6 := hS.old h6; have H7 := hS.old h7; have H8 := hS.old h8; have H9 := hS.old h9; have H10 := hS.old h10; have B0 := hS.old b0; try go_simp))
          clear hK K
          clear x1 x2 p0 p1 h1 h2 h6 h7 h8 h9 h10 b0
          refine flo4_alone _ rfl ?_
          go_wp2_with fail
          refine ⟨⟨fun _ => Turns.refl _ _⟩, _, fun _ _ h => h, ?_⟩
          refine flo4_read _ rfl (fun W => True) (trivial) (fun j hj W hW => trivial) (fun K hK => ?_)
          go_simp
          first | (refine hK _ ?_) | (refine ⟨fun W hS => ?_, hK _ ?_⟩; · (skip; try go_simp))
          clear hK K
          refine flo4_read _ rfl (fun W => True) (trivial) (fun j hj W hW => trivial) (fun K hK => ?_)
          go_simp
          first | (refine hK _ ?_) | (refine ⟨fun W hS => ?_, hK _ ?_⟩; · (skip; try go_simp))
          clear hK K
          refine flo4_alone _ rfl ?_
          go_wp2_with fail
          go_at_call 41
          refine Calls.mono (release_is m _ b cnt (some g) false (hrh.out.turns T3)) ?_
          rintro e w4 ⟨rfl, h4, t4⟩
          go_wp2_with fail
          refine ⟨⟨fun hn => absurd rfl hn⟩, _, fun _ _ h => h, ?_⟩
          refine flo4_read _ rfl (fun W => True) (trivial) (fun j hj W hW => trivial) (fun K hK => ?_)
          go_simp
          first | (refine hK _ ?_) | (refine ⟨fun W hS => ?_, hK _ ?_⟩; · (skip; try go_simp))
          clear hK K
          refine flo4_end ?_
          have hX := hXh.out false _ ha h4 ((T3.mono (by simp)).trans t4)
          clear ha
          go_wp2_with fail
          exact hX
        | true =>
          cases g3 : (f.gen == g.tok.gen) with
          | false =>
            have ha : ((f.frm == g.to) && ((f.to == g.frm) && ((f.gen == g.tok.gen) && (f.hop == g.tok.hop)))) = false := by rw [g1, g2, g3]; rfl
            go_enter Try.func14, Try.ntmps14
            go_wp2_with fail
            go_at_call 23
            refine Calls.mono (R1.out) ?_
            rintro e w2 ⟨rfl, t2⟩
            have T2 := T0.trans t2
            have B2 := B0.turns t2 (by simp)
            clear x0 x1 x2 x3 x4 x5 x6 x7 x8 x9 x10 b0
            have x0 : World.cell? (w2) ⟨w.heap.size, 0, none⟩ = some _ := (B2).cell 0
            have x1 : World.cell? (w2) ⟨w.heap.size, 1, none⟩ = some _ := (B2).cell 1
            have x2 : World.cell? (w2) ⟨w.heap.size, 2, none⟩ = some _ := (B2).cell 2
            have x3 : World.cell? (w2) ⟨w.heap.size, 3, none⟩ = some _ := (B2).cell 3
            have x4 : World.cell? (w2) ⟨w.heap.size, 4, none⟩ = some _ := (B2).cell 4
            have T3 := (T2.alloc (.cells #[.int .i64 f.gen, .int .i64 f.hop] 52)).drew
            have B3 := ((B2.alloc (.cells #[.int .i64 f.gen, .int .i64 f.hop] 52))).drew
            have P3 := (Blk.new w2 #[.int .i64 f.gen, .int .i64 f.hop] 52).drew
            go_wp2_with fail
            clear x0 x1 x2 x3 x4
            go_wp2_with fail
            refine wp_region_flo4 [(0, true, [32], []), (1, true, [], [[32, 23, 11, 10, 2], [35, 34, 23, 11, 10, 2]]), (2, true, [], [[32, 23, 11, 10], [35, 34, 23, 11, 10]]), (3, true, [], [[32, 23, 11, 10, 9, 8, 7, 6, 5, 4], [35, 34, 23, 11, 10, 9, 8, 7, 6, 5, 4]]), (4, true, [], [[32, 23, 11, 10, 9, 8, 7, 6, 5], [35, 34, 23, 11, 10, 9, 8, 7, 6, 5]]), (5, true, [], [[32, 23, 11, 10, 9, 8, 7, 6], [35, 34, 23, 11, 10, 9, 8, 7, 6]]), (6, true, [], [[32, 23, 11, 10, 9, 8, 7], [35, 34, 23, 11, 10, 9, 8, 7]]), (7, true, [], [[32, 23, 11, 10, 9, 8], [35, 34, 23, 11, 10, 9, 8]]), (8, true, [], [[32, 23, 11, 10, 9], [35, 34, 23, 11, 10, 9]]), (9, true, [], [[32, 23, 11, 10], [35, 34, 23, 11, 10]]), (10, true, [], [[32, 23, 11], [35, 34, 23, 11]]), (11, true, [], [[32, 23], [35, 34, 23]]), (12, true, [], [[32, 23, 22, 21, 13], [35, 34, 23, 22, 21, 13]]), (13, true, [], [[32, 23, 22, 21], [35, 34, 23, 22, 21]]), (14, true, [], [[32, 23, 22, 21, 20, 19, 18, 17, 16, 15], [35, 34, 23, 22, 21, 20, 19, 18, 17, 16, 15]]), (15, true, [], [[32, 23, 22, 21, 20, 19, 18, 17, 16], [35, 34, 23, 22, 21, 20, 19, 18, 17, 16]]), (16, true, [], [[32, 23, 22, 21, 20, 19, 18, 17], [35, 34, 23, 22, 21, 20, 19, 18, 17]]), (17, true, [], [[32, 23, 22, 21, 20, 19, 18], [35, 34, 23, 22, 21, 20, 19, 18]]), (18, true, [], [[32, 23, 22, 21, 20, 19], [35, 34, 23, 22, 21, 20, 19]]), (19, true, [], [[32, 23, 22, 21, 20], [35, 34, 23, 22, 21, 20]]), (20, true, [], [[32, 23, 22, 21], [35, 34, 23, 22, 21]]), (21, true, [], [[32, 23, 22], [35, 34, 23, 22]]), (22, true, [], [[32, 23], [35, 34, 23]]), (23, true, [], [[35, 34]]), (24, true, [32], [[35, 34, 33]]), (25, true, [], [[32, 31, 30, 29, 28, 27, 26], [35, 32, 31, 30, 29, 28, 27, 26]]), (26, true, [], [[32, 31, 30, 29, 28, 27], [35, 32, 31, 30, 29, 28, 27]]), (27, true, [], [[32, 31, 30, 29, 28], [35, 32, 31, 30, 29, 28]]), (28, true, [], [[32, 31, 30, 29], [35, 32, 31, 30, 29]]), (29, true, [], [[32, 31, 30], [35, 32, 31, 30]]), (30, true, [], [[32, 31], [35, 32, 31]]), (31, true, [], [[35, 32]]), (32, false, [], []), (33, true, [], [[35, 34]]), (34, true, [], []), (35, false, [], []), (36, true, [], [])] (fun j W => Kl 35 (w2.alloc (.cells #[.int .i64 f.gen, .int .i64 f.hop] 52)).drew W j) (by kernel_rfl) rfl (by kernel_rfl) (by intro c d v a w h; cases d <;> first | (simpa [Exit.then, Exit.inBlock, Act.put] using h) | exact h) ?_
            generalize (w2.alloc (.cells #[.int .i64 f.gen, .int .i64 f.hop] 52)).drew = w3 at *
            have At := Lib.hid (fun W (t : Turns [] w3 W) => at_is W g.tok _ _ (hhh.out.far (T3.trans t) (by simp)).tok.tok)
            unfold tkv at At
            have x1 : World.cell? (w3) ⟨w.heap.size, 1, none⟩ = some _ := (B3).cell 1
            have x2 : World.cell? (w3) ⟨w.heap.size, 2, none⟩ = some _ := (B3).cell 2
            have p0 : World.cell? (w3) ⟨w2.heap.size, 0, none⟩ = some _ := (P3).cell 0
            have p1 : World.cell? (w3) ⟨w2.heap.size, 1, none⟩ = some _ := (P3).cell 1
            have h1 : World.cell? (w3) ⟨hb, 1, none⟩ = some _ := ((hhh.out.far T3 (by simp)).blk).cell 1
            have h2 : World.cell? (w3) ⟨hb, 2, none⟩ = some _ := ((hhh.out.far T3 (by simp)).blk).cell 2
            have h6 : World.cell? (w3) ⟨hb, 6, none⟩ = some _ := ((hhh.out.far T3 (by simp)).blk).cell 6
            have h7 : World.cell? (w3) ⟨hb, 7, none⟩ = some _ := ((hhh.out.far T3 (by simp)).blk).cell 7
            have h8 : World.cell? (w3) ⟨hb, 8, none⟩ = some _ := ((hhh.out.far T3 (by simp)).blk).cell 8
            have h9 : World.cell? (w3) ⟨hb, 9, none⟩ = some _ := ((hhh.out.far T3 (by simp)).blk).cell 9
            have h10 : World.cell? (w3) ⟨hb, 10, none⟩ = some _ := ((hhh.out.far T3 (by simp)).blk).cell 10
            have b0 : World.cell? (w3) ⟨b, 0, none⟩ = some _ := (hBh.out.turns T3 (by simp)).cell 0
            refine flo4_read _ rfl (fun W => Turns [] w3 W) (Turns.refl _ _) (fun j hj W hW => hW.out (by simp at hj <;> omega)) (fun K hK => ?_)
            go_simp
            first | (refine hK _ ?_) | (refine ⟨fun W hS => ?_, hK _ ?_⟩; · (have X1 := hS.old x1; have X2 := hS.old x2; have P0 := hS.old p0; have P1 := hS.old p1; have H1 := hS.old h1; have H2 := hS.old h2; have H6 := hS.old h6; have H7 := hS.old h7; have H8 := hS.old h8; have H9 := hS.old h9; have H10 := hS.old h10; have B0 := hS.old b0; try go_simp))
            clear hK K
            refine flo4_read _ rfl (fun W => Turns [] w3 W) (Turns.refl _ _) (fun j hj W hW => hW.out (by simp at hj <;> omega)) (fun K hK => ?_)
            go_simp
            first | (refine hK _ ?_) | (refine ⟨fun W hS => ?_, hK _ ?_⟩; · (have X1 := hS.old x1; have X2 := hS.old x2; have P0 := hS.old p0; have P1 := hS.old p1; have H1 := hS.old h1; have H2 := hS.old h2; have H6 := hS.old h6; have H7 := hS.old h7; have H8 := hS.old h8; have H9 := hS.old h9; have H10 := hS.old h10; have B0 := hS.old b0; try go_simp))
            clear hK K
            refine flo4_read _ rfl (fun W => Turns [] w3 W) (Turns.refl _ _) (fun j hj W hW => hW.out (by simp at hj <;> omega)) (fun K hK => ?_)
            go_simp
            first | (refine hK _ ?_) | (refine ⟨fun W hS => ?_, hK _ ?_⟩; · (have X1 := hS.old x1; have X2 := hS.old x2; have P0 := hS.old p0; have P1 := hS.old p1; have H1 := hS.old h1; have H2 := hS.old h2; have H6 := hS.old h6; have H7 := hS.old h7; have H8 := hS.old h8; have H9 := hS.old h9; have H10 := hS.old h10; have B0 := hS.old b0; try go_simp))
            clear hK K
            refine flo4_read _ rfl (fun W => Turns [] w3 W) (Turns.refl _ _) (fun j hj W hW => hW.out (by simp at hj <;> omega)) (fun K hK => ?_)
            go_simp
            first | (refine hK _ ?_) | (refine ⟨fun W hS => ?_, hK _ ?_⟩; · (have X1 := hS.old x1; have X2 := hS.old x2; have P0 := hS.old p0; have P1 := hS.old p1; have H1 := hS.old h1; have H2 := hS.old h2; have H6 := hS.old h6; have H7 := hS.old h7; have H8 := hS.old h8; have H9 := hS.old h9; have H10 := hS.old h10; have B0 := hS.old b0; try go_simp))
            clear hK K
            refine flo4_read _ rfl (fun W => Turns [] w3 W) (Turns.refl _ _) (fun j hj W hW => hW.out (by simp at hj <;> omega)) (fun K hK => ?_)
            go_simp
            first | (refine hK _ ?_) | (refine ⟨fun W hS => ?_, hK _ ?_⟩; · (have X1 := hS.old x1; have X2 := hS.old x2; have P0 := hS.old p0; have P1 := hS.old p1; have H1 := hS.old h1; have H2 := hS.old h2; have H6 := hS.old h6; have H7 := hS.old h7; have H8 := hS.old h8; have H9 := hS.old h9; have H10 := hS.old h10; have B0 := hS.old b0; try go_simp))
            clear hK K
            refine flo4_read _ rfl (fun W => Turns [] w3 W) (Turns.refl _ _) (fun j hj W hW => hW.out (by simp at hj <;> omega)) (fun K hK => ?_)
            go_simp
            first | (refine hK _ ?_) | (refine ⟨fun W hS => ?_, hK _ ?_⟩; · (have X1 := hS.old x1; have X2 := hS.old x2; have P0 := hS.old p0; have P1 := hS.old p1; have H1 := hS.old h1; have H2 := hS.old h2; have H6 := hS.old h6; have H7 := hS.old h7; have H8 := hS.old h8; have H9 := hS.old h9; have H10 := hS.old h10; have B0 := hS.old b0; try go_simp))
            clear hK K
            refine flo4_read _ rfl (fun W => Turns [] w3 W) (Turns.refl _ _) (fun j hj W hW => hW.out (by simp at hj <;> omega)) (fun K hK => ?_)
            go_simp
            first | (refine hK _ ?_) | (refine ⟨fun W hS => ?_, hK _ ?_⟩; · (have X1 := hS.old x1; have X2 := hS.old x2; have P0 := hS.old p0; have P1 := hS.old p1; have H1 := hS.old h1; have H2 := hS.old h2; have H6 := hS.old h6; have H7 := hS.old h7; have H8 := hS.old h8; have H9 := hS.old h9; have H10 := hS.old h10; have B0 := hS.old b0; try go_simp))
            clear hK K
            refine flo4_read _ rfl (fun W => Turns [] w3 W) (Turns.refl _ _) (fun j hj W hW => hW.out (by simp at hj <;> omega)) (fun K hK => ?_)
            go_simp
            first | (refine hK _ ?_) | (refine ⟨fun W hS => ?_, hK _ ?_⟩; · (have X1 := hS.old x1; have X2 := hS.old x2; have P0 := hS.old p0; have P1 := hS.old p1; have H1 := hS.old h1; have H2 := hS.old h2; have H6 := hS.old h6; have H7 := hS.old h7; have H8 := hS.old h8; have H9 := hS.old h9; have H10 := hS.old h10; have B0 := hS.old b0; try go_simp))
            clear hK K
            refine flo4_read _ rfl (fun W => Turns [] w3 W) (Turns.refl _ _) (fun j hj W hW => hW.out (by simp at hj <;> omega)) (fun K hK => ?_)
            go_simp
            first | (refine hK _ ?_) | (refine ⟨fun W hS => ?_, hK _ ?_⟩; · (have X1 := hS.old x1; have X2 := hS.old x2; have P0 := hS.old p0; have P1 := hS.old p1; have H1 := hS.old h1; have H2 := hS.old h2; have H6 := hS.old h6; have H7 := hS.old h7; have H8 := hS.old h8; have H9 := hS.old h9; have H10 := hS.old h10; have B0 := hS.old b0; try go_simp))
            clear hK K
            refine flo4_read _ rfl (fun W => Turns [] w3 W) (Turns.refl _ _) (fun j hj W hW => hW.out (by simp at hj <;> omega)) (fun K hK => ?_)
            go_simp
            first | (refine hK _ ?_) | (refine ⟨fun W hS => ?_, hK _ ?_⟩; · (have X1 := hS.old x1; have X2 := hS.old x2; have P0 := hS.old p0; have P1 := hS.old p1; have H1 := hS.old h1; have H2 := hS.old h2; have H6 := hS.old h6; have H7 := hS.old h7; have H8 := hS.old h8; have H9 := hS.old h9; have H10 := hS.old h10; have B0 := hS.old b0; try go_simp))
            clear hK K
            refine flo4_read _ rfl (fun W => Turns [] w3 W) (Turns.refl _ _) (fun j hj W hW => hW.out (by simp at hj <;> omega)) (fun K hK => ?_)
            go_simp
            first | (refine hK _ ?_) | (refine ⟨fun W hS => ?_, hK _ ?_⟩; · (have X1 := hS.old x1; have X2 := hS.old x2; have P0 := hS.old p0; have P1 := hS.old p1; have H1 := hS.old h1; have H2 := hS.old h2; have H6 := hS.old h6; have H7 := hS.old h7; have H8 := hS.old h8; have H9 := hS.old h9; have H10 := hS.old h10; have B0 := hS.old b0; try go_simp))
            clear hK K
            refine flo4_read _ rfl (fun W => Turns [] w3 W) (Turns.refl _ _) (fun j hj W hW => hW.out (by simp at hj <;> omega)) (fun K hK => ?_)
            go_simp
            first | (refine hK _ ?_) | (refine ⟨fun W hS => ?_, hK _ ?_⟩; · (have X1 := hS.old x1; have X2 := hS.old x2; have P0 := hS.old p0; have P1 := hS.old p1; have H1 := hS.old h1; have H2 := hS.old h2; have H6 := hS.old h6; have H7 := hS.old h7; have H8 := hS.old h8; have H9 := hS.old h9; have H10 := hS.old h10; have B0 := hS.old b0; try go_simp))
            clear hK K
            refine flo4_read _ rfl (fun W => Turns [] w3 W) (Turns.refl _ _) (fun j hj W hW => hW.out (by simp at hj <;> omega)) (fun K hK => ?_)
            go_simp
            first | (refine hK _ ?_) | (refine ⟨fun W hS => ?_, hK _ ?_⟩; · (have X1 := hS.old x1; have X2 := hS.old x2; have P0 := hS.old p0; have P1 := hS.old p1; have H1 := hS.old h1; have H2 := hS.old h2; have H6 := hS.old h6; have H7 := hS.old h7; have H8 := hS.old h8; have H9 := hS.old h9; have H10 := hS.old h10; have B0 := hS.old b0; try go_simp))
            clear hK K
            refine flo4_read _ rfl (fun W => Turns [] w3 W) (Turns.refl _ _) (fun j hj W hW => hW.out (by simp at hj <;> omega)) (fun K hK => ?_)
            go_simp
            first | (refine hK _ ?_) | (refine ⟨fun W hS => ?_, hK _ ?_⟩; · (have X1 := hS.old x1; have X2 := hS.old x2; have P0 := hS.old p0; have P1 := hS.old p1; have H1 := hS.old h1; have H2 := hS.old h2; have H6 := hS.old h6; have H7 := hS.old h7; have H8 := hS.old h8; have H9 := hS.old h9; have H10 := hS.old h10; have B0 := hS.old b0; try go_simp))
            clear hK K
            refine flo4_read _ rfl (fun W => Turns [] w3 W) (Turns.refl _ _) (fun j hj W hW => hW.out (by simp at hj <;> omega)) (fun K hK => ?_)
            go_simp
            first | (refine hK _ ?_) | (refine ⟨fun W hS => ?_, hK _ ?_⟩; · (have X1 := hS.old x1; have X2 := hS.old x2; have P0 := hS.old p0; have P1 := hS.old p1; have H1 := hS.old h1; have H2 := hS.old h2; have H6 := hS.old h6; have H7 := hS.old h7; have H8 := hS.old h8; have H9 := hS.old h9; have H10 := hS.old h10; have B0 := hS.old b0; try go_simp))
            clear hK K
            refine flo4_read _ rfl (fun W => Turns [] w3 W) (Turns.refl _ _) (fun j hj W hW => hW.out (by simp at hj <;> omega)) (fun K hK => ?_)
            go_simp
            first | (refine hK _ ?_) | (refine ⟨fun W hS => ?_, hK _ ?_⟩; · (have X1 := hS.old x1; have X2 := hS.old x2; have P0 := hS.old p0; have P1 := hS.old p1; have H1 := hS.old h1; have H2 := hS.old h2; have H6 := hS.old h6; have H7 := hS.old h7; have H8 := hS.old h8; have H9 := hS.old h9; have H10 := hS.old h10; have B0 := hS.old b0; try go_simp))
            clear hK K
            refine flo4_read _ rfl (fun W => Turns [] w3 W) (Turns.refl _ _) (fun j hj W hW => hW.out (by simp at hj <;> omega)) (fun K hK => ?_)
            go_simp
            first | (refine hK _ ?_) | (refine ⟨fun W hS => ?_, hK _ ?_⟩; · (have X1 := hS.old x1; have X2 := hS.old x2; have P0 := hS.old p0; have P1 := hS.old p1; have H1 := hS.old h1; have H2 := hS.old h2; have H6 := hS.old h6; have H7 := hS.old h7; have H8 := hS.old h8; have H9 := hS.old h9; have H10 := hS.old h10; have B0 := hS.old b0; try go_simp))
            clear hK K
            refine flo4_read _ rfl (fun W => Turns [] w3 W) (Turns.refl _ _) (fun j hj W hW => hW.out (by simp at hj <;> omega)) (fun K hK => ?_)
            go_simp
            first | (refine hK _ ?_) | (refine ⟨fun W hS => ?_, hK _ ?_⟩; · (have X1 := hS.old x1; have X2 := hS.old x2; have P0 := hS.old p0; have P1 := hS.old p1; have H1 := hS.old h1; have H2 := hS.old h2; have H6 := hS.old h6; have H7 := hS.old h7; have H8 := hS.old h8; have H9 := hS.old h9; have H10 := hS.old h10; have B0 := hS.old b0; try go_simp))
            clear hK K
            refine flo4_read _ rfl (fun W => Turns [] w3 W) (Turns.refl _ _) (fun j hj W hW => hW.out (by simp at hj <;> omega)) (fun K hK => ?_)
            go_simp
            first | (refine hK _ ?_) | (refine ⟨fun W hS => ?_, hK _ ?_⟩; · (have X1 := hS.old x1; have X2 := hS.old x2; have P0 := hS.old p0; have P1 := hS.old p1; have H1 := hS.old h1; have H2 := hS.old h2; have H6 := hS.old h6; have H7 := hS.old h7; have H8 := hS.old h8; have H9 := hS.old h9; have H10 := hS.old h10; have B0 := hS.old b0; try go_simp))
            clear hK K
            refine flo4_read _ rfl (fun W => Turns [] w3 W) (Turns.refl _ _) (fun j hj W hW => hW.out (by simp at hj <;> omega)) (fun K hK => ?_)
            go_simp
            first | (refine hK _ ?_) | (refine ⟨fun W hS => ?_, hK _ ?_⟩; · (have X1 := hS.old x1; have X2 := hS.old x2; have P0 := hS.old p0; have P1 := hS.old p1; have H1 := hS.old h1; have H2 := hS.old h2; have H6 := hS.old h6; have H7 := hS.old h7; have H8 := hS.old h8; have H9 := hS.old h9; have H10 := hS.old h10; have B0 := hS.old b0; try go_simp))
            clear hK K
            refine flo4_read _ rfl (fun W => Turns [] w3 W) (Turns.refl _ _) (fun j hj W hW => hW.out (by simp at hj <;> omega)) (fun K hK => ?_)
            go_simp
            first | (refine hK _ ?_) | (refine ⟨fun W hS => ?_, hK _ ?_⟩; · (have X1 := hS.old x1; have X2 := hS.old x2; have P0 := hS.old p0; have P1 := hS.old p1; have H1 := hS.old h1; have H2 := hS.old h2; have H6 := hS.old h6; have H7 := hS.old h7; have H8 := hS.old h8; have H9 := hS.old h9; have H10 := hS.old h10; have B0 := hS.old b0; try go_simp))
            clear hK K
            refine flo4_read _ rfl (fun W => Turns [] w3 W) (Turns.refl _ _) (fun j hj W hW => hW.out (by simp at hj <;> omega)) (fun K hK => ?_)
            go_simp
            first | (refine hK _ ?_) | (refine ⟨fun W hS => ?_, hK _ ?_⟩; · (have X1 := hS.old x1; have X2 := hS.old x2; have P0 := hS.old p0; have P1 := hS.old p1; have H1 := hS.old h1; have H2 := hS.old h2; have H6 := hS.old h6; have H7 := hS.old h7; have H8 := hS.old h8; have H9 := hS.old h9; have H10 := hS.old h10; have B0 := hS.old b0; try go_simp))
            clear hK K
            refine flo4_read _ rfl (fun W => Turns [] w3 W) (Turns.refl _ _) (fun j hj W hW => hW.out (by simp at hj <;> omega)) (fun K hK => ?_)
            go_simp
            first | (refine hK _ ?_) | (refine ⟨fun W hS => ?_, hK _ ?_⟩; · (have X1 := hS.old x1; have X2 := hS.old x2; have P0 := hS.old p0; have P1 := hS.old p1; have H1 := hS.old h1; have H2 := hS.old h2; have H6 := hS.old h6; have H7 := hS.old h7; have H8 := hS.old h8; have H9 := hS.old h9; have H10 := hS.old h10; have B0 := hS.old b0; try go_simp))
            clear hK K
            refine flo4_read _ rfl (fun W => Turns [] w3 W) (Turns.refl _ _) (fun j hj W hW => hW.out (by simp at hj <;> omega)) (fun K hK => ?_)
            go_simp
            first | (refine hK _ ?_) | (refine ⟨fun W hS => ?_, hK _ ?_⟩; · (have X1 := hS.old x1; have X2 := hS.old x2; have P0 := hS.old p0; have P1 := hS.old p1; have H1 := hS.old h1; have H2 := hS.old h2; have H6 := hS.old h6; have H7 := hS.old h7; have H8 := hS.old h8; have H9 := hS.old h9; have H10 := hS.old h10; have B0 := hS.old b0; try go_simp))
            clear hK K
            refine flo4_read _ rfl (fun W => Turns [] w3 W) (Turns.refl _ _) (fun j hj W hW => hW.out (by simp at hj <;> omega)) (fun K hK => ?_)
            go_simp
            first | (refine hK _ ?_) | (refine ⟨fun W hS => ?_, hK _ ?_⟩; · (have X1 := hS.old x1; have X2 := hS.old x2; have P0 := hS.old p0; have P1 := hS.old p1; have H1 := hS.old h1; have H2 := hS.old h2; have H6 := hS.old h6; have H7 := hS.old h7; have H8 := hS.old h8; have H9 := hS.old h9; have H10 := hS.old h10; have B0 := hS.old b0; try go_simp))
            clear hK K
            refine flo4_read _ rfl (fun W => Turns [] w3 W) (Turns.refl _ _) (fun j hj W hW => hW.out (by simp at hj <;> omega)) (fun K hK => ?_)
            go_simp
            first | (refine hK _ ?_) | (refine ⟨fun W hS => ?_, hK _ ?_⟩; · (have X1 := hS.old x1; have X2 := hS.old x2; have P0 := hS.old p0; have P1 := hS.old p1; have H1 := hS.old h1; have H2 := hS.old h2; have H6 := hS.old h6; have H7 := hS.old h7; have H8 := hS.old h8; have H9 := hS.old h9; have H10 := hS.old h10; have B0 := hS.old b0; try go_simp))
            clear hK K
            refine flo4_read _ rfl (fun W => Turns [] w3 W) (Turns.refl _ _) (fun j hj W hW => hW.out (by simp at hj <;> omega)) (fun K hK => ?_)
            go_simp
            first | (refine hK _ ?_) | (refine ⟨fun W hS => ?_, hK _ ?_⟩; · (have X1 := hS.old x1; have X2 := hS.old x2; have P0 := hS.old p0; have P1 := hS.old p1; have H1 := hS.old h1; have H2 := hS.old h2; have H6 := hS.old h6; have H7 := hS.old h7; have H8 := hS.old h8; have H9 := hS.old h9; have H10 := hS.old h10; have B0 := hS.old b0; try go_simp))
            clear hK K
            refine flo4_read _ rfl (fun W => Turns [] w3 W) (Turns.refl _ _) (fun j hj W hW => hW.out (by simp at hj <;> omega)) (fun K hK => ?_)
            go_simp
            first | (refine hK _ ?_) | (refine ⟨fun W hS => ?_, hK _ ?_⟩; · (have X1 := hS.old x1; have X2 := hS.old x2; have P0 := hS.old p0; have P1 := hS.old p1; have H1 := hS.old h1; have H2 := hS.old h2; have H6 := hS.old h6; have H7 := hS.old h7; have H8 := hS.old h8; have H9 := hS.old h9; have H10 := hS.old h10; have B0 := hS.old b0; try go_simp))
            clear hK K
            refine flo4_read _ rfl (fun W => Turns [] w3 W) (Turns.refl _ _) (fun j hj W hW => hW.out (by simp at hj <;> omega)) (fun K hK => ?_)
            go_simp
            first | (refine hK _ ?_) | (refine ⟨fun W hS => ?_, hK _ ?_⟩; · (have X1 := hS.old x1; have X2 := hS.old x2; have P0 := hS.old p0; have P1 := hS.old p1; have H1 := hS.old h1; have H2 := hS.old h2; have H6 := hS.old h6; have H7 := hS.old h7; have H8 := hS.old h8; have H9 := hS.old h9; have H10 := hS.old h10; have B0 := hS.old b0; try go_simp))
            clear hK K
            refine flo4_read _ rfl (fun W => Turns [] w3 W) (Turns.refl _ _) (fun j hj W hW => hW.out (by simp at hj <;> omega)) (fun K hK => ?_)
            go_simp
            first | (refine hK _ ?_) | (refine ⟨fun W hS => ?_, hK _ ?_⟩; · (have X1 := hS.old x1; have X2 := hS.old x2; have P0 := hS.old p0; have P1 := hS.old p1; have H1 := hS.old h1; have H2 := hS.old h2; have H6 := hS.old h6; have H7 := hS.old h7; have H8 := hS.old h8; have H9 := hS.old h9; have H10 := hS.old h10; have B0 := hS.old b0; try go_simp))
            clear hK K
            refine flo4_read _ rfl (fun W => Turns [] w3 W) (Turns.refl _ _) (fun j hj W hW => hW.out (by simp at hj <;> omega)) (fun K hK => ?_)
            go_simp
            first | (refine hK _ ?_) | (refine ⟨fun W hS => ?_, hK _ ?_⟩; · (have X1 := hS.old x1; have X2 := hS.old x2; have P0 := hS.old p0; have P1 := hS.old p1; have H1 := hS.old h1; have H2 := hS.old h2; have H6 := hS.old h6; have H7 := hS.old h7; have H8 := hS.old h8; have H9 := hS.old h9; have H10 := hS.old h10; have B0 := hS.old b0; try go_simp))
            clear hK K
            refine flo4_read _ rfl (fun W => Turns [] w3 W) (Turns.refl _ _) (fun j hj W hW => hW.out (by simp at hj <;> omega)) (fun K hK => ?_)
            go_simp
            first | (refine hK _ ?_) | (refine ⟨fun W hS => ?_, hK _ ?_⟩; · (have X1 := hS.old x1; have X2 := hS.old x2; have P0 := hS.old p0; have P1 := hS.old p1; have H1 := hS.old h1; have H2 := hS.old h2; have H6 := hS.old h6; have H7 := hS.old h7; have H8 := hS.old h8; have H9 := hS.old h9; have H10 := hS.old h10; have B0 := hS.old b0; try go_simp))
            clear hK K
            clear x1 x2 p0 p1 h1 h2 h6 h7 h8 h9 h10 b0
            refine flo4_alone _ rfl ?_
            go_wp2_with fail
            go_at_call 42
            refine Calls.mono (At.out _ (Turns.refl _ _)) ?_
            rintro e w4 ⟨rfl, t4⟩
            go_wp2_with fail
            refine ⟨⟨fun _ => t4⟩, _, fun _ _ h => h, ?_⟩
            refine flo4_read _ rfl (fun W => True) (trivial) (fun j hj W hW => trivial) (fun K hK => ?_)
            go_simp
            first | (refine hK _ ?_) | (refine ⟨fun W hS => ?_, hK _ ?_⟩; · (skip; try go_simp))
            clear hK K
            refine flo4_read _ rfl (fun W => True) (trivial) (fun j hj W hW => trivial) (fun K hK => ?_)
            go_simp
            first | (refine hK _ ?_) | (refine ⟨fun W hS => ?_, hK _ ?_⟩; · (skip; try go_simp))
            clear hK K
            refine flo4_alone _ rfl ?_
            go_wp2_with fail
            go_at_call 41
            refine Calls.mono (release_is m _ b cnt (some g) false (hrh.out.turns (T3.trans t4))) ?_
            rintro e w5 ⟨rfl, h5, t5⟩
            go_wp2_with fail
            refine ⟨⟨fun hn => absurd rfl hn⟩, _, fun _ _ h => h, ?_⟩
            refine flo4_read _ rfl (fun W => True) (trivial) (fun j hj W hW => trivial) (fun K hK => ?_)
            go_simp
            first | (refine hK _ ?_) | (refine ⟨fun W hS => ?_, hK _ ?_⟩; · (skip; try go_simp))
            clear hK K
            refine flo4_end ?_
            have hX := hXh.out false _ ha h5 (((T3.trans t4).mono (by simp)).trans t5)
            clear ha
            go_wp2_with fail
            exact hX
          | true =>
            cases g4 : (f.hop == g.tok.hop) with
            | false =>
              have ha : ((f.frm == g.to) && ((f.to == g.frm) && ((f.gen == g.tok.gen) && (f.hop == g.tok.hop)))) = false := by rw [g1, g2, g3, g4]; rfl
              go_enter Try.func14, Try.ntmps14
              go_wp2_with fail
              go_at_call 23
              refine Calls.mono (R1.out) ?_
              rintro e w2 ⟨rfl, t2⟩
              have T2 := T0.trans t2
              have B2 := B0.turns t2 (by simp)
              clear x0 x1 x2 x3 x4 x5 x6 x7 x8 x9 x10 b0
              have x0 : World.cell? (w2) ⟨w.heap.size, 0, none⟩ = some _ := (B2).cell 0
              have x1 : World.cell? (w2) ⟨w.heap.size, 1, none⟩ = some _ := (B2).cell 1
              have x2 : World.cell? (w2) ⟨w.heap.size, 2, none⟩ = some _ := (B2).cell 2
              have x3 : World.cell? (w2) ⟨w.heap.size, 3, none⟩ = some _ := (B2).cell 3
              have x4 : World.cell? (w2) ⟨w.heap.size, 4, none⟩ = some _ := (B2).cell 4
              have T3 := (T2.alloc (.cells #[.int .i64 f.gen, .int .i64 f.hop] 52)).drew
              have B3 := ((B2.alloc (.cells #[.int .i64 f.gen, .int .i64 f.hop] 52))).drew
              have P3 := (Blk.new w2 #[.int .i64 f.gen, .int .i64 f.hop] 52).drew
              go_wp2_with fail
              clear x0 x1 x2 x3 x4
              go_wp2_with fail
              refine wp_region_flo4 [(0, true, [32], []), (1, true, [], [[32, 23, 11, 10, 2], [35, 34, 23, 11, 10, 2]]), (2, true, [], [[32, 23, 11, 10], [35, 34, 23, 11, 10]]), (3, true, [], [[32, 23, 11, 10, 9, 8, 7, 6, 5, 4], [35, 34, 23, 11, 10, 9, 8, 7, 6, 5, 4]]), (4, true, [], [[32, 23, 11, 10, 9, 8, 7, 6, 5], [35, 34, 23, 11, 10, 9, 8, 7, 6, 5]]), (5, true, [], [[32, 23, 11, 10, 9, 8, 7, 6], [35, 34, 23, 11, 10, 9, 8, 7, 6]]), (6, true, [], [[32, 23, 11, 10, 9, 8, 7], [35, 34, 23, 11, 10, 9, 8, 7]]), (7, true, [], [[32, 23, 11, 10, 9, 8], [35, 34, 23, 11, 10, 9, 8]]), (8, true, [], [[32, 23, 11, 10, 9], [35, 34, 23, 11, 10, 9]]), (9, true, [], [[32, 23, 11, 10], [35, 34, 23, 11, 10]]), (10, true, [], [[32, 23, 11], [35, 34, 23, 11]]), (11, true, [], [[32, 23], [35, 34, 23]]), (12, true, [], [[32, 23, 22, 21, 13], [35, 34, 23, 22, 21, 13]]), (13, true, [], [[32, 23, 22, 21], [35, 34, 23, 22, 21]]), (14, true, [], [[32, 23, 22, 21, 20, 19, 18, 17, 16, 15], [35, 34, 23, 22, 21, 20, 19, 18, 17, 16, 15]]), (15, true, [], [[32, 23, 22, 21, 20, 19, 18, 17, 16], [35, 34, 23, 22, 21, 20, 19, 18, 17, 16]]), (16, true, [], [[32, 23, 22, 21, 20, 19, 18, 17], [35, 34, 23, 22, 21, 20, 19, 18, 17]]), (17, true, [], [[32, 23, 22, 21, 20, 19, 18], [35, 34, 23, 22, 21, 20, 19, 18]]), (18, true, [], [[32, 23, 22, 21, 20, 19], [35, 34, 23, 22, 21, 20, 19]]), (19, true, [], [[32, 23, 22, 21, 20], [35, 34, 23, 22, 21, 20]]), (20, true, [], [[32, 23, 22, 21], [35, 34, 23, 22, 21]]), (21, true, [], [[32, 23, 22], [35, 34, 23, 22]]), (22, true, [], [[32, 23], [35, 34, 23]]), (23, true, [], [[35, 34]]), (24, true, [32], [[35, 34, 33]]), (25, true, [], [[32, 31, 30, 29, 28, 27, 26], [35, 32, 31, 30, 29, 28, 27, 26]]), (26, true, [], [[32, 31, 30, 29, 28, 27], [35, 32, 31, 30, 29, 28, 27]]), (27, true, [], [[32, 31, 30, 29, 28], [35, 32, 31, 30, 29, 28]]), (28, true, [], [[32, 31, 30, 29], [35, 32, 31, 30, 29]]), (29, true, [], [[32, 31, 30], [35, 32, 31, 30]]), (30, true, [], [[32, 31], [35, 32, 31]]), (31, true, [], [[35, 32]]), (32, false, [], []), (33, true, [], [[35, 34]]), (34, true, [], []), (35, false, [], []), (36, true, [], [])] (fun j W => Kl 35 (w2.alloc (.cells #[.int .i64 f.gen, .int .i64 f.hop] 52)).drew W j) (by kernel_rfl) rfl (by kernel_rfl) (by intro c d v a w h; cases d <;> first | (simpa [Exit.then, Exit.inBlock, Act.put] using h) | exact h) ?_
              generalize (w2.alloc (.cells #[.int .i64 f.gen, .int .i64 f.hop] 52)).drew = w3 at *
              have At := Lib.hid (fun W (t : Turns [] w3 W) => at_is W g.tok _ _ (hhh.out.far (T3.trans t) (by simp)).tok.tok)
              unfold tkv at At
              have x1 : World.cell? (w3) ⟨w.heap.size, 1, none⟩ = some _ := (B3).cell 1
              have x2 : World.cell? (w3) ⟨w.heap.size, 2, none⟩ = some _ := (B3).cell 2
              have p0 : World.cell? (w3) ⟨w2.heap.size, 0, none⟩ = some _ := (P3).cell 0
              have p1 : World.cell? (w3) ⟨w2.heap.size, 1, none⟩ = some _ := (P3).cell 1
              have h1 : World.cell? (w3) ⟨hb, 1, none⟩ = some _ := ((hhh.out.far T3 (by simp)).blk).cell 1
              have h2 : World.cell? (w3) ⟨hb, 2, none⟩ = some _ := ((hhh.out.far T3 (by simp)).blk).cell 2
              have h6 : World.cell? (w3) ⟨hb, 6, none⟩ = some _ := ((hhh.out.far T3 (by simp)).blk).cell 6
              have h7 : World.cell? (w3) ⟨hb, 7, none⟩ = some _ := ((hhh.out.far T3 (by simp)).blk).cell 7
              have h8 : World.cell? (w3) ⟨hb, 8, none⟩ = some _ := ((hhh.out.far T3 (by simp)).blk).cell 8
              have h9 : World.cell? (w3) ⟨hb, 9, none⟩ = some _ := ((hhh.out.far T3 (by simp)).blk).cell 9
              have h10 : World.cell? (w3) ⟨hb, 10, none⟩ = some _ := ((hhh.out.far T3 (by simp)).blk).cell 10
              have b0 : World.cell? (w3) ⟨b, 0, none⟩ = some _ := (hBh.out.turns T3 (by simp)).cell 0
              refine flo4_read _ rfl (fun W => Turns [] w3 W) (Turns.refl _ _) (fun j hj W hW => hW.out (by simp at hj <;> omega)) (fun K hK => ?_)
              go_simp
              first | (refine hK _ ?_) | (refine ⟨fun W hS => ?_, hK _ ?_⟩; · (have X1 := hS.old x1; have X2 := hS.old x2; have P0 := hS.old p0; have P1 := hS.old p1; have H1 := hS.old h1; have H2 := hS.old h2; have H6 := hS.old h6; have H7 := hS.old h7; have H8 := hS.old h8; have H9 := hS.old h9; have H10 := hS.old h10; have B0 := hS.old b0; try go_simp))
              clear hK K
              refine flo4_read _ rfl (fun W => Turns [] w3 W) (Turns.refl _ _) (fun j hj W hW => hW.out (by simp at hj <;> omega)) (fun K hK => ?_)
              go_simp
              first | (refine hK _ ?_) | (refine ⟨fun W hS => ?_, hK _ ?_⟩; · (have X1 := hS.old x1; have X2 := hS.old x2; have P0 := hS.old p0; have P1 := hS.old p1; have H1 := hS.old h1; have H2 := hS.old h2; have H6 := hS.old h6; have H7 := hS.old h7; have H8 := hS.old h8; have H9 := hS.old h9; have H10 := hS.old h10; have B0 := hS.old b0; try go_simp))
              clear hK K
              refine flo4_read _ rfl (fun W => Turns [] w3 W) (Turns.refl _ _) (fun j hj W hW => hW.out (by simp at hj <;> omega)) (fun K hK => ?_)
              go_simp
              first | (refine hK _ ?_) | (refine ⟨fun W hS => ?_, hK _ ?_⟩; · (have X1 := hS.old x1; have X2 := hS.old x2; have P0 := hS.old p0; have P1 := hS.old p1; have H1 := hS.old h1; have H2 := hS.old h2; have H6 := hS.old h6; have H7 := hS.old h7; have H8 := hS.old h8; have H9 := hS.old h9; have H10 := hS.old h10; have B0 := hS.old b0; try go_simp))
              clear hK K
              refine flo4_read _ rfl (fun W => Turns [] w3 W) (Turns.refl _ _) (fun j hj W hW => hW.out (by simp at hj <;> omega)) (fun K hK => ?_)
              go_simp
              first | (refine hK _ ?_) | (refine ⟨fun W hS => ?_, hK _ ?_⟩; · (have X1 := hS.old x1; have X2 := hS.old x2; have P0 := hS.old p0; have P1 := hS.old p1; have H1 := hS.old h1; have H2 := hS.old h2; have H6 := hS.old h6; have H7 := hS.old h7; have H8 := hS.old h8; have H9 := hS.old h9; have H10 := hS.old h10; have B0 := hS.old b0; try go_simp))
              clear hK K
              refine flo4_read _ rfl (fun W => Turns [] w3 W) (Turns.refl _ _) (fun j hj W hW => hW.out (by simp at hj <;> omega)) (fun K hK => ?_)
              go_simp
              first | (refine hK _ ?_) | (refine ⟨fun W hS => ?_, hK _ ?_⟩; · (have X1 := hS.old x1; have X2 := hS.old x2; have P0 := hS.old p0; have P1 := hS.old p1; have H1 := hS.old h1; have H2 := hS.old h2; have H6 := hS.old h6; have H7 := hS.old h7; have H8 := hS.old h8; have H9 := hS.old h9; have H10 := hS.old h10; have B0 := hS.old b0; try go_simp))
              clear hK K
              refine flo4_read _ rfl (fun W => Turns [] w3 W) (Turns.refl _ _) (fun j hj W hW => hW.out (by simp at hj <;> omega)) (fun K hK => ?_)
              go_simp
              first | (refine hK _ ?_) | (refine ⟨fun W hS => ?_, hK _ ?_⟩; · (have X1 := hS.old x1; have X2 := hS.old x2; have P0 := hS.old p0; have P1 := hS.old p1; have H1 := hS.old h1; have H2 := hS.old h2; have H6 := hS.old h6; have H7 := hS.old h7; have H8 := hS.old h8; have H9 := hS.old h9; have H10 := hS.old h10; have B0 := hS.old b0; try go_simp))
              clear hK K
              refine flo4_read _ rfl (fun W => Turns [] w3 W) (Turns.refl _ _) (fun j hj W hW => hW.out (by simp at hj <;> omega)) (fun K hK => ?_)
              go_simp
              first | (refine hK _ ?_) | (refine ⟨fun W hS => ?_, hK _ ?_⟩; · (have X1 := hS.old x1; have X2 := hS.old x2; have P0 := hS.old p0; have P1 := hS.old p1; have H1 := hS.old h1; have H2 := hS.old h2; have H6 := hS.old h6; have H7 := hS.old h7; have H8 := hS.old h8; have H9 := hS.old h9; have H10 := hS.old h10; have B0 := hS.old b0; try go_simp))
              clear hK K
              refine flo4_read _ rfl (fun W => Turns [] w3 W) (Turns.refl _ _) (fun j hj W hW => hW.out (by simp at hj <;> omega)) (fun K hK => ?_)
              go_simp
              first | (refine hK _ ?_) | (refine ⟨fun W hS => ?_, hK _ ?_⟩; · (have X1 := hS.old x1; have X2 := hS.old x2; have P0 := hS.old p0; have P1 := hS.old p1; have H1 := hS.old h1; have H2 := hS.old h2; have H6 := hS.old h6; have H7 := hS.old h7; have H8 := hS.old h8; have H9 := hS.old h9; have H10 := hS.old h10; have B0 := hS.old b0; try go_simp))
              clear hK K
              refine flo4_read _ rfl (fun W => Turns [] w3 W) (Turns.refl _ _) (fun j hj W hW => hW.out (by simp at hj <;> omega)) (fun K hK => ?_)
              go_simp
              first | (refine hK _ ?_) | (refine ⟨fun W hS => ?_, hK _ ?_⟩; · (have X1 := hS.old x1; have X2 := hS.old x2; have P0 := hS.old p0; have P1 := hS.old p1; have H1 := hS.old h1; have H2 := hS.old h2; have H6 := hS.old h6; have H7 := hS.old h7; have H8 := hS.old h8; have H9 := hS.old h9; have H10 := hS.old h10; have B0 := hS.old b0; try go_simp))
              clear hK K
              refine flo4_read _ rfl (fun W => Turns [] w3 W) (Turns.refl _ _) (fun j hj W hW => hW.out (by simp at hj <;> omega)) (fun K hK => ?_)
              go_simp
              first | (refine hK _ ?_) | (refine ⟨fun W hS => ?_, hK _ ?_⟩; · (have X1 := hS.old x1; have X2 := hS.old x2; have P0 := hS.old p0; have P1 := hS.old p1; have H1 := hS.old h1; have H2 := hS.old h2; have H6 := hS.old h6; have H7 := hS.old h7; have H8 := hS.old h8; have H9 := hS.old h9; have H10 := hS.old h10; have B0 := hS.old b0; try go_simp))
              clear hK K
              refine flo4_read _ rfl (fun W => Turns [] w3 W) (Turns.refl _ _) (fun j hj W hW => hW.out (by simp at hj <;> omega)) (fun K hK => ?_)
              go_simp
              first | (refine hK _ ?_) | (refine ⟨fun W hS => ?_, hK _ ?_⟩; · (have X1 := hS.old x1; have X2 := hS.old x2; have P0 := hS.old p0; have P1 := hS.old p1; have H1 := hS.old h1; have H2 := hS.old h2; have H6 := hS.old h6; have H7 := hS.old h7; have H8 := hS.old h8; have H9 := hS.old h9; have H10 := hS.old h10; have B0 := hS.old b0; try go_simp))
              clear hK K
              refine flo4_read _ rfl (fun W => Turns [] w3 W) (Turns.refl _ _) (fun j hj W hW => hW.out (by simp at hj <;> omega)) (fun K hK => ?_)
              go_simp
              first | (refine hK _ ?_) | (refine ⟨fun W hS => ?_, hK _ ?_⟩; · (have X1 := hS.old x1; have X2 := hS.old x2; have P0 := hS.old p0; have P1 := hS.old p1; have H1 := hS.old h1; have H2 := hS.old h2; have H6 := hS.old h6; have H7 := hS.old h7; have H8 := hS.old h8; have H9 := hS.old h9; have H10 := hS.old h10; have B0 := hS.old b0; try go_simp))
              clear hK K
              refine flo4_read _ rfl (fun W => Turns [] w3 W) (Turns.refl _ _) (fun j hj W hW => hW.out (by simp at hj <;> omega)) (fun K hK => ?_)
              go_simp
              first | (refine hK _ ?_) | (refine ⟨fun W hS => ?_, hK _ ?_⟩; · (have X1 := hS.old x1; have X2 := hS.old x2; have P0 := hS.old p0; have P1 := hS.old p1; have H1 := hS.old h1; have H2 := hS.old h2; have H6 := hS.old h6; have H7 := hS.old h7; have H8 := hS.old h8; have H9 := hS.old h9; have H10 := hS.old h10; have B0 := hS.old b0; try go_simp))
              clear hK K
              refine flo4_read _ rfl (fun W => Turns [] w3 W) (Turns.refl _ _) (fun j hj W hW => hW.out (by simp at hj <;> omega)) (fun K hK => ?_)
              go_simp
              first | (refine hK _ ?_) | (refine ⟨fun W hS => ?_, hK _ ?_⟩; · (have X1 := hS.old x1; have X2 := hS.old x2; have P0 := hS.old p0; have P1 := hS.old p1; have H1 := hS.old h1; have H2 := hS.old h2; have H6 := hS.old h6; have H7 := hS.old h7; have H8 := hS.old h8; have H9 := hS.old h9; have H10 := hS.old h10; have B0 := hS.old b0; try go_simp))
              clear hK K
              refine flo4_read _ rfl (fun W => Turns [] w3 W) (Turns.refl _ _) (fun j hj W hW => hW.out (by simp at hj <;> omega)) (fun K hK => ?_)
              go_simp
              first | (refine hK _ ?_) | (refine ⟨fun W hS => ?_, hK _ ?_⟩; · (have X1 := hS.old x1; have X2 := hS.old x2; have P0 := hS.old p0; have P1 := hS.old p1; have H1 := hS.old h1; have H2 := hS.old h2; have H6 := hS.old h6; have H7 := hS.old h7; have H8 := hS.old h8; have H9 := hS.old h9; have H10 := hS.old h10; have B0 := hS.old b0; try go_simp))
              clear hK K
              refine flo4_read _ rfl (fun W => Turns [] w3 W) (Turns.refl _ _) (fun j hj W hW => hW.out (by simp at hj <;> omega)) (fun K hK => ?_)
              go_simp
              first | (refine hK _ ?_) | (refine ⟨fun W hS => ?_, hK _ ?_⟩; · (have X1 := hS.old x1; have X2 := hS.old x2; have P0 := hS.old p0; have P1 := hS.old p1; have H1 := hS.old h1; have H2 := hS.old h2; have H6 := hS.old h6; have H7 := hS.old h7; have H8 := hS.old h8; have H9 := hS.old h9; have H10 := hS.old h10; have B0 := hS.old b0; try go_simp))
              clear hK K
              refine flo4_read _ rfl (fun W => Turns [] w3 W) (Turns.refl _ _) (fun j hj W hW => hW.out (by simp at hj <;> omega)) (fun K hK => ?_)
              go_simp
              first | (refine hK _ ?_) | (refine ⟨fun W hS => ?_, hK _ ?_⟩; · (have X1 := hS.old x1; have X2 := hS.old x2; have P0 := hS.old p0; have P1 := hS.old p1; have H1 := hS.old h1; have H2 := hS.old h2; have H6 := hS.old h6; have H7 := hS.old h7; have H8 := hS.old h8; have H9 := hS.old h9; have H10 := hS.old h10; have B0 := hS.old b0; try go_simp))
              clear hK K
              refine flo4_read _ rfl (fun W => Turns [] w3 W) (Turns.refl _ _) (fun j hj W hW => hW.out (by simp at hj <;> omega)) (fun K hK => ?_)
              go_simp
              first | (refine hK _ ?_) | (refine ⟨fun W hS => ?_, hK _ ?_⟩; · (have X1 := hS.old x1; have X2 := hS.old x2; have P0 := hS.old p0; have P1 := hS.old p1; have H1 := hS.old h1; have H2 := hS.old h2; have H6 := hS.old h6; have H7 := hS.old h7; have H8 := hS.old h8; have H9 := hS.old h9; have H10 := hS.old h10; have B0 := hS.old b0; try go_simp))
              clear hK K
              refine flo4_read _ rfl (fun W => Turns [] w3 W) (Turns.refl _ _) (fun j hj W hW => hW.out (by simp at hj <;> omega)) (fun K hK => ?_)
              go_simp
              first | (refine hK _ ?_) | (refine ⟨fun W hS => ?_, hK _ ?_⟩; · (have X1 := hS.old x1; have X2 := hS.old x2; have P0 := hS.old p0; have P1 := hS.old p1; have H1 := hS.old h1; have H2 := hS.old h2; have H6 := hS.old h6; have H7 := hS.old h7; have H8 := hS.old h8; have H9 := hS.old h9; have H10 := hS.old h10; have B0 := hS.old b0; try go_simp))
              clear hK K
              refine flo4_read _ rfl (fun W => Turns [] w3 W) (Turns.refl _ _) (fun j hj W hW => hW.out (by simp at hj <;> omega)) (fun K hK => ?_)
              go_simp
              first | (refine hK _ ?_) | (refine ⟨fun W hS => ?_, hK _ ?_⟩; · (have X1 := hS.old x1; have X2 := hS.old x2; have P0 := hS.old p0; have P1 := hS.old p1; have H1 := hS.old h1; have H2 := hS.old h2; have H6 := hS.old h6; have H7 := hS.old h7; have H8 := hS.old h8; have H9 := hS.old h9; have H10 := hS.old h10; have B0 := hS.old b0; try go_simp))
              clear hK K
              refine flo4_read _ rfl (fun W => Turns [] w3 W) (Turns.refl _ _) (fun j hj W hW => hW.out (by simp at hj <;> omega)) (fun K hK => ?_)
              go_simp
              first | (refine hK _ ?_) | (refine ⟨fun W hS => ?_, hK _ ?_⟩; · (have X1 := hS.old x1; have X2 := hS.old x2; have P0 := hS.old p0; have P1 := hS.old p1; have H1 := hS.old h1; have H2 := hS.old h2; have H6 := hS.old h6; have H7 := hS.old h7; have H8 := hS.old h8; have H9 := hS.old h9; have H10 := hS.old h10; have B0 := hS.old b0; try go_simp))
              clear hK K
              refine flo4_read _ rfl (fun W => Turns [] w3 W) (Turns.refl _ _) (fun j hj W hW => hW.out (by simp at hj <;> omega)) (fun K hK => ?_)
              go_simp
              first | (refine hK _ ?_) | (refine ⟨fun W hS => ?_, hK _ ?_⟩; · (have X1 := hS.old x1; have X2 := hS.old x2; have P0 := hS.old p0; have P1 := hS.old p1; have H1 := hS.old h1; have H2 := hS.old h2; have H6 := hS.old h6; have H7 := hS.old h7; have H8 := hS.old h8; have H9 := hS.old h9; have H10 := hS.old h10; have B0 := hS.old b0; try go_simp))
              clear hK K
              refine flo4_read _ rfl (fun W => Turns [] w3 W) (Turns.refl _ _) (fun j hj W hW => hW.out (by simp at hj <;> omega)) (fun K hK => ?_)
              go_simp
              first | (refine hK _ ?_) | (refine ⟨fun W hS => ?_, hK _ ?_⟩; · (have X1 := hS.old x1; have X2 := hS.old x2; have P0 := hS.old p0; have P1 := hS.old p1; have H1 := hS.old h1; have H2 := hS.old h2; have H6 := hS.old h6; have H7 := hS.old h7; have H8 := hS.old h8; have H9 := hS.old h9; have H10 := hS.old h10; have B0 := hS.old b0; try go_simp))
              clear hK K
              refine flo4_read _ rfl (fun W => Turns [] w3 W) (Turns.refl _ _) (fun j hj W hW => hW.out (by simp at hj <;> omega)) (fun K hK => ?_)
              go_simp
              first | (refine hK _ ?_) | (refine ⟨fun W hS => ?_, hK _ ?_⟩; · (have X1 := hS.old x1; have X2 := hS.old x2; have P0 := hS.old p0; have P1 := hS.old p1; have H1 := hS.old h1; have H2 := hS.old h2; have H6 := hS.old h6; have H7 := hS.old h7; have H8 := hS.old h8; have H9 := hS.old h9; have H10 := hS.old h10; have B0 := hS.old b0; try go_simp))
              clear hK K
              refine flo4_read _ rfl (fun W => Turns [] w3 W) (Turns.refl _ _) (fun j hj W hW => hW.out (by simp at hj <;> omega)) (fun K hK => ?_)
              go_simp
              first | (refine hK _ ?_) | (refine ⟨fun W hS => ?_, hK _ ?_⟩; · (have X1 := hS.old x1; have X2 := hS.old x2; have P0 := hS.old p0; have P1 := hS.old p1; have H1 := hS.old h1; have H2 := hS.old h2; have H6 := hS.old h6; have H7 := hS.old h7; have H8 := hS.old h8; have H9 := hS.old h9; have H10 := hS.old h10; have B0 := hS.old b0; try go_simp))
              clear hK K
              refine flo4_read _ rfl (fun W => Turns [] w3 W) (Turns.refl _ _) (fun j hj W hW => hW.out (by simp at hj <;> omega)) (fun K hK => ?_)
              go_simp
              first | (refine hK _ ?_) | (refine ⟨fun W hS => ?_, hK _ ?_⟩; · (have X1 := hS.old x1; have X2 := hS.old x2; have P0 := hS.old p0; have P1 := hS.old p1; have H1 := hS.old h1; have H2 := hS.old h2; have H6 := hS.old h6; have H7 := hS.old h7; have H8 := hS.old h8; have H9 := hS.old h9; have H10 := hS.old h10; have B0 := hS.old b0; try go_simp))
              clear hK K
              refine flo4_read _ rfl (fun W => Turns [] w3 W) (Turns.refl _ _) (fun j hj W hW => hW.out (by simp at hj <;> omega)) (fun K hK => ?_)
              go_simp
              first | (refine hK _ ?_) | (refine ⟨fun W hS => ?_, hK _ ?_⟩; · (have X1 := hS.old x1; have X2 := hS.old x2; have P0 := hS.old p0; have P1 := hS.old p1; have H1 := hS.old h1; have H2 := hS.old h2; have H6 := hS.old h6; have H7 := hS.old h7; have H8 := hS.old h8; have H9 := hS.old h9; have H10 := hS.old h10; have B0 := hS.old b0; try go_simp))
              clear hK K
              refine flo4_read _ rfl (fun W => Turns [] w3 W) (Turns.refl _ _) (fun j hj W hW => hW.out (by simp at hj <;> omega)) (fun K hK => ?_)
              go_simp
              first | (refine hK _ ?_) | (refine ⟨fun W hS => ?_, hK _ ?_⟩; · (have X1 := hS.old x1; have X2 := hS.old x2; have P0 := hS.old p0; have P1 := hS.old p1; have H1 := hS.old h1; have H2 := hS.old h2; have H6 := hS.old h6; have H7 := hS.old h7; have H8 := hS.old h8; have H9 := hS.old h9; have H10 := hS.old h10; have B0 := hS.old b0; try go_simp))
              clear hK K
              refine flo4_read _ rfl (fun W => Turns [] w3 W) (Turns.refl _ _) (fun j hj W hW => hW.out (by simp at hj <;> omega)) (fun K hK => ?_)
              go_simp
              first | (refine hK _ ?_) | (refine ⟨fun W hS => ?_, hK _ ?_⟩; · (have X1 := hS.old x1; have X2 := hS.old x2; have P0 := hS.old p0; have P1 := hS.old p1; have H1 := hS.old h1; have H2 := hS.old h2; have H6 := hS.old h6; have H7 := hS.old h7; have H8 := hS.old h8; have H9 := hS.old h9; have H10 := hS.old h10; have B0 := hS.old b0; try go_simp))
              clear hK K
              refine flo4_read _ rfl (fun W => Turns [] w3 W) (Turns.refl _ _) (fun j hj W hW => hW.out (by simp at hj <;> omega)) (fun K hK => ?_)
              go_simp
              first | (refine hK _ ?_) | (refine ⟨fun W hS => ?_, hK _ ?_⟩; · (have X1 := hS.old x1; have X2 := hS.old x2; have P0 := hS.old p0; have P1 := hS.old p1; have H1 := hS.old h1; have H2 := hS.old h2; have H6 := hS.old h6; have H7 := hS.old h7; have H8 := hS.old h8; have H9 := hS.old h9; have H10 := hS.old h10; have B0 := hS.old b0; try go_simp))
              clear hK K
              refine flo4_read _ rfl (fun W => Turns [] w3 W) (Turns.refl _ _) (fun j hj W hW => hW.out (by simp at hj <;> omega)) (fun K hK => ?_)
              go_simp
              first | (refine hK _ ?_) | (refine ⟨fun W hS => ?_, hK _ ?_⟩; · (have X1 := hS.old x1; have X2 := hS.old x2; have P0 := hS.old p0; have P1 := hS.old p1; have H1 := hS.old h1; have H2 := hS.old h2; have H6 := hS.old h6; have H7 := hS.old h7; have H8 := hS.old h8; have H9 := hS.old h9; have H10 := hS.old h10; have B0 := hS.old b0; try go_simp))
              clear hK K
              refine flo4_read _ rfl (fun W => Turns [] w3 W) (Turns.refl _ _) (fun j hj W hW => hW.out (by simp at hj <;> omega)) (fun K hK => ?_)
              go_simp
              first | (refine hK _ ?_) | (refine ⟨fun W hS => ?_, hK _ ?_⟩; · (have X1 := hS.old x1; have X2 := hS.old x2; have P0 := hS.old p0; have P1 := hS.old p1; have H1 := hS.old h1; have H2 := hS.old h2; have H6 := hS.old h6; have H7 := hS.old h7; have H8 := hS.old h8; have H9 := hS.old h9; have H10 := hS.old h10; have B0 := hS.old b0; try go_simp))
              clear hK K
              clear x1 x2 p0 p1 h1 h2 h6 h7 h8 h9 h10 b0
              refine flo4_alone _ rfl ?_
              go_wp2_with fail
              go_at_call 42
              refine Calls.mono (At.out _ (Turns.refl _ _)) ?_
              rintro e w4 ⟨rfl, t4⟩
              go_wp2_with fail
              refine ⟨⟨fun _ => t4⟩, _, fun _ _ h => h, ?_⟩
              refine flo4_read _ rfl (fun W => True) (trivial) (fun j hj W hW => trivial) (fun K hK => ?_)
              go_simp
              first | (refine hK _ ?_) | (refine ⟨fun W hS => ?_, hK _ ?_⟩; · (skip; try go_simp))
              clear hK K
              refine flo4_read _ rfl (fun W => True) (trivial) (fun j hj W hW => trivial) (fun K hK => ?_)
              go_simp
              first | (refine hK _ ?_) | (refine ⟨fun W hS => ?_, hK _ ?_⟩; · (skip; try go_simp))
              clear hK K
              refine flo4_alone _ rfl ?_
              go_wp2_with fail
              go_at_call 41
              refine Calls.mono (release_is m _ b cnt (some g) false (hrh.out.turns (T3.trans t4))) ?_
              rintro e w5 ⟨rfl, h5, t5⟩
              go_wp2_with fail
              refine ⟨⟨fun hn => absurd rfl hn⟩, _, fun _ _ h => h, ?_⟩
              refine flo4_read _ rfl (fun W => True) (trivial) (fun j hj W hW => trivial) (fun K hK => ?_)
              go_simp
              first | (refine hK _ ?_) | (refine ⟨fun W hS => ?_, hK _ ?_⟩; · (skip; try go_simp))
              clear hK K
              refine flo4_end ?_
              have hX := hXh.out false _ ha h5 (((T3.trans t4).mono (by simp)).trans t5)
              clear ha
              go_wp2_with fail
              exact hX
            | true =>
              have ha : ((f.frm == g.to) && ((f.to == g.frm) && ((f.gen == g.tok.gen) && (f.hop == g.tok.hop)))) = true := by rw [g1, g2, g3, g4]; rfl
              go_enter Try.func14, Try.ntmps14
              go_wp2_with fail
              go_at_call 23
              refine Calls.mono (R1.out) ?_
              rintro e w2 ⟨rfl, t2⟩
              have T2 := T0.trans t2
              have B2 := B0.turns t2 (by simp)
              clear x0 x1 x2 x3 x4 x5 x6 x7 x8 x9 x10 b0
              have x0 : World.cell? (w2) ⟨w.heap.size, 0, none⟩ = some _ := (B2).cell 0
              have x1 : World.cell? (w2) ⟨w.heap.size, 1, none⟩ = some _ := (B2).cell 1
              have x2 : World.cell? (w2) ⟨w.heap.size, 2, none⟩ = some _ := (B2).cell 2
              have x3 : World.cell? (w2) ⟨w.heap.size, 3, none⟩ = some _ := (B2).cell 3
              have x4 : World.cell? (w2) ⟨w.heap.size, 4, none⟩ = some _ := (B2).cell 4
              have T3 := (T2.alloc (.cells #[.int .i64 f.gen, .int .i64 f.hop] 52)).drew
              have B3 := ((B2.alloc (.cells #[.int .i64 f.gen, .int .i64 f.hop] 52))).drew
              have P3 := (Blk.new w2 #[.int .i64 f.gen, .int .i64 f.hop] 52).drew
              go_wp2_with fail
              clear x0 x1 x2 x3 x4
              go_wp2_with fail
              refine wp_region_flo4 [(0, true, [32], []), (1, true, [], [[32, 23, 11, 10, 2], [35, 34, 23, 11, 10, 2]]), (2, true, [], [[32, 23, 11, 10], [35, 34, 23, 11, 10]]), (3, true, [], [[32, 23, 11, 10, 9, 8, 7, 6, 5, 4], [35, 34, 23, 11, 10, 9, 8, 7, 6, 5, 4]]), (4, true, [], [[32, 23, 11, 10, 9, 8, 7, 6, 5], [35, 34, 23, 11, 10, 9, 8, 7, 6, 5]]), (5, true, [], [[32, 23, 11, 10, 9, 8, 7, 6], [35, 34, 23, 11, 10, 9, 8, 7, 6]]), (6, true, [], [[32, 23, 11, 10, 9, 8, 7], [35, 34, 23, 11, 10, 9, 8, 7]]), (7, true, [], [[32, 23, 11, 10, 9, 8], [35, 34, 23, 11, 10, 9, 8]]), (8, true, [], [[32, 23, 11, 10, 9], [35, 34, 23, 11, 10, 9]]), (9, true, [], [[32, 23, 11, 10], [35, 34, 23, 11, 10]]), (10, true, [], [[32, 23, 11], [35, 34, 23, 11]]), (11, true, [], [[32, 23], [35, 34, 23]]), (12, true, [], [[32, 23, 22, 21, 13], [35, 34, 23, 22, 21, 13]]), (13, true, [], [[32, 23, 22, 21], [35, 34, 23, 22, 21]]), (14, true, [], [[32, 23, 22, 21, 20, 19, 18, 17, 16, 15], [35, 34, 23, 22, 21, 20, 19, 18, 17, 16, 15]]), (15, true, [], [[32, 23, 22, 21, 20, 19, 18, 17, 16], [35, 34, 23, 22, 21, 20, 19, 18, 17, 16]]), (16, true, [], [[32, 23, 22, 21, 20, 19, 18, 17], [35, 34, 23, 22, 21, 20, 19, 18, 17]]), (17, true, [], [[32, 23, 22, 21, 20, 19, 18], [35, 34, 23, 22, 21, 20, 19, 18]]), (18, true, [], [[32, 23, 22, 21, 20, 19], [35, 34, 23, 22, 21, 20, 19]]), (19, true, [], [[32, 23, 22, 21, 20], [35, 34, 23, 22, 21, 20]]), (20, true, [], [[32, 23, 22, 21], [35, 34, 23, 22, 21]]), (21, true, [], [[32, 23, 22], [35, 34, 23, 22]]), (22, true, [], [[32, 23], [35, 34, 23]]), (23, true, [], [[35, 34]]), (24, true, [32], [[35, 34, 33]]), (25, true, [], [[32, 31, 30, 29, 28, 27, 26], [35, 32, 31, 30, 29, 28, 27, 26]]), (26, true, [], [[32, 31, 30, 29, 28, 27], [35, 32, 31, 30, 29, 28, 27]]), (27, true, [], [[32, 31, 30, 29, 28], [35, 32, 31, 30, 29, 28]]), (28, true, [], [[32, 31, 30, 29], [35, 32, 31, 30, 29]]), (29, true, [], [[32, 31, 30], [35, 32, 31, 30]]), (30, true, [], [[32, 31], [35, 32, 31]]), (31, true, [], [[35, 32]]), (32, false, [], []), (33, true, [], [[35, 34]]), (34, true, [], []), (35, false, [], []), (36, true, [], [])] (fun j W => Kl 35 (w2.alloc (.cells #[.int .i64 f.gen, .int .i64 f.hop] 52)).drew W j) (by kernel_rfl) rfl (by kernel_rfl) (by intro c d v a w h; cases d <;> first | (simpa [Exit.then, Exit.inBlock, Act.put] using h) | exact h) ?_
              generalize (w2.alloc (.cells #[.int .i64 f.gen, .int .i64 f.hop] 52)).drew = w3 at *
              have At := Lib.hid (fun W (t : Turns [] w3 W) => at_is W g.tok _ _ (hhh.out.far (T3.trans t) (by simp)).tok.tok)
              unfold tkv at At
              have x1 : World.cell? (w3) ⟨w.heap.size, 1, none⟩ = some _ := (B3).cell 1
              have x2 : World.cell? (w3) ⟨w.heap.size, 2, none⟩ = some _ := (B3).cell 2
              have p0 : World.cell? (w3) ⟨w2.heap.size, 0, none⟩ = some _ := (P3).cell 0
              have p1 : World.cell? (w3) ⟨w2.heap.size, 1, none⟩ = some _ := (P3).cell 1
              have h1 : World.cell? (w3) ⟨hb, 1, none⟩ = some _ := ((hhh.out.far T3 (by simp)).blk).cell 1
              have h2 : World.cell? (w3) ⟨hb, 2, none⟩ = some _ := ((hhh.out.far T3 (by simp)).blk).cell 2
              have h6 : World.cell? (w3) ⟨hb, 6, none⟩ = some _ := ((hhh.out.far T3 (by simp)).blk).cell 6
              have h7 : World.cell? (w3) ⟨hb, 7, none⟩ = some _ := ((hhh.out.far T3 (by simp)).blk).cell 7
              have h8 : World.cell? (w3) ⟨hb, 8, none⟩ = some _ := ((hhh.out.far T3 (by simp)).blk).cell 8
              have h9 : World.cell? (w3) ⟨hb, 9, none⟩ = some _ := ((hhh.out.far T3 (by simp)).blk).cell 9
              have h10 : World.cell? (w3) ⟨hb, 10, none⟩ = some _ := ((hhh.out.far T3 (by simp)).blk).cell 10
              have b0 : World.cell? (w3) ⟨b, 0, none⟩ = some _ := (hBh.out.turns T3 (by simp)).cell 0
              refine flo4_read _ rfl (fun W => Turns [] w3 W) (Turns.refl _ _) (fun j hj W hW => hW.out (by simp at hj <;> omega)) (fun K hK => ?_)
              go_simp
              first | (refine hK _ ?_) | (refine ⟨fun W hS => ?_, hK _ ?_⟩; · (have X1 := hS.old x1; have X2 := hS.old x2; have P0 := hS.old p0; have P1 := hS.old p1; have H1 := hS.old h1; have H2 := hS.old h2; have H6 := hS.old h6; have H7 := hS.old h7; have H8 := hS.old h8; have H9 := hS.old h9; have H10 := hS.old h10; have B0 := hS.old b0; try go_simp))
              clear hK K
              refine flo4_read _ rfl (fun W => Turns [] w3 W) (Turns.refl _ _) (fun j hj W hW => hW.out (by simp at hj <;> omega)) (fun K hK => ?_)
              go_simp
              first | (refine hK _ ?_) | (refine ⟨fun W hS => ?_, hK _ ?_⟩; · (have X1 := hS.old x1; have X2 := hS.old x2; have P0 := hS.old p0; have P1 := hS.old p1; have H1 := hS.old h1; have H2 := hS.old h2; have H6 := hS.old h6; have H7 := hS.old h7; have H8 := hS.old h8; have H9 := hS.old h9; have H10 := hS.old h10; have B0 := hS.old b0; try go_simp))
              clear hK K
              refine flo4_read _ rfl (fun W => Turns [] w3 W) (Turns.refl _ _) (fun j hj W hW => hW.out (by simp at hj <;> omega)) (fun K hK => ?_)
              go_simp
              first | (refine hK _ ?_) | (refine ⟨fun W hS => ?_, hK _ ?_⟩; · (have X1 := hS.old x1; have X2 := hS.old x2; have P0 := hS.old p0; have P1 := hS.old p1; have H1 := hS.old h1; have H2 := hS.old h2; have H6 := hS.old h6; have H7 := hS.old h7; have H8 := hS.old h8; have H9 := hS.old h9; have H10 := hS.old h10; have B0 := hS.old b0; try go_simp))
              clear hK K
              refine flo4_read _ rfl (fun W => Turns [] w3 W) (Turns.refl _ _) (fun j hj W hW => hW.out (by simp at hj <;> omega)) (fun K hK => ?_)
              go_simp
              first | (refine hK _ ?_) | (refine ⟨fun W hS => ?_, hK _ ?_⟩; · (have X1 := hS.old x1; have X2 := hS.old x2; have P0 := hS.old p0; have P1 := hS.old p1; have H1 := hS.old h1; have H2 := hS.old h2; have H6 := hS.old h6; have H7 := hS.old h7; have H8 := hS.old h8; have H9 := hS.old h9; have H10 := hS.old h10; have B0 := hS.old b0; try go_simp))
              clear hK K
              refine flo4_read _ rfl (fun W => Turns [] w3 W) (Turns.refl _ _) (fun j hj W hW => hW.out (by simp at hj <;> omega)) (fun K hK => ?_)
              go_simp
              first | (refine hK _ ?_) | (refine ⟨fun W hS => ?_, hK _ ?_⟩; · (have X1 := hS.old x1; have X2 := hS.old x2; have P0 := hS.old p0; have P1 := hS.old p1; have H1 := hS.old h1; have H2 := hS.old h2; have H6 := hS.old h6; have H7 := hS.old h7; have H8 := hS.old h8; have H9 := hS.old h9; have H10 := hS.old h10; have B0 := hS.old b0; try go_simp))
              clear hK K
              refine flo4_read _ rfl (fun W => Turns [] w3 W) (Turns.refl _ _) (fun j hj W hW => hW.out (by simp at hj <;> omega)) (fun K hK => ?_)
              go_simp
              first | (refine hK _ ?_) | (refine ⟨fun W hS => ?_, hK _ ?_⟩; · (have X1 := hS.old x1; have X2 := hS.old x2; have P0 := hS.old p0; have P1 := hS.old p1; have H1 := hS.old h1; have H2 := hS.old h2; have H6 := hS.old h6; have H7 := hS.old h7; have H8 := hS.old h8; have H9 := hS.old h9; have H10 := hS.old h10; have B0 := hS.old b0; try go_simp))
              clear hK K
              refine flo4_read _ rfl (fun W => Turns [] w3 W) (Turns.refl _ _) (fun j hj W hW => hW.out (by simp at hj <;> omega)) (fun K hK => ?_)
              go_simp
              first | (refine hK _ ?_) | (refine ⟨fun W hS => ?_, hK _ ?_⟩; · (have X1 := hS.old x1; have X2 := hS.old x2; have P0 := hS.old p0; have P1 := hS.old p1; have H1 := hS.old h1; have H2 := hS.old h2; have H6 := hS.old h6; have H7 := hS.old h7; have H8 := hS.old h8; have H9 := hS.old h9; have H10 := hS.old h10; have B0 := hS.old b0; try go_simp))
              clear hK K
              refine flo4_read _ rfl (fun W => Turns [] w3 W) (Turns.refl _ _) (fun j hj W hW => hW.out (by simp at hj <;> omega)) (fun K hK => ?_)
              go_simp
              first | (refine hK _ ?_) | (refine ⟨fun W hS => ?_, hK _ ?_⟩; · (have X1 := hS.old x1; have X2 := hS.old x2; have P0 := hS.old p0; have P1 := hS.old p1; have H1 := hS.old h1; have H2 := hS.old h2; have H6 := hS.old h6; have H7 := hS.old h7; have H8 := hS.old h8; have H9 := hS.old h9; have H10 := hS.old h10; have B0 := hS.old b0; try go_simp))
              clear hK K
              refine flo4_read _ rfl (fun W => Turns [] w3 W) (Turns.refl _ _) (fun j hj W hW => hW.out (by simp at hj <;> omega)) (fun K hK => ?_)
              go_simp
              first | (refine hK _ ?_) | (refine ⟨fun W hS => ?_, hK _ ?_⟩; · (have X1 := hS.old x1; have X2 := hS.old x2; have P0 := hS.old p0; have P1 := hS.old p1; have H1 := hS.old h1; have H2 := hS.old h2; have H6 := hS.old h6; have H7 := hS.old h7; have H8 := hS.old h8; have H9 := hS.old h9; have H10 := hS.old h10; have B0 := hS.old b0; try go_simp))
              clear hK K
              refine flo4_read _ rfl (fun W => Turns [] w3 W) (Turns.refl _ _) (fun j hj W hW => hW.out (by simp at hj <;> omega)) (fun K hK => ?_)
              go_simp
              first | (refine hK _ ?_) | (refine ⟨fun W hS => ?_, hK _ ?_⟩; · (have X1 := hS.old x1; have X2 := hS.old x2; have P0 := hS.old p0; have P1 := hS.old p1; have H1 := hS.old h1; have H2 := hS.old h2; have H6 := hS.old h6; have H7 := hS.old h7; have H8 := hS.old h8; have H9 := hS.old h9; have H10 := hS.old h10; have B0 := hS.old b0; try go_simp))
              clear hK K
              refine flo4_read _ rfl (fun W => Turns [] w3 W) (Turns.refl _ _) (fun j hj W hW => hW.out (by simp at hj <;> omega)) (fun K hK => ?_)
              go_simp
              first | (refine hK _ ?_) | (refine ⟨fun W hS => ?_, hK _ ?_⟩; · (have X1 := hS.old x1; have X2 := hS.old x2; have P0 := hS.old p0; have P1 := hS.old p1; have H1 := hS.old h1; have H2 := hS.old h2; have H6 := hS.old h6; have H7 := hS.old h7; have H8 := hS.old h8; have H9 := hS.old h9; have H10 := hS.old h10; have B0 := hS.old b0; try go_simp))
              clear hK K
              refine flo4_read _ rfl (fun W => Turns [] w3 W) (Turns.refl _ _) (fun j hj W hW => hW.out (by simp at hj <;> omega)) (fun K hK => ?_)
              go_simp
              first | (refine hK _ ?_) | (refine ⟨fun W hS => ?_, hK _ ?_⟩; · (have X1 := hS.old x1; have X2 := hS.old x2; have P0 := hS.old p0; have P1 := hS.old p1; have H1 := hS.old h1; have H2 := hS.old h2; have H6 := hS.old h6; have H7 := hS.old h7; have H8 := hS.old h8; have H9 := hS.old h9; have H10 := hS.old h10; have B0 := hS.old b0; try go_simp))
              clear hK K
              refine flo4_read _ rfl (fun W => Turns [] w3 W) (Turns.refl _ _) (fun j hj W hW => hW.out (by simp at hj <;> omega)) (fun K hK => ?_)
              go_simp
              first | (refine hK _ ?_) | (refine ⟨fun W hS => ?_, hK _ ?_⟩; · (have X1 := hS.old x1; have X2 := hS.old x2; have P0 := hS.old p0; have P1 := hS.old p1; have H1 := hS.old h1; have H2 := hS.old h2; have H6 := hS.old h6; have H7 := hS.old h7; have H8 := hS.old h8; have H9 := hS.old h9; have H10 := hS.old h10; have B0 := hS.old b0; try go_simp))
              clear hK K
              refine flo4_read _ rfl (fun W => Turns [] w3 W) (Turns.refl _ _) (fun j hj W hW => hW.out (by simp at hj <;> omega)) (fun K hK => ?_)
              go_simp
              first | (refine hK _ ?_) | (refine ⟨fun W hS => ?_, hK _ ?_⟩; · (have X1 := hS.old x1; have X2 := hS.old x2; have P0 := hS.old p0; have P1 := hS.old p1; have H1 := hS.old h1; have H2 := hS.old h2; have H6 := hS.old h6; have H7 := hS.old h7; have H8 := hS.old h8; have H9 := hS.old h9; have H10 := hS.old h10; have B0 := hS.old b0; try go_simp))
              clear hK K
              refine flo4_read _ rfl (fun W => Turns [] w3 W) (Turns.refl _ _) (fun j hj W hW => hW.out (by simp at hj <;> omega)) (fun K hK => ?_)
              go_simp
              first | (refine hK _ ?_) | (refine ⟨fun W hS => ?_, hK _ ?_⟩; · (have X1 := hS.old x1; have X2 := hS.old x2; have P0 := hS.old p0; have P1 := hS.old p1; have H1 := hS.old h1; have H2 := hS.old h2; have H6 := hS.old h6; have H7 := hS.old h7; have H8 := hS.old h8; have H9 := hS.old h9; have H10 := hS.old h10; have B0 := hS.old b0; try go_simp))
              clear hK K
              refine flo4_read _ rfl (fun W => Turns [] w3 W) (Turns.refl _ _) (fun j hj W hW => hW.out (by simp at hj <;> omega)) (fun K hK => ?_)
              go_simp
              first | (refine hK _ ?_) | (refine ⟨fun W hS => ?_, hK _ ?_⟩; · (have X1 := hS.old x1; have X2 := hS.old x2; have P0 := hS.old p0; have P1 := hS.old p1; have H1 := hS.old h1; have H2 := hS.old h2; have H6 := hS.old h6; have H7 := hS.old h7; have H8 := hS.old h8; have H9 := hS.old h9; have H10 := hS.old h10; have B0 := hS.old b0; try go_simp))
              clear hK K
              refine flo4_read _ rfl (fun W => Turns [] w3 W) (Turns.refl _ _) (fun j hj W hW => hW.out (by simp at hj <;> omega)) (fun K hK => ?_)
              go_simp
              first | (refine hK _ ?_) | (refine ⟨fun W hS => ?_, hK _ ?_⟩; · (have X1 := hS.old x1; have X2 := hS.old x2; have P0 := hS.old p0; have P1 := hS.old p1; have H1 := hS.old h1; have H2 := hS.old h2; have H6 := hS.old h6; have H7 := hS.old h7; have H8 := hS.old h8; have H9 := hS.old h9; have H10 := hS.old h10; have B0 := hS.old b0; try go_simp))
              clear hK K
              refine flo4_read _ rfl (fun W => Turns [] w3 W) (Turns.refl _ _) (fun j hj W hW => hW.out (by simp at hj <;> omega)) (fun K hK => ?_)
              go_simp
              first | (refine hK _ ?_) | (refine ⟨fun W hS => ?_, hK _ ?_⟩; · (have X1 := hS.old x1; have X2 := hS.old x2; have P0 := hS.old p0; have P1 := hS.old p1; have H1 := hS.old h1; have H2 := hS.old h2; have H6 := hS.old h6; have H7 := hS.old h7; have H8 := hS.old h8; have H9 := hS.old h9; have H10 := hS.old h10; have B0 := hS.old b0; try go_simp))
              clear hK K
              refine flo4_read _ rfl (fun W => Turns [] w3 W) (Turns.refl _ _) (fun j hj W hW => hW.out (by simp at hj <;> omega)) (fun K hK => ?_)
              go_simp
              first | (refine hK _ ?_) | (refine ⟨fun W hS => ?_, hK _ ?_⟩; · (have X1 := hS.old x1; have X2 := hS.old x2; have P0 := hS.old p0; have P1 := hS.old p1; have H1 := hS.old h1; have H2 := hS.old h2; have H6 := hS.old h6; have H7 := hS.old h7; have H8 := hS.old h8; have H9 := hS.old h9; have H10 := hS.old h10; have B0 := hS.old b0; try go_simp))
              clear hK K
              refine flo4_read _ rfl (fun W => Turns [] w3 W) (Turns.refl _ _) (fun j hj W hW => hW.out (by simp at hj <;> omega)) (fun K hK => ?_)
              go_simp
              first | (refine hK _ ?_) | (refine ⟨fun W hS => ?_, hK _ ?_⟩; · (have X1 := hS.old x1; have X2 := hS.old x2; have P0 := hS.old p0; have P1 := hS.old p1; have H1 := hS.old h1; have H2 := hS.old h2; have H6 := hS.old h6; have H7 := hS.old h7; have H8 := hS.old h8; have H9 := hS.old h9; have H10 := hS.old h10; have B0 := hS.old b0; try go_simp))
              clear hK K
              refine flo4_read _ rfl (fun W => Turns [] w3 W) (Turns.refl _ _) (fun j hj W hW => hW.out (by simp at hj <;> omega)) (fun K hK => ?_)
              go_simp
              first | (refine hK _ ?_) | (refine ⟨fun W hS => ?_, hK _ ?_⟩; · (have X1 := hS.old x1; have X2 := hS.old x2; have P0 := hS.old p0; have P1 := hS.old p1; have H1 := hS.old h1; have H2 := hS.old h2; have H6 := hS.old h6; have H7 := hS.old h7; have H8 := hS.old h8; have H9 := hS.old h9; have H10 := hS.old h10; have B0 := hS.old b0; try go_simp))
              clear hK K
              refine flo4_read _ rfl (fun W => Turns [] w3 W) (Turns.refl _ _) (fun j hj W hW => hW.out (by simp at hj <;> omega)) (fun K hK => ?_)
              go_simp
              first | (refine hK _ ?_) | (refine ⟨fun W hS => ?_, hK _ ?_⟩; · (have X1 := hS.old x1; have X2 := hS.old x2; have P0 := hS.old p0; have P1 := hS.old p1; have H1 := hS.old h1; have H2 := hS.old h2; have H6 := hS.old h6; have H7 := hS.old h7; have H8 := hS.old h8; have H9 := hS.old h9; have H10 := hS.old h10; have B0 := hS.old b0; try go_simp))
              clear hK K
              refine flo4_read _ rfl (fun W => Turns [] w3 W) (Turns.refl _ _) (fun j hj W hW => hW.out (by simp at hj <;> omega)) (fun K hK => ?_)
              go_simp
              first | (refine hK _ ?_) | (refine ⟨fun W hS => ?_, hK _ ?_⟩; · (have X1 := hS.old x1; have X2 := hS.old x2; have P0 := hS.old p0; have P1 := hS.old p1; have H1 := hS.old h1; have H2 := hS.old h2; have H6 := hS.old h6; have H7 := hS.old h7; have H8 := hS.old h8; have H9 := hS.old h9; have H10 := hS.old h10; have B0 := hS.old b0; try go_simp))
              clear hK K
              refine flo4_read _ rfl (fun W => Turns [] w3 W) (Turns.refl _ _) (fun j hj W hW => hW.out (by simp at hj <;> omega)) (fun K hK => ?_)
              go_simp
              first | (refine hK _ ?_) | (refine ⟨fun W hS => ?_, hK _ ?_⟩; · (have X1 := hS.old x1; have X2 := hS.old x2; have P0 := hS.old p0; have P1 := hS.old p1; have H1 := hS.old h1; have H2 := hS.old h2; have H6 := hS.old h6; have H7 := hS.old h7; have H8 := hS.old h8; have H9 := hS.old h9; have H10 := hS.old h10; have B0 := hS.old b0; try go_simp))
              clear hK K
              refine flo4_read _ rfl (fun W => Turns [] w3 W) (Turns.refl _ _) (fun j hj W hW => hW.out (by simp at hj <;> omega)) (fun K hK => ?_)
              go_simp
              first | (refine hK _ ?_) | (refine ⟨fun W hS => ?_, hK _ ?_⟩; · (have X1 := hS.old x1; have X2 := hS.old x2; have P0 := hS.old p0; have P1 := hS.old p1; have H1 := hS.old h1; have H2 := hS.old h2; have H6 := hS.old h6; have H7 := hS.old h7; have H8 := hS.old h8; have H9 := hS.old h9; have H10 := hS.old h10; have B0 := hS.old b0; try go_simp))
              clear hK K
              refine flo4_read _ rfl (fun W => Turns [] w3 W) (Turns.refl _ _) (fun j hj W hW => hW.out (by simp at hj <;> omega)) (fun K hK => ?_)
              go_simp
              first | (refine hK _ ?_) | (refine ⟨fun W hS => ?_, hK _ ?_⟩; · (have X1 := hS.old x1; have X2 := hS.old x2; have P0 := hS.old p0; have P1 := hS.old p1; have H1 := hS.old h1; have H2 := hS.old h2; have H6 := hS.old h6; have H7 := hS.old h7; have H8 := hS.old h8; have H9 := hS.old h9; have H10 := hS.old h10; have B0 := hS.old b0; try go_simp))
              clear hK K
              refine flo4_read _ rfl (fun W => Turns [] w3 W) (Turns.refl _ _) (fun j hj W hW => hW.out (by simp at hj <;> omega)) (fun K hK => ?_)
              go_simp
              first | (refine hK _ ?_) | (refine ⟨fun W hS => ?_, hK _ ?_⟩; · (have X1 := hS.old x1; have X2 := hS.old x2; have P0 := hS.old p0; have P1 := hS.old p1; have H1 := hS.old h1; have H2 := hS.old h2; have H6 := hS.old h6; have H7 := hS.old h7; have H8 := hS.old h8; have H9 := hS.old h9; have H10 := hS.old h10; have B0 := hS.old b0; try go_simp))
              clear hK K
              refine flo4_read _ rfl (fun W => Turns [] w3 W) (Turns.refl _ _) (fun j hj W hW => hW.out (by simp at hj <;> omega)) (fun K hK => ?_)
              go_simp
              first | (refine hK _ ?_) | (refine ⟨fun W hS => ?_, hK _ ?_⟩; · (have X1 := hS.old x1; have X2 := hS.old x2; have P0 := hS.old p0; have P1 := hS.old p1; have H1 := hS.old h1; have H2 := hS.old h2; have H6 := hS.old h6; have H7 := hS.old h7; have H8 := hS.old h8; have H9 := hS.old h9; have H10 := hS.old h10; have B0 := hS.old b0; try go_simp))
              clear hK K
              refine flo4_read _ rfl (fun W => Turns [] w3 W) (Turns.refl _ _) (fun j hj W hW => hW.out (by simp at hj <;> omega)) (fun K hK => ?_)
              go_simp
              first | (refine hK _ ?_) | (refine ⟨fun W hS => ?_, hK _ ?_⟩; · (have X1 := hS.old x1; have X2 := hS.old x2; have P0 := hS.old p0; have P1 := hS.old p1; have H1 := hS.old h1; have H2 := hS.old h2; have H6 := hS.old h6; have H7 := hS.old h7; have H8 := hS.old h8; have H9 := hS.old h9; have H10 := hS.old h10; have B0 := hS.old b0; try go_simp))
              clear hK K
              refine flo4_read _ rfl (fun W => Turns [] w3 W) (Turns.refl _ _) (fun j hj W hW => hW.out (by simp at hj <;> omega)) (fun K hK => ?_)
              go_simp
              first | (refine hK _ ?_) | (refine ⟨fun W hS => ?_, hK _ ?_⟩; · (have X1 := hS.old x1; have X2 := hS.old x2; have P0 := hS.old p0; have P1 := hS.old p1; have H1 := hS.old h1; have H2 := hS.old h2; have H6 := hS.old h6; have H7 := hS.old h7; have H8 := hS.old h8; have H9 := hS.old h9; have H10 := hS.old h10; have B0 := hS.old b0; try go_simp))
              clear hK K
              refine flo4_read _ rfl (fun W => Turns [] w3 W) (Turns.refl _ _) (fun j hj W hW => hW.out (by simp at hj <;> omega)) (fun K hK => ?_)
              go_simp
              first | (refine hK _ ?_) | (refine ⟨fun W hS => ?_, hK _ ?_⟩; · (have X1 := hS.old x1; have X2 := hS.old x2; have P0 := hS.old p0; have P1 := hS.old p1; have H1 := hS.old h1; have H2 := hS.old h2; have H6 := hS.old h6; have H7 := hS.old h7; have H8 := hS.old h8; have H9 := hS.old h9; have H10 := hS.old h10; have B0 := hS.old b0; try go_simp))
              clear hK K
              refine flo4_read _ rfl (fun W => Turns [] w3 W) (Turns.refl _ _) (fun j hj W hW => hW.out (by simp at hj <;> omega)) (fun K hK => ?_)
              go_simp
              first | (refine hK _ ?_) | (refine ⟨fun W hS => ?_, hK _ ?_⟩; · (have X1 := hS.old x1; have X2 := hS.old x2; have P0 := hS.old p0; have P1 := hS.old p1; have H1 := hS.old h1; have H2 := hS.old h2; have H6 := hS.old h6; have H7 := hS.old h7; have H8 := hS.old h8; have H9 := hS.old h9; have H10 := hS.old h10; have B0 := hS.old b0; try go_simp))
              clear hK K
              clear x1 x2 p0 p1 h1 h2 h6 h7 h8 h9 h10 b0
              refine flo4_alone _ rfl ?_
              go_wp2_with fail
              go_at_call 42
              refine Calls.mono (At.out _ (Turns.refl _ _)) ?_
              rintro e w4 ⟨rfl, t4⟩
              go_wp2_with fail
              refine ⟨⟨fun _ => t4⟩, _, fun _ _ h => h, ?_⟩
              refine flo4_read _ rfl (fun W => True) (trivial) (fun j hj W hW => trivial) (fun K hK => ?_)
              go_simp
              first | (refine hK _ ?_) | (refine ⟨fun W hS => ?_, hK _ ?_⟩; · (skip; try go_simp))
              clear hK K
              refine flo4_read _ rfl (fun W => True) (trivial) (fun j hj W hW => trivial) (fun K hK => ?_)
              go_simp
              first | (refine hK _ ?_) | (refine ⟨fun W hS => ?_, hK _ ?_⟩; · (skip; try go_simp))
              clear hK K
              refine flo4_alone _ rfl ?_
              go_wp2_with fail
              go_at_call 41
              refine Calls.mono (release_is m _ b cnt (some g) true (hrh.out.turns (T3.trans t4))) ?_
              rintro e w5 ⟨rfl, h5, t5⟩
              go_wp2_with fail
              refine ⟨⟨fun hn => absurd rfl hn⟩, _, fun _ _ h => h, ?_⟩
              refine flo4_read _ rfl (fun W => True) (trivial) (fun j hj W hW => trivial) (fun K hK => ?_)
              go_simp
              first | (refine hK _ ?_) | (refine ⟨fun W hS => ?_, hK _ ?_⟩; · (skip; try go_simp))
              clear hK K
              refine flo4_end ?_
              have hX := hXh.out true _ ha h5 (((T3.trans t4).mono (by simp)).trans t5)
              clear ha
              go_wp2_with fail
              exact hX
    · have g0 : (f.kind != 1) = true := by simp [hk]
      have ha : ackQ g f = false := by unfold ackQ; rw [hq]; simp [hk]
      clear hq hk
      go_enter Try.func14, Try.ntmps14
      go_wp2_with fail
      go_at_call 23
      refine Calls.mono (R1.out) ?_
      rintro e w2 ⟨rfl, t2⟩
      have T2 := T0.trans t2
      have B2 := B0.turns t2 (by simp)
      clear x0 x1 x2 x3 x4 x5 x6 x7 x8 x9 x10 b0
      have x0 : World.cell? (w2) ⟨w.heap.size, 0, none⟩ = some _ := (B2).cell 0
      have x1 : World.cell? (w2) ⟨w.heap.size, 1, none⟩ = some _ := (B2).cell 1
      have x2 : World.cell? (w2) ⟨w.heap.size, 2, none⟩ = some _ := (B2).cell 2
      have x3 : World.cell? (w2) ⟨w.heap.size, 3, none⟩ = some _ := (B2).cell 3
      have x4 : World.cell? (w2) ⟨w.heap.size, 4, none⟩ = some _ := (B2).cell 4
      have hX := hXh.out false _ ha (hrh.out.turns T2) (T2.mono (by simp))
      clear ha
      go_wp2_with fail
      exact hX
end Go.Proofs.Ytohokckpheljbaa.Gf
