/- frame.Right: a generation, and a token, or a generation that may not be. -/
import Derived.Test.YtohokckpheljbaaFj
import Derived.Test.YtohokckpheljbaaHi
import Derived.Test.YtohokckpheljbaaHq
set_option linter.unusedVariables false
set_option linter.unusedSimpArgs false
set_option maxRecDepth 100000
namespace Go.Proofs.Ytohokckpheljbaa.Fk
open Go.RowKit Go.MapKept Go.Shelf Hm Hs Hf Hg Hi Hq Hx Hy Hv Fa Fb Ff Fg Fi Fj
set_option maxHeartbeats 8000000 in
theorem way_is (w : World) (f : Fr) (sv rv : Value) (h : TokR w f.tok sv rv) (hn : f.tok.st.length ≤ 100000) (hf : inB f.frm 0 63 = true) (ht : inB f.to 0 63 = true) (g1 : (f.gen == 0) = false) (hnot : decide (f.tok = Tok.zero) = true → inB f.gen 1 1099511627776 = false) : Calls Try.prog 23 #[frv f sv rv] w fun e w' => e = .returned (.bool (kindB f.kind (bareB f && tokenB f.tok) (decide (f.tok = Tok.zero) && (genB f && (hopB f && (f.bits == 0)))) (decide (f.tok = Tok.zero) && (genB f && (f.hop == 0))) (decide (f.tok = Tok.zero) && bareB f))) ∧ Turns [] w w' := by
  have hmm := @run_makeMap Try.prog
  have T0 := (Turns.refl [] w).alloc (.cells (frc f sv rv) 41)
  have B0 := Blk.new w (frc f sv rv) 41
  have I1 := Lib.hid (fun w => in_is f.frm 0 63 w)
  have I2 := Lib.hid (fun w => in_is f.to 0 63 w)
  have I3 := Lib.hid (fun w => in_is f.gen 1 1099511627776 w)
  have I4 := Lib.hid (fun w => in_is f.hop 0 1099511627776 w)
  have I5 := Lib.hid (fun W (T : Turns [] w W) => none_is W f.tok sv rv (h.turns T))
  have I6 := Lib.hid (fun W (T : Turns [] w W) => token_is W f.tok sv rv (h.turns T) hn)
  obtain ⟨A1, c1, rfl, _⟩ := rform h.st
  obtain ⟨A3, c3, rfl, _⟩ := h.rows.form
  obtain ⟨X, hX⟩ : ∃ X : Ending → World → Prop, X = fun e w' => e = .returned (.bool (kindB f.kind (bareB f && tokenB f.tok) (decide (f.tok = Tok.zero) && (genB f && (hopB f && (f.bits == 0)))) (decide (f.tok = Tok.zero) && (genB f && (f.hop == 0))) (decide (f.tok = Tok.zero) && bareB f))) ∧ Turns [] w w' := ⟨_, rfl⟩
  rw [← hX]
  obtain ⟨bb, hbb⟩ : ∃ b, bareB f = b := ⟨_, rfl⟩
  obtain ⟨be, hbe⟩ : ∃ b, decide (f.tok = Tok.zero) = b := ⟨_, rfl⟩
  obtain ⟨bg, hbg⟩ : ∃ b, inB f.gen 1 1099511627776 = b := ⟨_, rfl⟩
  obtain ⟨bh, hbh⟩ : ∃ b, inB f.hop 0 1099511627776 = b := ⟨_, rfl⟩
  obtain ⟨bt, hbt⟩ : ∃ b, tokenB f.tok = b := ⟨_, rfl⟩
  have hXh : Hid (∀ (b : Bool) (w' : World), b = kindB f.kind (bb && bt) (be && (bg && (bh && (f.bits == 0)))) (be && (bg && (f.hop == 0))) (be && bb) → Turns [] w w' → X (.returned (.bool b)) w') := Lib.hid (fun b w' h1 h2 => by
    rw [hX]
    refine ⟨?_, h2⟩
    unfold genB hopB
    rw [h1, hbb, hbe, hbg, hbh, hbt])
  rw [hf] at I1
  rw [ht] at I2
  rw [hbg] at I3
  rw [hbh] at I4
  rw [hbe] at I5
  rw [hbt] at I6
  have hbb' : Hid (bareB f = bb) := Lib.hid hbb
  have hbe2 : Hid (decide (f.tok = Tok.zero) = be) := Lib.hid hbe
  have hbg2 : Hid (inB f.gen 1 1099511627776 = bg) := Lib.hid hbg
  clear h hX hbb hbe hbg hbh hbt hf ht
  unfold frv
  unfold tkv at I5 I6
  have x1 : World.cell? (w.alloc (.cells (frc f (.slice A1 f.tok.st.length c1) (.slice A3 f.tok.rows.length c3)) 41)) ⟨w.heap.size, 1, none⟩ = some _ := (B0).cell 1
  go_enter Try.func23, Try.ntmps23
  go_wp2_with fail
  go_at_call 60
  refine Calls.mono (I1.out _) ?_
  rintro e w1 ⟨rfl, t1⟩
  have B1 := B0.turns t1 (by simp)
  have T1 := T0.trans t1
  clear x1 B0 T0
  have x2 : World.cell? (w1) ⟨w.heap.size, 2, none⟩ = some _ := (B1).cell 2
  go_wp2_with fail
  go_at_call 60
  refine Calls.mono (I2.out _) ?_
  rintro e w2 ⟨rfl, t2⟩
  have B2 := (B1.turns t2 (by simp)).drew
  have T2 := (T1.trans t2).drew
  clear x2 B1 T1 t1 t2
  go_wp2_with fail
  go_wp2_with fail
  refine wp_region_flo [(0, true), (1, true), (3, true), (4, true), (6, true), (7, true), (2, false), (5, false), (8, false), (9, true), (10, true), (11, true)] (fun W => Turns [] w2.drew W) (by kernel_rfl) rfl (by kernel_rfl) (by intro c d v a w h; cases d <;> first | (simpa [Exit.then, Exit.inBlock, Act.put] using h) | exact h) (Turns.refl _ _) ?_
  generalize w2.drew = w3 at *
  have x3 : World.cell? (w3) ⟨w.heap.size, 3, none⟩ = some _ := (B2).cell 3
  have x4 : World.cell? (w3) ⟨w.heap.size, 4, none⟩ = some _ := (B2).cell 4
  have x6 : World.cell? (w3) ⟨w.heap.size, 6, none⟩ = some _ := (B2).cell 6
  have x7 : World.cell? (w3) ⟨w.heap.size, 7, none⟩ = some _ := (B2).cell 7
  have x8 : World.cell? (w3) ⟨w.heap.size, 8, none⟩ = some _ := (B2).cell 8
  have x9 : World.cell? (w3) ⟨w.heap.size, 9, none⟩ = some _ := (B2).cell 9
  have x10 : World.cell? (w3) ⟨w.heap.size, 10, none⟩ = some _ := (B2).cell 10
  refine flo_read _ rfl (fun K hK => ?_)
  go_simp
  first | (refine hK _ ?_) | (refine ⟨fun W hS => ?_, hK _ ?_⟩; · (have X3 := hS.old x3; have X4 := hS.old x4; have X6 := hS.old x6; have X7 := hS.old x7; have X8 := hS.old x8; have X9 := hS.old x9; have X10 := hS.old x10; try go_simp))
  clear hK K
  refine flo_read _ rfl (fun K hK => ?_)
  go_simp
  first | (refine hK _ ?_) | (refine ⟨fun W hS => ?_, hK _ ?_⟩; · (have X3 := hS.old x3; have X4 := hS.old x4; have X6 := hS.old x6; have X7 := hS.old x7; have X8 := hS.old x8; have X9 := hS.old x9; have X10 := hS.old x10; try go_simp))
  clear hK K
  refine flo_read _ rfl (fun K hK => ?_)
  go_simp
  first | (refine hK _ ?_) | (refine ⟨fun W hS => ?_, hK _ ?_⟩; · (have X3 := hS.old x3; have X4 := hS.old x4; have X6 := hS.old x6; have X7 := hS.old x7; have X8 := hS.old x8; have X9 := hS.old x9; have X10 := hS.old x10; try go_simp))
  clear hK K
  refine flo_read _ rfl (fun K hK => ?_)
  go_simp
  first | (refine hK _ ?_) | (refine ⟨fun W hS => ?_, hK _ ?_⟩; · (have X3 := hS.old x3; have X4 := hS.old x4; have X6 := hS.old x6; have X7 := hS.old x7; have X8 := hS.old x8; have X9 := hS.old x9; have X10 := hS.old x10; try go_simp))
  clear hK K
  refine flo_read _ rfl (fun K hK => ?_)
  go_simp
  first | (refine hK _ ?_) | (refine ⟨fun W hS => ?_, hK _ ?_⟩; · (have X3 := hS.old x3; have X4 := hS.old x4; have X6 := hS.old x6; have X7 := hS.old x7; have X8 := hS.old x8; have X9 := hS.old x9; have X10 := hS.old x10; try go_simp))
  clear hK K
  refine flo_read _ rfl (fun K hK => ?_)
  go_simp
  first | (refine hK _ ?_) | (refine ⟨fun W hS => ?_, hK _ ?_⟩; · (have X3 := hS.old x3; have X4 := hS.old x4; have X6 := hS.old x6; have X7 := hS.old x7; have X8 := hS.old x8; have X9 := hS.old x9; have X10 := hS.old x10; try go_simp))
  clear hK K
  refine flo_alone _ rfl ?_
  go_wp2_with fail
  go_at_call 60
  refine Calls.mono (I3.out _) ?_
  rintro e w4 ⟨rfl, t4⟩
  go_wp2_with fail
  refine ⟨fun W => Turns [] w4 W, fun W h => t4.trans h, Turns.refl _ _, ?_⟩
  refine flo_alone _ rfl ?_
  go_wp2_with fail
  go_at_call 60
  refine Calls.mono (I4.out _) ?_
  rintro e w5 ⟨rfl, t5⟩
  go_wp2_with fail
  refine ⟨fun W => Turns [] w5 W, fun W h => t5.trans h, Turns.refl _ _, ?_⟩
  refine flo_alone _ rfl ?_
  go_wp2_with fail
  go_at_call 61
  refine Calls.mono (I5.out _ ((T2.trans t4).trans t5)) ?_
  rintro e w6 ⟨rfl, t6⟩
  go_wp2_with fail
  refine ⟨fun W => Turns [] w6 W, fun W h => t6.trans h, Turns.refl _ _, ?_⟩
  refine flo_read _ rfl (fun K hK => ?_)
  go_simp
  first | (refine hK _ ?_) | (refine ⟨fun W hS => ?_, hK _ ?_⟩; · (skip; try go_simp))
  clear hK K
  refine flo_read _ rfl (fun K hK => ?_)
  go_simp
  first | (refine hK _ ?_) | (refine ⟨fun W hS => ?_, hK _ ?_⟩; · (skip; try go_simp))
  clear hK K
  refine flo_read _ rfl (fun K hK => ?_)
  go_simp
  first | (refine hK _ ?_) | (refine ⟨fun W hS => ?_, hK _ ?_⟩; · (skip; try go_simp))
  clear hK K
  refine flo_end ?_
  have B6 := ((B2.turns t4 (by simp)).turns t5 (by simp)).turns t6 (by simp)
  have T6 := ((T2.trans t4).trans t5).trans t6
  clear x3 x4 x6 x7 x8 x9 x10 B2 T2 t4 t5 t6 I1 I2 I3 I4 I5
  have x3 : World.cell? (w6) ⟨w.heap.size, 3, none⟩ = some _ := (B6).cell 3
  have x4 : World.cell? (w6) ⟨w.heap.size, 4, none⟩ = some _ := (B6).cell 4
  have x5 : World.cell? (w6) ⟨w.heap.size, 5, none⟩ = some _ := (B6).cell 5
  have hbarel : Hid (bareB f = ((f.gen == 0) && ((f.hop == 0) && (f.bits == 0)))) := Lib.hid rfl
  have hb : bb = false := by rw [← hbb'.out, hbarel.out, g1]; rfl
  subst hb
  cases be with
  | false =>
    go_wp2_with fail
    clear x3 x4 x5
    go_wp2_with fail
    refine wp_region_flo3 (.read 1 [0, 5, 7, 20, 30, 35] (.read 2 [0, 7, 20, 30, 35] (.read 3 [0, 5, 7, 20, 30, 35] (.read 4 [0, 7, 20, 30, 35] (.read 8 [0, 5, 7, 20, 30, 35] (.read 21 [0, 5, 7, 20, 30, 35] (.read 31 [0, 5, 7, 20, 30, 35] (.read 37 [0, 5, 7, 20, 30, 35] (.read 38 [0, 5, 7, 20, 30, 35] (.fork 0 (.alone 5 (.read 6 [20, 30, 35] (.read 9 [7, 20, 30, 35] (.read 10 [7, 20, 30, 35] (.read 11 [7, 20, 30, 35] (.read 12 [7, 20, 30, 35] (.read 13 [7, 20, 30, 35] (.read 14 [7, 20, 30, 35] (.read 15 [7, 20, 30, 35] (.read 16 [7, 20, 30, 35] (.read 17 [7, 20, 30, 35] (.read 18 [7, 20, 30, 35] (.read 19 [7, 30, 35] (.read 22 [7, 20, 30, 35] (.read 23 [7, 20, 30, 35] (.read 24 [7, 20, 30, 35] (.read 25 [7, 20, 30, 35] (.read 26 [7, 20, 30, 35] (.read 27 [7, 20, 30, 35] (.read 28 [7, 20, 30, 35] (.read 29 [7, 20, 35] (.read 32 [7, 20, 30, 35] (.read 33 [7, 20, 30, 35] (.read 34 [7, 20, 30] (.group [7, 20, 30, 35] (.read 36 [] (.read 39 [] (.read 40 [] (.read 41 [] (.read 42 [] (.read 43 [] (.read 44 [] (.done))))))))))))))))))))))))))))))))) 5 (.read 6 [0, 20, 30, 35] (.read 9 [0, 7, 20, 30, 35] (.read 10 [0, 7, 20, 30, 35] (.read 11 [0, 7, 20, 30, 35] (.read 12 [0, 7, 20, 30, 35] (.read 13 [0, 7, 20, 30, 35] (.read 14 [0, 7, 20, 30, 35] (.read 15 [0, 7, 20, 30, 35] (.read 16 [0, 7, 20, 30, 35] (.read 17 [0, 7, 20, 30, 35] (.read 18 [0, 7, 20, 30, 35] (.read 19 [0, 7, 30, 35] (.read 22 [0, 7, 20, 30, 35] (.read 23 [0, 7, 20, 30, 35] (.read 24 [0, 7, 20, 30, 35] (.read 25 [0, 7, 20, 30, 35] (.read 26 [0, 7, 20, 30, 35] (.read 27 [0, 7, 20, 30, 35] (.read 28 [0, 7, 20, 30, 35] (.read 29 [0, 7, 20, 35] (.read 32 [0, 7, 20, 30, 35] (.read 33 [0, 7, 20, 30, 35] (.read 34 [0, 7, 20, 30] (.alone 0 (.group [7, 20, 30, 35] (.read 36 [] (.read 39 [] (.read 40 [] (.read 41 [] (.read 42 [] (.read 43 [] (.read 44 [] (.done))))))))))))))))))))))))))))))))))))))))))) (fun j W => Turns [] w6.drew W) (by kernel_rfl) rfl (by kernel_rfl) (by intro c d v a w h; cases d <;> first | (simpa [Exit.then, Exit.inBlock, Act.put] using h) | exact h) ?_
    have B7 := B6.drew
    have T7 := T6.drew
    generalize w6.drew = w7 at *
    have z0 : World.cell? (w7) ⟨w.heap.size, 0, none⟩ = some _ := (B7).cell 0
    have z4 : World.cell? (w7) ⟨w.heap.size, 4, none⟩ = some _ := (B7).cell 4
    have z5 : World.cell? (w7) ⟨w.heap.size, 5, none⟩ = some _ := (B7).cell 5
    have z6 : World.cell? (w7) ⟨w.heap.size, 6, none⟩ = some _ := (B7).cell 6
    have z7 : World.cell? (w7) ⟨w.heap.size, 7, none⟩ = some _ := (B7).cell 7
    have z8 : World.cell? (w7) ⟨w.heap.size, 8, none⟩ = some _ := (B7).cell 8
    have z9 : World.cell? (w7) ⟨w.heap.size, 9, none⟩ = some _ := (B7).cell 9
    have z10 : World.cell? (w7) ⟨w.heap.size, 10, none⟩ = some _ := (B7).cell 10
    refine flo3_read _ rfl (fun W => Turns [] w7 W) (Turns.refl _ _) (fun j hj W hW => hW) (fun K hK => ?_)
    go_simp
    first | (refine hK _ ?_) | (refine ⟨fun W hS => ?_, hK _ ?_⟩; · (have X0 := hS.old z0; have X6 := hS.old z6; have X7 := hS.old z7; have X8 := hS.old z8; have X9 := hS.old z9; have X10 := hS.old z10; try go_simp))
    clear hK K
    refine flo3_read _ rfl (fun W => Turns [] w7 W) (Turns.refl _ _) (fun j hj W hW => hW) (fun K hK => ?_)
    go_simp
    first | (refine hK _ ?_) | (refine ⟨fun W hS => ?_, hK _ ?_⟩; · (have X0 := hS.old z0; have X6 := hS.old z6; have X7 := hS.old z7; have X8 := hS.old z8; have X9 := hS.old z9; have X10 := hS.old z10; try go_simp))
    clear hK K
    refine flo3_read _ rfl (fun W => Turns [] w7 W) (Turns.refl _ _) (fun j hj W hW => hW) (fun K hK => ?_)
    go_simp
    first | (refine hK _ ?_) | (refine ⟨fun W hS => ?_, hK _ ?_⟩; · (have X0 := hS.old z0; have X6 := hS.old z6; have X7 := hS.old z7; have X8 := hS.old z8; have X9 := hS.old z9; have X10 := hS.old z10; try go_simp))
    clear hK K
    refine flo3_read _ rfl (fun W => Turns [] w7 W) (Turns.refl _ _) (fun j hj W hW => hW) (fun K hK => ?_)
    go_simp
    first | (refine hK _ ?_) | (refine ⟨fun W hS => ?_, hK _ ?_⟩; · (have X0 := hS.old z0; have X6 := hS.old z6; have X7 := hS.old z7; have X8 := hS.old z8; have X9 := hS.old z9; have X10 := hS.old z10; try go_simp))
    clear hK K
    refine flo3_read _ rfl (fun W => Turns [] w7 W) (Turns.refl _ _) (fun j hj W hW => hW) (fun K hK => ?_)
    go_simp
    first | (refine hK _ ?_) | (refine ⟨fun W hS => ?_, hK _ ?_⟩; · (have X0 := hS.old z0; have X6 := hS.old z6; have X7 := hS.old z7; have X8 := hS.old z8; have X9 := hS.old z9; have X10 := hS.old z10; try go_simp))
    clear hK K
    refine flo3_read _ rfl (fun W => Turns [] w7 W) (Turns.refl _ _) (fun j hj W hW => hW) (fun K hK => ?_)
    go_simp
    first | (refine hK _ ?_) | (refine ⟨fun W hS => ?_, hK _ ?_⟩; · (have X0 := hS.old z0; have X6 := hS.old z6; have X7 := hS.old z7; have X8 := hS.old z8; have X9 := hS.old z9; have X10 := hS.old z10; try go_simp))
    clear hK K
    refine flo3_read _ rfl (fun W => Turns [] w7 W) (Turns.refl _ _) (fun j hj W hW => hW) (fun K hK => ?_)
    go_simp
    first | (refine hK _ ?_) | (refine ⟨fun W hS => ?_, hK _ ?_⟩; · (have X0 := hS.old z0; have X6 := hS.old z6; have X7 := hS.old z7; have X8 := hS.old z8; have X9 := hS.old z9; have X10 := hS.old z10; try go_simp))
    clear hK K
    refine flo3_read _ rfl (fun W => Turns [] w7 W) (Turns.refl _ _) (fun j hj W hW => hW) (fun K hK => ?_)
    go_simp
    first | (refine hK _ ?_) | (refine ⟨fun W hS => ?_, hK _ ?_⟩; · (have X0 := hS.old z0; have X6 := hS.old z6; have X7 := hS.old z7; have X8 := hS.old z8; have X9 := hS.old z9; have X10 := hS.old z10; try go_simp))
    clear hK K
    refine flo3_read _ rfl (fun W => Turns [] w7 W) (Turns.refl _ _) (fun j hj W hW => hW) (fun K hK => ?_)
    go_simp
    first | (refine hK _ ?_) | (refine ⟨fun W hS => ?_, hK _ ?_⟩; · (have X0 := hS.old z0; have X6 := hS.old z6; have X7 := hS.old z7; have X8 := hS.old z8; have X9 := hS.old z9; have X10 := hS.old z10; try go_simp))
    clear hK K
    clear z0 z6 z7 z8 z9 z10
    refine flo3_fork _ rfl _ rfl ?_ ?_
    · go_wp2_with fail
      have hm0 := IMap.new w7
      have tm := (Turns.refl [] w7).alloc (.map #[] 0)
      refine ⟨tm, _, fun _ _ h => h, ?_⟩
      generalize w7.alloc (.map #[] 0) = w8 at *
      refine flo3_alone _ rfl ?_
      go_wp2_with fail
      refine ⟨tm, _, fun _ _ h => h, ?_⟩
      have y4 := (show Turns [] w7 _ from tm).old z4
      have y5 := (show Turns [] w7 _ from tm).old z5
      refine flo3_read _ rfl (fun W => Turns [] w7 W) (tm) (fun j hj W hW => hW) (fun K hK => ?_)
      go_simp
      first | (refine hK _ ?_) | (refine ⟨fun W hS => ?_, hK _ ?_⟩; · (have X4 := hS.old z4; have X5 := hS.old z5; try go_simp))
      clear hK K
      refine flo3_read _ rfl (fun W => Turns [] w7 W) (tm) (fun j hj W hW => hW) (fun K hK => ?_)
      go_simp
      first | (refine hK _ ?_) | (refine ⟨fun W hS => ?_, hK _ ?_⟩; · (have X4 := hS.old z4; have X5 := hS.old z5; try go_simp))
      clear hK K
      refine flo3_read _ rfl (fun W => Turns [] w7 W) (tm) (fun j hj W hW => hW) (fun K hK => ?_)
      go_simp
      first | (refine hK _ ?_) | (refine ⟨fun W hS => ?_, hK _ ?_⟩; · (have X4 := hS.old z4; have X5 := hS.old z5; try go_simp))
      clear hK K
      refine flo3_read _ rfl (fun W => Turns [] w7 W) (tm) (fun j hj W hW => hW) (fun K hK => ?_)
      go_simp
      first | (refine hK _ ?_) | (refine ⟨fun W hS => ?_, hK _ ?_⟩; · (have X4 := hS.old z4; have X5 := hS.old z5; try go_simp))
      clear hK K
      refine flo3_read _ rfl (fun W => Turns [] w7 W) (tm) (fun j hj W hW => hW) (fun K hK => ?_)
      go_simp
      first | (refine hK _ ?_) | (refine ⟨fun W hS => ?_, hK _ ?_⟩; · (have X4 := hS.old z4; have X5 := hS.old z5; try go_simp))
      clear hK K
      refine flo3_read _ rfl (fun W => Turns [] w7 W) (tm) (fun j hj W hW => hW) (fun K hK => ?_)
      go_simp
      first | (refine hK _ ?_) | (refine ⟨fun W hS => ?_, hK _ ?_⟩; · (have X4 := hS.old z4; have X5 := hS.old z5; try go_simp))
      clear hK K
      refine flo3_read _ rfl (fun W => Turns [] w7 W) (tm) (fun j hj W hW => hW) (fun K hK => ?_)
      go_simp
      first | (refine hK _ ?_) | (refine ⟨fun W hS => ?_, hK _ ?_⟩; · (have X4 := hS.old z4; have X5 := hS.old z5; try go_simp))
      clear hK K
      refine flo3_read _ rfl (fun W => Turns [] w7 W) (tm) (fun j hj W hW => hW) (fun K hK => ?_)
      go_simp
      first | (refine hK _ ?_) | (refine ⟨fun W hS => ?_, hK _ ?_⟩; · (have X4 := hS.old z4; have X5 := hS.old z5; try go_simp))
      clear hK K
      refine flo3_read _ rfl (fun W => Turns [] w7 W) (tm) (fun j hj W hW => hW) (fun K hK => ?_)
      go_simp
      first | (refine hK _ ?_) | (refine ⟨fun W hS => ?_, hK _ ?_⟩; · (have X4 := hS.old z4; have X5 := hS.old z5; try go_simp))
      clear hK K
      refine flo3_read _ rfl (fun W => Turns [] w7 W) (tm) (fun j hj W hW => hW) (fun K hK => ?_)
      go_simp
      first | (refine hK _ ?_) | (refine ⟨fun W hS => ?_, hK _ ?_⟩; · (have X4 := hS.old z4; have X5 := hS.old z5; try go_simp))
      clear hK K
      refine flo3_read _ rfl (fun W => Turns [] w7 W) (tm) (fun j hj W hW => hW) (fun K hK => ?_)
      go_simp
      first | (refine hK _ ?_) | (refine ⟨fun W hS => ?_, hK _ ?_⟩; · (have X4 := hS.old z4; have X5 := hS.old z5; try go_simp))
      clear hK K
      refine flo3_read _ rfl (fun W => Turns [] w7 W) (tm) (fun j hj W hW => hW) (fun K hK => ?_)
      go_simp
      first | (refine hK _ ?_) | (refine ⟨fun W hS => ?_, hK _ ?_⟩; · (have X4 := hS.old z4; have X5 := hS.old z5; try go_simp))
      clear hK K
      refine flo3_read _ rfl (fun W => Turns [] w7 W) (tm) (fun j hj W hW => hW) (fun K hK => ?_)
      go_simp
      first | (refine hK _ ?_) | (refine ⟨fun W hS => ?_, hK _ ?_⟩; · (have X4 := hS.old z4; have X5 := hS.old z5; try go_simp))
      clear hK K
      refine flo3_read _ rfl (fun W => Turns [] w7 W) (tm) (fun j hj W hW => hW) (fun K hK => ?_)
      go_simp
      first | (refine hK _ ?_) | (refine ⟨fun W hS => ?_, hK _ ?_⟩; · (have X4 := hS.old z4; have X5 := hS.old z5; try go_simp))
      clear hK K
      refine flo3_read _ rfl (fun W => Turns [] w7 W) (tm) (fun j hj W hW => hW) (fun K hK => ?_)
      go_simp
      first | (refine hK _ ?_) | (refine ⟨fun W hS => ?_, hK _ ?_⟩; · (have X4 := hS.old z4; have X5 := hS.old z5; try go_simp))
      clear hK K
      refine flo3_read _ rfl (fun W => Turns [] w7 W) (tm) (fun j hj W hW => hW) (fun K hK => ?_)
      go_simp
      first | (refine hK _ ?_) | (refine ⟨fun W hS => ?_, hK _ ?_⟩; · (have X4 := hS.old z4; have X5 := hS.old z5; try go_simp))
      clear hK K
      refine flo3_read _ rfl (fun W => Turns [] w7 W) (tm) (fun j hj W hW => hW) (fun K hK => ?_)
      go_simp
      first | (refine hK _ ?_) | (refine ⟨fun W hS => ?_, hK _ ?_⟩; · (have X4 := hS.old z4; have X5 := hS.old z5; try go_simp))
      clear hK K
      refine flo3_read _ rfl (fun W => Turns [] w7 W) (tm) (fun j hj W hW => hW) (fun K hK => ?_)
      go_simp
      first | (refine hK _ ?_) | (refine ⟨fun W hS => ?_, hK _ ?_⟩; · (have X4 := hS.old z4; have X5 := hS.old z5; try go_simp))
      clear hK K
      refine flo3_read _ rfl (fun W => Turns [] w7 W) (tm) (fun j hj W hW => hW) (fun K hK => ?_)
      go_simp
      first | (refine hK _ ?_) | (refine ⟨fun W hS => ?_, hK _ ?_⟩; · (have X4 := hS.old z4; have X5 := hS.old z5; try go_simp))
      clear hK K
      refine flo3_read _ rfl (fun W => Turns [] w7 W) (tm) (fun j hj W hW => hW) (fun K hK => ?_)
      go_simp
      first | (refine hK _ ?_) | (refine ⟨fun W hS => ?_, hK _ ?_⟩; · (have X4 := hS.old z4; have X5 := hS.old z5; try go_simp))
      clear hK K
      refine flo3_read _ rfl (fun W => Turns [] w7 W) (tm) (fun j hj W hW => hW) (fun K hK => ?_)
      go_simp
      first | (refine hK _ ?_) | (refine ⟨fun W hS => ?_, hK _ ?_⟩; · (have X4 := hS.old z4; have X5 := hS.old z5; try go_simp))
      clear hK K
      refine flo3_read _ rfl (fun W => Turns [] w7 W) (tm) (fun j hj W hW => hW) (fun K hK => ?_)
      go_simp
      first | (refine hK _ ?_) | (refine ⟨fun W hS => ?_, hK _ ?_⟩; · (have X4 := hS.old z4; have X5 := hS.old z5; try go_simp))
      clear hK K
      refine flo3_read _ rfl (fun W => Turns [] w7 W) (tm) (fun j hj W hW => hW) (fun K hK => ?_)
      go_simp
      first | (refine hK _ ?_) | (refine ⟨fun W hS => ?_, hK _ ?_⟩; · (have X4 := hS.old z4; have X5 := hS.old z5; try go_simp))
      clear hK K
      clear y4 y5
      have hO := prs_once (false && bt) (false && (bg && (bh && (f.bits == 0)))) (false && (bg && (f.hop == 0))) (false && false)
      refine flo3_group (fun rem a' w' => a' = _ ∧ Fill w7 w7.heap.size (prs (false && bt) (false && (bg && (bh && (f.bits == 0)))) (false && (bg && (f.hop == 0))) (false && false)) [7, 20, 30, 35] rem w') ⟨rfl, Fill.start hm0 (by decide) tm⟩ ?_ ?_
      · rintro rem a' w' ⟨rfl, hF⟩ i hi
        have hi4 : i = 7 ∨ i = 20 ∨ i = 30 ∨ i = 35 := by simpa using hF.sub i hi
        obtain ⟨l, hl, hp⟩ := hF.map
        have hst := fun k v w'' hpr h1 h2 => hF.step (w' := w'') hl hp hO (Nat.le_refl _) hi k v hpr h1 h2
        rcases hi4 with rfl | rfl | rfl | rfl
        · refine wpOp_of_list _ rfl ?_
          refine wp_insert hl rfl _ _ _ _ _ _ rfl Try.underlying105 Try.underlying32 rfl 0 rfl _ rfl ?_
          intro w'' h1 t1
          have hs := hst 0 _ w'' rfl h1 t1
          exact ⟨hs.t, rfl, hs⟩
        · refine wpOp_of_list _ rfl ?_
          refine wp_insert hl rfl _ _ _ _ _ _ rfl Try.underlying105 Try.underlying32 rfl 1 rfl _ rfl ?_
          intro w'' h1 t1
          have hs := hst 1 _ w'' rfl h1 t1
          exact ⟨hs.t, rfl, hs⟩
        · refine wpOp_of_list _ rfl ?_
          refine wp_insert hl rfl _ _ _ _ _ _ rfl Try.underlying105 Try.underlying32 rfl 2 rfl _ rfl ?_
          intro w'' h1 t1
          have hs := hst 2 _ w'' rfl h1 t1
          exact ⟨hs.t, rfl, hs⟩
        · refine wpOp_of_list _ rfl ?_
          refine wp_insert hl rfl _ _ _ _ _ _ rfl Try.underlying105 Try.underlying32 rfl 3 rfl _ rfl ?_
          intro w'' h1 t1
          have hs := hst 3 _ w'' rfl h1 t1
          exact ⟨hs.t, rfl, hs⟩
      · rintro a' w8 ⟨rfl, hF⟩
        obtain ⟨l, hl, hat⟩ := hF.done hO
        obtain ⟨mv, mi, e1, e2, e3⟩ := prs_at (false && bt) (false && (bg && (bh && (f.bits == 0)))) (false && (bg && (f.hop == 0))) (false && false) f.kind
        have hlk := run_lookup hl Try.underlying105 Try.underlying32 f.kind (zeroBool w8) true
        rw [hat, e1, e2] at hlk
        simp only [if_true] at hlk
        have T8 := hF.t
        have hX := hXh.out (mi && mv) w8 e3 (T7.trans T8)
        clear hl hat e1 e2 e3 hF hXh
        refine flo3_read _ rfl (fun W => W = w8) (rfl) (fun j hj => by simp at hj) (fun K hK => ?_)
        go_simp
        first | (refine hK _ ?_) | (refine ⟨fun W hS => ?_, hK _ ?_⟩; · (subst hS; try go_simp))
        clear hK K
        refine flo3_read _ rfl (fun W => W = w8) (rfl) (fun j hj => by simp at hj) (fun K hK => ?_)
        go_simp
        first | (refine hK _ ?_) | (refine ⟨fun W hS => ?_, hK _ ?_⟩; · (subst hS; try go_simp))
        clear hK K
        refine flo3_read _ rfl (fun W => W = w8) (rfl) (fun j hj => by simp at hj) (fun K hK => ?_)
        go_simp
        first | (refine hK _ ?_) | (refine ⟨fun W hS => ?_, hK _ ?_⟩; · (subst hS; try go_simp))
        clear hK K
        refine flo3_read _ rfl (fun W => W = w8) (rfl) (fun j hj => by simp at hj) (fun K hK => ?_)
        go_simp
        first | (refine hK _ ?_) | (refine ⟨fun W hS => ?_, hK _ ?_⟩; · (subst hS; try go_simp))
        clear hK K
        refine flo3_read _ rfl (fun W => W = w8) (rfl) (fun j hj => by simp at hj) (fun K hK => ?_)
        go_simp
        first | (refine hK _ ?_) | (refine ⟨fun W hS => ?_, hK _ ?_⟩; · (subst hS; try go_simp))
        clear hK K
        refine flo3_read _ rfl (fun W => W = w8) (rfl) (fun j hj => by simp at hj) (fun K hK => ?_)
        go_simp
        first | (refine hK _ ?_) | (refine ⟨fun W hS => ?_, hK _ ?_⟩; · (subst hS; try go_simp))
        clear hK K
        refine flo3_read _ rfl (fun W => W = w8) (rfl) (fun j hj => by simp at hj) (fun K hK => ?_)
        go_simp
        first | (refine hK _ ?_) | (refine ⟨fun W hS => ?_, hK _ ?_⟩; · (subst hS; try go_simp))
        clear hK K
        refine flo3_end ?_
        cases mi with
        | false =>
          go_wp2_with fail
          exact hX
        | true =>
          go_wp2_with fail
          exact hX
    · go_wp2_with fail
      refine ⟨Turns.refl _ _, _, fun _ _ h => h, ?_⟩
      have y4 := (show Turns [] w7 _ from Turns.refl _ _).old z4
      have y5 := (show Turns [] w7 _ from Turns.refl _ _).old z5
      refine flo3_read _ rfl (fun W => Turns [] w7 W) (Turns.refl _ _) (fun j hj W hW => hW) (fun K hK => ?_)
      go_simp
      first | (refine hK _ ?_) | (refine ⟨fun W hS => ?_, hK _ ?_⟩; · (have X4 := hS.old z4; have X5 := hS.old z5; try go_simp))
      clear hK K
      refine flo3_read _ rfl (fun W => Turns [] w7 W) (Turns.refl _ _) (fun j hj W hW => hW) (fun K hK => ?_)
      go_simp
      first | (refine hK _ ?_) | (refine ⟨fun W hS => ?_, hK _ ?_⟩; · (have X4 := hS.old z4; have X5 := hS.old z5; try go_simp))
      clear hK K
      refine flo3_read _ rfl (fun W => Turns [] w7 W) (Turns.refl _ _) (fun j hj W hW => hW) (fun K hK => ?_)
      go_simp
      first | (refine hK _ ?_) | (refine ⟨fun W hS => ?_, hK _ ?_⟩; · (have X4 := hS.old z4; have X5 := hS.old z5; try go_simp))
      clear hK K
      refine flo3_read _ rfl (fun W => Turns [] w7 W) (Turns.refl _ _) (fun j hj W hW => hW) (fun K hK => ?_)
      go_simp
      first | (refine hK _ ?_) | (refine ⟨fun W hS => ?_, hK _ ?_⟩; · (have X4 := hS.old z4; have X5 := hS.old z5; try go_simp))
      clear hK K
      refine flo3_read _ rfl (fun W => Turns [] w7 W) (Turns.refl _ _) (fun j hj W hW => hW) (fun K hK => ?_)
      go_simp
      first | (refine hK _ ?_) | (refine ⟨fun W hS => ?_, hK _ ?_⟩; · (have X4 := hS.old z4; have X5 := hS.old z5; try go_simp))
      clear hK K
      refine flo3_read _ rfl (fun W => Turns [] w7 W) (Turns.refl _ _) (fun j hj W hW => hW) (fun K hK => ?_)
      go_simp
      first | (refine hK _ ?_) | (refine ⟨fun W hS => ?_, hK _ ?_⟩; · (have X4 := hS.old z4; have X5 := hS.old z5; try go_simp))
      clear hK K
      refine flo3_read _ rfl (fun W => Turns [] w7 W) (Turns.refl _ _) (fun j hj W hW => hW) (fun K hK => ?_)
      go_simp
      first | (refine hK _ ?_) | (refine ⟨fun W hS => ?_, hK _ ?_⟩; · (have X4 := hS.old z4; have X5 := hS.old z5; try go_simp))
      clear hK K
      refine flo3_read _ rfl (fun W => Turns [] w7 W) (Turns.refl _ _) (fun j hj W hW => hW) (fun K hK => ?_)
      go_simp
      first | (refine hK _ ?_) | (refine ⟨fun W hS => ?_, hK _ ?_⟩; · (have X4 := hS.old z4; have X5 := hS.old z5; try go_simp))
      clear hK K
      refine flo3_read _ rfl (fun W => Turns [] w7 W) (Turns.refl _ _) (fun j hj W hW => hW) (fun K hK => ?_)
      go_simp
      first | (refine hK _ ?_) | (refine ⟨fun W hS => ?_, hK _ ?_⟩; · (have X4 := hS.old z4; have X5 := hS.old z5; try go_simp))
      clear hK K
      refine flo3_read _ rfl (fun W => Turns [] w7 W) (Turns.refl _ _) (fun j hj W hW => hW) (fun K hK => ?_)
      go_simp
      first | (refine hK _ ?_) | (refine ⟨fun W hS => ?_, hK _ ?_⟩; · (have X4 := hS.old z4; have X5 := hS.old z5; try go_simp))
      clear hK K
      refine flo3_read _ rfl (fun W => Turns [] w7 W) (Turns.refl _ _) (fun j hj W hW => hW) (fun K hK => ?_)
      go_simp
      first | (refine hK _ ?_) | (refine ⟨fun W hS => ?_, hK _ ?_⟩; · (have X4 := hS.old z4; have X5 := hS.old z5; try go_simp))
      clear hK K
      refine flo3_read _ rfl (fun W => Turns [] w7 W) (Turns.refl _ _) (fun j hj W hW => hW) (fun K hK => ?_)
      go_simp
      first | (refine hK _ ?_) | (refine ⟨fun W hS => ?_, hK _ ?_⟩; · (have X4 := hS.old z4; have X5 := hS.old z5; try go_simp))
      clear hK K
      refine flo3_read _ rfl (fun W => Turns [] w7 W) (Turns.refl _ _) (fun j hj W hW => hW) (fun K hK => ?_)
      go_simp
      first | (refine hK _ ?_) | (refine ⟨fun W hS => ?_, hK _ ?_⟩; · (have X4 := hS.old z4; have X5 := hS.old z5; try go_simp))
      clear hK K
      refine flo3_read _ rfl (fun W => Turns [] w7 W) (Turns.refl _ _) (fun j hj W hW => hW) (fun K hK => ?_)
      go_simp
      first | (refine hK _ ?_) | (refine ⟨fun W hS => ?_, hK _ ?_⟩; · (have X4 := hS.old z4; have X5 := hS.old z5; try go_simp))
      clear hK K
      refine flo3_read _ rfl (fun W => Turns [] w7 W) (Turns.refl _ _) (fun j hj W hW => hW) (fun K hK => ?_)
      go_simp
      first | (refine hK _ ?_) | (refine ⟨fun W hS => ?_, hK _ ?_⟩; · (have X4 := hS.old z4; have X5 := hS.old z5; try go_simp))
      clear hK K
      refine flo3_read _ rfl (fun W => Turns [] w7 W) (Turns.refl _ _) (fun j hj W hW => hW) (fun K hK => ?_)
      go_simp
      first | (refine hK _ ?_) | (refine ⟨fun W hS => ?_, hK _ ?_⟩; · (have X4 := hS.old z4; have X5 := hS.old z5; try go_simp))
      clear hK K
      refine flo3_read _ rfl (fun W => Turns [] w7 W) (Turns.refl _ _) (fun j hj W hW => hW) (fun K hK => ?_)
      go_simp
      first | (refine hK _ ?_) | (refine ⟨fun W hS => ?_, hK _ ?_⟩; · (have X4 := hS.old z4; have X5 := hS.old z5; try go_simp))
      clear hK K
      refine flo3_read _ rfl (fun W => Turns [] w7 W) (Turns.refl _ _) (fun j hj W hW => hW) (fun K hK => ?_)
      go_simp
      first | (refine hK _ ?_) | (refine ⟨fun W hS => ?_, hK _ ?_⟩; · (have X4 := hS.old z4; have X5 := hS.old z5; try go_simp))
      clear hK K
      refine flo3_read _ rfl (fun W => Turns [] w7 W) (Turns.refl _ _) (fun j hj W hW => hW) (fun K hK => ?_)
      go_simp
      first | (refine hK _ ?_) | (refine ⟨fun W hS => ?_, hK _ ?_⟩; · (have X4 := hS.old z4; have X5 := hS.old z5; try go_simp))
      clear hK K
      refine flo3_read _ rfl (fun W => Turns [] w7 W) (Turns.refl _ _) (fun j hj W hW => hW) (fun K hK => ?_)
      go_simp
      first | (refine hK _ ?_) | (refine ⟨fun W hS => ?_, hK _ ?_⟩; · (have X4 := hS.old z4; have X5 := hS.old z5; try go_simp))
      clear hK K
      refine flo3_read _ rfl (fun W => Turns [] w7 W) (Turns.refl _ _) (fun j hj W hW => hW) (fun K hK => ?_)
      go_simp
      first | (refine hK _ ?_) | (refine ⟨fun W hS => ?_, hK _ ?_⟩; · (have X4 := hS.old z4; have X5 := hS.old z5; try go_simp))
      clear hK K
      refine flo3_read _ rfl (fun W => Turns [] w7 W) (Turns.refl _ _) (fun j hj W hW => hW) (fun K hK => ?_)
      go_simp
      first | (refine hK _ ?_) | (refine ⟨fun W hS => ?_, hK _ ?_⟩; · (have X4 := hS.old z4; have X5 := hS.old z5; try go_simp))
      clear hK K
      refine flo3_read _ rfl (fun W => Turns [] w7 W) (Turns.refl _ _) (fun j hj W hW => hW) (fun K hK => ?_)
      go_simp
      first | (refine hK _ ?_) | (refine ⟨fun W hS => ?_, hK _ ?_⟩; · (have X4 := hS.old z4; have X5 := hS.old z5; try go_simp))
      clear hK K
      clear y4 y5
      refine flo3_alone _ rfl ?_
      go_wp2_with fail
      have hm0 := IMap.new w7
      have tm := (Turns.refl [] w7).alloc (.map #[] 0)
      refine ⟨tm, _, fun _ _ h => h, ?_⟩
      generalize w7.alloc (.map #[] 0) = w8 at *
      have hO := prs_once (false && bt) (false && (bg && (bh && (f.bits == 0)))) (false && (bg && (f.hop == 0))) (false && false)
      refine flo3_group (fun rem a' w' => a' = _ ∧ Fill w7 w7.heap.size (prs (false && bt) (false && (bg && (bh && (f.bits == 0)))) (false && (bg && (f.hop == 0))) (false && false)) [7, 20, 30, 35] rem w') ⟨rfl, Fill.start hm0 (by decide) tm⟩ ?_ ?_
      · rintro rem a' w' ⟨rfl, hF⟩ i hi
        have hi4 : i = 7 ∨ i = 20 ∨ i = 30 ∨ i = 35 := by simpa using hF.sub i hi
        obtain ⟨l, hl, hp⟩ := hF.map
        have hst := fun k v w'' hpr h1 h2 => hF.step (w' := w'') hl hp hO (Nat.le_refl _) hi k v hpr h1 h2
        rcases hi4 with rfl | rfl | rfl | rfl
        · refine wpOp_of_list _ rfl ?_
          refine wp_insert hl rfl _ _ _ _ _ _ rfl Try.underlying105 Try.underlying32 rfl 0 rfl _ rfl ?_
          intro w'' h1 t1
          have hs := hst 0 _ w'' rfl h1 t1
          exact ⟨hs.t, rfl, hs⟩
        · refine wpOp_of_list _ rfl ?_
          refine wp_insert hl rfl _ _ _ _ _ _ rfl Try.underlying105 Try.underlying32 rfl 1 rfl _ rfl ?_
          intro w'' h1 t1
          have hs := hst 1 _ w'' rfl h1 t1
          exact ⟨hs.t, rfl, hs⟩
        · refine wpOp_of_list _ rfl ?_
          refine wp_insert hl rfl _ _ _ _ _ _ rfl Try.underlying105 Try.underlying32 rfl 2 rfl _ rfl ?_
          intro w'' h1 t1
          have hs := hst 2 _ w'' rfl h1 t1
          exact ⟨hs.t, rfl, hs⟩
        · refine wpOp_of_list _ rfl ?_
          refine wp_insert hl rfl _ _ _ _ _ _ rfl Try.underlying105 Try.underlying32 rfl 3 rfl _ rfl ?_
          intro w'' h1 t1
          have hs := hst 3 _ w'' rfl h1 t1
          exact ⟨hs.t, rfl, hs⟩
      · rintro a' w8 ⟨rfl, hF⟩
        obtain ⟨l, hl, hat⟩ := hF.done hO
        obtain ⟨mv, mi, e1, e2, e3⟩ := prs_at (false && bt) (false && (bg && (bh && (f.bits == 0)))) (false && (bg && (f.hop == 0))) (false && false) f.kind
        have hlk := run_lookup hl Try.underlying105 Try.underlying32 f.kind (zeroBool w8) true
        rw [hat, e1, e2] at hlk
        simp only [if_true] at hlk
        have T8 := hF.t
        have hX := hXh.out (mi && mv) w8 e3 (T7.trans T8)
        clear hl hat e1 e2 e3 hF hXh
        refine flo3_read _ rfl (fun W => W = w8) (rfl) (fun j hj => by simp at hj) (fun K hK => ?_)
        go_simp
        first | (refine hK _ ?_) | (refine ⟨fun W hS => ?_, hK _ ?_⟩; · (subst hS; try go_simp))
        clear hK K
        refine flo3_read _ rfl (fun W => W = w8) (rfl) (fun j hj => by simp at hj) (fun K hK => ?_)
        go_simp
        first | (refine hK _ ?_) | (refine ⟨fun W hS => ?_, hK _ ?_⟩; · (subst hS; try go_simp))
        clear hK K
        refine flo3_read _ rfl (fun W => W = w8) (rfl) (fun j hj => by simp at hj) (fun K hK => ?_)
        go_simp
        first | (refine hK _ ?_) | (refine ⟨fun W hS => ?_, hK _ ?_⟩; · (subst hS; try go_simp))
        clear hK K
        refine flo3_read _ rfl (fun W => W = w8) (rfl) (fun j hj => by simp at hj) (fun K hK => ?_)
        go_simp
        first | (refine hK _ ?_) | (refine ⟨fun W hS => ?_, hK _ ?_⟩; · (subst hS; try go_simp))
        clear hK K
        refine flo3_read _ rfl (fun W => W = w8) (rfl) (fun j hj => by simp at hj) (fun K hK => ?_)
        go_simp
        first | (refine hK _ ?_) | (refine ⟨fun W hS => ?_, hK _ ?_⟩; · (subst hS; try go_simp))
        clear hK K
        refine flo3_read _ rfl (fun W => W = w8) (rfl) (fun j hj => by simp at hj) (fun K hK => ?_)
        go_simp
        first | (refine hK _ ?_) | (refine ⟨fun W hS => ?_, hK _ ?_⟩; · (subst hS; try go_simp))
        clear hK K
        refine flo3_read _ rfl (fun W => W = w8) (rfl) (fun j hj => by simp at hj) (fun K hK => ?_)
        go_simp
        first | (refine hK _ ?_) | (refine ⟨fun W hS => ?_, hK _ ?_⟩; · (subst hS; try go_simp))
        clear hK K
        refine flo3_end ?_
        cases mi with
        | false =>
          go_wp2_with fail
          exact hX
        | true =>
          go_wp2_with fail
          exact hX
  | true =>
    have hg : bg = false := by have := hbg2.out; rw [hnot (by rw [hbe2.out])] at this; exact this.symm
    subst hg
    go_wp2_with fail
    clear x3 x4 x5
    go_wp2_with fail
    refine wp_region_flo3 (.read 1 [0, 5, 7, 20, 30, 35] (.read 2 [0, 7, 20, 30, 35] (.read 3 [0, 5, 7, 20, 30, 35] (.read 4 [0, 7, 20, 30, 35] (.read 8 [0, 5, 7, 20, 30, 35] (.read 21 [0, 5, 7, 20, 30, 35] (.read 31 [0, 5, 7, 20, 30, 35] (.read 37 [0, 5, 7, 20, 30, 35] (.read 38 [0, 5, 7, 20, 30, 35] (.fork 0 (.alone 5 (.read 6 [20, 30, 35] (.read 9 [7, 20, 30, 35] (.read 10 [7, 20, 30, 35] (.read 11 [7, 20, 30, 35] (.read 12 [7, 20, 30, 35] (.read 13 [7, 20, 30, 35] (.read 14 [7, 20, 30, 35] (.read 15 [7, 20, 30, 35] (.read 16 [7, 20, 30, 35] (.read 17 [7, 20, 30, 35] (.read 18 [7, 20, 30, 35] (.read 19 [7, 30, 35] (.read 22 [7, 20, 30, 35] (.read 23 [7, 20, 30, 35] (.read 24 [7, 20, 30, 35] (.read 25 [7, 20, 30, 35] (.read 26 [7, 20, 30, 35] (.read 27 [7, 20, 30, 35] (.read 28 [7, 20, 30, 35] (.read 29 [7, 20, 35] (.read 32 [7, 20, 30, 35] (.read 33 [7, 20, 30, 35] (.read 34 [7, 20, 30] (.group [7, 20, 30, 35] (.read 36 [] (.read 39 [] (.read 40 [] (.read 41 [] (.read 42 [] (.read 43 [] (.read 44 [] (.done))))))))))))))))))))))))))))))))) 5 (.read 6 [0, 20, 30, 35] (.read 9 [0, 7, 20, 30, 35] (.read 10 [0, 7, 20, 30, 35] (.read 11 [0, 7, 20, 30, 35] (.read 12 [0, 7, 20, 30, 35] (.read 13 [0, 7, 20, 30, 35] (.read 14 [0, 7, 20, 30, 35] (.read 15 [0, 7, 20, 30, 35] (.read 16 [0, 7, 20, 30, 35] (.read 17 [0, 7, 20, 30, 35] (.read 18 [0, 7, 20, 30, 35] (.read 19 [0, 7, 30, 35] (.read 22 [0, 7, 20, 30, 35] (.read 23 [0, 7, 20, 30, 35] (.read 24 [0, 7, 20, 30, 35] (.read 25 [0, 7, 20, 30, 35] (.read 26 [0, 7, 20, 30, 35] (.read 27 [0, 7, 20, 30, 35] (.read 28 [0, 7, 20, 30, 35] (.read 29 [0, 7, 20, 35] (.read 32 [0, 7, 20, 30, 35] (.read 33 [0, 7, 20, 30, 35] (.read 34 [0, 7, 20, 30] (.alone 0 (.group [7, 20, 30, 35] (.read 36 [] (.read 39 [] (.read 40 [] (.read 41 [] (.read 42 [] (.read 43 [] (.read 44 [] (.done))))))))))))))))))))))))))))))))))))))))))) (fun j W => Turns [] w6.drew W) (by kernel_rfl) rfl (by kernel_rfl) (by intro c d v a w h; cases d <;> first | (simpa [Exit.then, Exit.inBlock, Act.put] using h) | exact h) ?_
    have B7 := B6.drew
    have T7 := T6.drew
    generalize w6.drew = w7 at *
    have z0 : World.cell? (w7) ⟨w.heap.size, 0, none⟩ = some _ := (B7).cell 0
    have z4 : World.cell? (w7) ⟨w.heap.size, 4, none⟩ = some _ := (B7).cell 4
    have z5 : World.cell? (w7) ⟨w.heap.size, 5, none⟩ = some _ := (B7).cell 5
    have z6 : World.cell? (w7) ⟨w.heap.size, 6, none⟩ = some _ := (B7).cell 6
    have z7 : World.cell? (w7) ⟨w.heap.size, 7, none⟩ = some _ := (B7).cell 7
    have z8 : World.cell? (w7) ⟨w.heap.size, 8, none⟩ = some _ := (B7).cell 8
    have z9 : World.cell? (w7) ⟨w.heap.size, 9, none⟩ = some _ := (B7).cell 9
    have z10 : World.cell? (w7) ⟨w.heap.size, 10, none⟩ = some _ := (B7).cell 10
    refine flo3_read _ rfl (fun W => Turns [] w7 W) (Turns.refl _ _) (fun j hj W hW => hW) (fun K hK => ?_)
    go_simp
    first | (refine hK _ ?_) | (refine ⟨fun W hS => ?_, hK _ ?_⟩; · (have X0 := hS.old z0; have X6 := hS.old z6; have X7 := hS.old z7; have X8 := hS.old z8; have X9 := hS.old z9; have X10 := hS.old z10; try go_simp))
    clear hK K
    refine flo3_read _ rfl (fun W => Turns [] w7 W) (Turns.refl _ _) (fun j hj W hW => hW) (fun K hK => ?_)
    go_simp
    first | (refine hK _ ?_) | (refine ⟨fun W hS => ?_, hK _ ?_⟩; · (have X0 := hS.old z0; have X6 := hS.old z6; have X7 := hS.old z7; have X8 := hS.old z8; have X9 := hS.old z9; have X10 := hS.old z10; try go_simp))
    clear hK K
    refine flo3_read _ rfl (fun W => Turns [] w7 W) (Turns.refl _ _) (fun j hj W hW => hW) (fun K hK => ?_)
    go_simp
    first | (refine hK _ ?_) | (refine ⟨fun W hS => ?_, hK _ ?_⟩; · (have X0 := hS.old z0; have X6 := hS.old z6; have X7 := hS.old z7; have X8 := hS.old z8; have X9 := hS.old z9; have X10 := hS.old z10; try go_simp))
    clear hK K
    refine flo3_read _ rfl (fun W => Turns [] w7 W) (Turns.refl _ _) (fun j hj W hW => hW) (fun K hK => ?_)
    go_simp
    first | (refine hK _ ?_) | (refine ⟨fun W hS => ?_, hK _ ?_⟩; · (have X0 := hS.old z0; have X6 := hS.old z6; have X7 := hS.old z7; have X8 := hS.old z8; have X9 := hS.old z9; have X10 := hS.old z10; try go_simp))
    clear hK K
    refine flo3_read _ rfl (fun W => Turns [] w7 W) (Turns.refl _ _) (fun j hj W hW => hW) (fun K hK => ?_)
    go_simp
    first | (refine hK _ ?_) | (refine ⟨fun W hS => ?_, hK _ ?_⟩; · (have X0 := hS.old z0; have X6 := hS.old z6; have X7 := hS.old z7; have X8 := hS.old z8; have X9 := hS.old z9; have X10 := hS.old z10; try go_simp))
    clear hK K
    refine flo3_read _ rfl (fun W => Turns [] w7 W) (Turns.refl _ _) (fun j hj W hW => hW) (fun K hK => ?_)
    go_simp
    first | (refine hK _ ?_) | (refine ⟨fun W hS => ?_, hK _ ?_⟩; · (have X0 := hS.old z0; have X6 := hS.old z6; have X7 := hS.old z7; have X8 := hS.old z8; have X9 := hS.old z9; have X10 := hS.old z10; try go_simp))
    clear hK K
    refine flo3_read _ rfl (fun W => Turns [] w7 W) (Turns.refl _ _) (fun j hj W hW => hW) (fun K hK => ?_)
    go_simp
    first | (refine hK _ ?_) | (refine ⟨fun W hS => ?_, hK _ ?_⟩; · (have X0 := hS.old z0; have X6 := hS.old z6; have X7 := hS.old z7; have X8 := hS.old z8; have X9 := hS.old z9; have X10 := hS.old z10; try go_simp))
    clear hK K
    refine flo3_read _ rfl (fun W => Turns [] w7 W) (Turns.refl _ _) (fun j hj W hW => hW) (fun K hK => ?_)
    go_simp
    first | (refine hK _ ?_) | (refine ⟨fun W hS => ?_, hK _ ?_⟩; · (have X0 := hS.old z0; have X6 := hS.old z6; have X7 := hS.old z7; have X8 := hS.old z8; have X9 := hS.old z9; have X10 := hS.old z10; try go_simp))
    clear hK K
    refine flo3_read _ rfl (fun W => Turns [] w7 W) (Turns.refl _ _) (fun j hj W hW => hW) (fun K hK => ?_)
    go_simp
    first | (refine hK _ ?_) | (refine ⟨fun W hS => ?_, hK _ ?_⟩; · (have X0 := hS.old z0; have X6 := hS.old z6; have X7 := hS.old z7; have X8 := hS.old z8; have X9 := hS.old z9; have X10 := hS.old z10; try go_simp))
    clear hK K
    clear z0 z6 z7 z8 z9 z10
    refine flo3_fork _ rfl _ rfl ?_ ?_
    · go_wp2_with fail
      have hm0 := IMap.new w7
      have tm := (Turns.refl [] w7).alloc (.map #[] 0)
      refine ⟨tm, _, fun _ _ h => h, ?_⟩
      generalize w7.alloc (.map #[] 0) = w8 at *
      refine flo3_alone _ rfl ?_
      go_wp2_with fail
      refine ⟨tm, _, fun _ _ h => h, ?_⟩
      have y4 := (show Turns [] w7 _ from tm).old z4
      have y5 := (show Turns [] w7 _ from tm).old z5
      refine flo3_read _ rfl (fun W => Turns [] w7 W) (tm) (fun j hj W hW => hW) (fun K hK => ?_)
      go_simp
      first | (refine hK _ ?_) | (refine ⟨fun W hS => ?_, hK _ ?_⟩; · (have X4 := hS.old z4; have X5 := hS.old z5; try go_simp))
      clear hK K
      refine flo3_read _ rfl (fun W => Turns [] w7 W) (tm) (fun j hj W hW => hW) (fun K hK => ?_)
      go_simp
      first | (refine hK _ ?_) | (refine ⟨fun W hS => ?_, hK _ ?_⟩; · (have X4 := hS.old z4; have X5 := hS.old z5; try go_simp))
      clear hK K
      refine flo3_read _ rfl (fun W => Turns [] w7 W) (tm) (fun j hj W hW => hW) (fun K hK => ?_)
      go_simp
      first | (refine hK _ ?_) | (refine ⟨fun W hS => ?_, hK _ ?_⟩; · (have X4 := hS.old z4; have X5 := hS.old z5; try go_simp))
      clear hK K
      refine flo3_read _ rfl (fun W => Turns [] w7 W) (tm) (fun j hj W hW => hW) (fun K hK => ?_)
      go_simp
      first | (refine hK _ ?_) | (refine ⟨fun W hS => ?_, hK _ ?_⟩; · (have X4 := hS.old z4; have X5 := hS.old z5; try go_simp))
      clear hK K
      refine flo3_read _ rfl (fun W => Turns [] w7 W) (tm) (fun j hj W hW => hW) (fun K hK => ?_)
      go_simp
      first | (refine hK _ ?_) | (refine ⟨fun W hS => ?_, hK _ ?_⟩; · (have X4 := hS.old z4; have X5 := hS.old z5; try go_simp))
      clear hK K
      refine flo3_read _ rfl (fun W => Turns [] w7 W) (tm) (fun j hj W hW => hW) (fun K hK => ?_)
      go_simp
      first | (refine hK _ ?_) | (refine ⟨fun W hS => ?_, hK _ ?_⟩; · (have X4 := hS.old z4; have X5 := hS.old z5; try go_simp))
      clear hK K
      refine flo3_read _ rfl (fun W => Turns [] w7 W) (tm) (fun j hj W hW => hW) (fun K hK => ?_)
      go_simp
      first | (refine hK _ ?_) | (refine ⟨fun W hS => ?_, hK _ ?_⟩; · (have X4 := hS.old z4; have X5 := hS.old z5; try go_simp))
      clear hK K
      refine flo3_read _ rfl (fun W => Turns [] w7 W) (tm) (fun j hj W hW => hW) (fun K hK => ?_)
      go_simp
      first | (refine hK _ ?_) | (refine ⟨fun W hS => ?_, hK _ ?_⟩; · (have X4 := hS.old z4; have X5 := hS.old z5; try go_simp))
      clear hK K
      refine flo3_read _ rfl (fun W => Turns [] w7 W) (tm) (fun j hj W hW => hW) (fun K hK => ?_)
      go_simp
      first | (refine hK _ ?_) | (refine ⟨fun W hS => ?_, hK _ ?_⟩; · (have X4 := hS.old z4; have X5 := hS.old z5; try go_simp))
      clear hK K
      refine flo3_read _ rfl (fun W => Turns [] w7 W) (tm) (fun j hj W hW => hW) (fun K hK => ?_)
      go_simp
      first | (refine hK _ ?_) | (refine ⟨fun W hS => ?_, hK _ ?_⟩; · (have X4 := hS.old z4; have X5 := hS.old z5; try go_simp))
      clear hK K
      refine flo3_read _ rfl (fun W => Turns [] w7 W) (tm) (fun j hj W hW => hW) (fun K hK => ?_)
      go_simp
      first | (refine hK _ ?_) | (refine ⟨fun W hS => ?_, hK _ ?_⟩; · (have X4 := hS.old z4; have X5 := hS.old z5; try go_simp))
      clear hK K
      refine flo3_read _ rfl (fun W => Turns [] w7 W) (tm) (fun j hj W hW => hW) (fun K hK => ?_)
      go_simp
      first | (refine hK _ ?_) | (refine ⟨fun W hS => ?_, hK _ ?_⟩; · (have X4 := hS.old z4; have X5 := hS.old z5; try go_simp))
      clear hK K
      refine flo3_read _ rfl (fun W => Turns [] w7 W) (tm) (fun j hj W hW => hW) (fun K hK => ?_)
      go_simp
      first | (refine hK _ ?_) | (refine ⟨fun W hS => ?_, hK _ ?_⟩; · (have X4 := hS.old z4; have X5 := hS.old z5; try go_simp))
      clear hK K
      refine flo3_read _ rfl (fun W => Turns [] w7 W) (tm) (fun j hj W hW => hW) (fun K hK => ?_)
      go_simp
      first | (refine hK _ ?_) | (refine ⟨fun W hS => ?_, hK _ ?_⟩; · (have X4 := hS.old z4; have X5 := hS.old z5; try go_simp))
      clear hK K
      refine flo3_read _ rfl (fun W => Turns [] w7 W) (tm) (fun j hj W hW => hW) (fun K hK => ?_)
      go_simp
      first | (refine hK _ ?_) | (refine ⟨fun W hS => ?_, hK _ ?_⟩; · (have X4 := hS.old z4; have X5 := hS.old z5; try go_simp))
      clear hK K
      refine flo3_read _ rfl (fun W => Turns [] w7 W) (tm) (fun j hj W hW => hW) (fun K hK => ?_)
      go_simp
      first | (refine hK _ ?_) | (refine ⟨fun W hS => ?_, hK _ ?_⟩; · (have X4 := hS.old z4; have X5 := hS.old z5; try go_simp))
      clear hK K
      refine flo3_read _ rfl (fun W => Turns [] w7 W) (tm) (fun j hj W hW => hW) (fun K hK => ?_)
      go_simp
      first | (refine hK _ ?_) | (refine ⟨fun W hS => ?_, hK _ ?_⟩; · (have X4 := hS.old z4; have X5 := hS.old z5; try go_simp))
      clear hK K
      refine flo3_read _ rfl (fun W => Turns [] w7 W) (tm) (fun j hj W hW => hW) (fun K hK => ?_)
      go_simp
      first | (refine hK _ ?_) | (refine ⟨fun W hS => ?_, hK _ ?_⟩; · (have X4 := hS.old z4; have X5 := hS.old z5; try go_simp))
      clear hK K
      refine flo3_read _ rfl (fun W => Turns [] w7 W) (tm) (fun j hj W hW => hW) (fun K hK => ?_)
      go_simp
      first | (refine hK _ ?_) | (refine ⟨fun W hS => ?_, hK _ ?_⟩; · (have X4 := hS.old z4; have X5 := hS.old z5; try go_simp))
      clear hK K
      refine flo3_read _ rfl (fun W => Turns [] w7 W) (tm) (fun j hj W hW => hW) (fun K hK => ?_)
      go_simp
      first | (refine hK _ ?_) | (refine ⟨fun W hS => ?_, hK _ ?_⟩; · (have X4 := hS.old z4; have X5 := hS.old z5; try go_simp))
      clear hK K
      refine flo3_read _ rfl (fun W => Turns [] w7 W) (tm) (fun j hj W hW => hW) (fun K hK => ?_)
      go_simp
      first | (refine hK _ ?_) | (refine ⟨fun W hS => ?_, hK _ ?_⟩; · (have X4 := hS.old z4; have X5 := hS.old z5; try go_simp))
      clear hK K
      refine flo3_read _ rfl (fun W => Turns [] w7 W) (tm) (fun j hj W hW => hW) (fun K hK => ?_)
      go_simp
      first | (refine hK _ ?_) | (refine ⟨fun W hS => ?_, hK _ ?_⟩; · (have X4 := hS.old z4; have X5 := hS.old z5; try go_simp))
      clear hK K
      refine flo3_read _ rfl (fun W => Turns [] w7 W) (tm) (fun j hj W hW => hW) (fun K hK => ?_)
      go_simp
      first | (refine hK _ ?_) | (refine ⟨fun W hS => ?_, hK _ ?_⟩; · (have X4 := hS.old z4; have X5 := hS.old z5; try go_simp))
      clear hK K
      clear y4 y5
      have hO := prs_once (false && bt) (true && (false && (bh && (f.bits == 0)))) (true && (false && (f.hop == 0))) (true && false)
      refine flo3_group (fun rem a' w' => a' = _ ∧ Fill w7 w7.heap.size (prs (false && bt) (true && (false && (bh && (f.bits == 0)))) (true && (false && (f.hop == 0))) (true && false)) [7, 20, 30, 35] rem w') ⟨rfl, Fill.start hm0 (by decide) tm⟩ ?_ ?_
      · rintro rem a' w' ⟨rfl, hF⟩ i hi
        have hi4 : i = 7 ∨ i = 20 ∨ i = 30 ∨ i = 35 := by simpa using hF.sub i hi
        obtain ⟨l, hl, hp⟩ := hF.map
        have hst := fun k v w'' hpr h1 h2 => hF.step (w' := w'') hl hp hO (Nat.le_refl _) hi k v hpr h1 h2
        rcases hi4 with rfl | rfl | rfl | rfl
        · refine wpOp_of_list _ rfl ?_
          refine wp_insert hl rfl _ _ _ _ _ _ rfl Try.underlying105 Try.underlying32 rfl 0 rfl _ rfl ?_
          intro w'' h1 t1
          have hs := hst 0 _ w'' rfl h1 t1
          exact ⟨hs.t, rfl, hs⟩
        · refine wpOp_of_list _ rfl ?_
          refine wp_insert hl rfl _ _ _ _ _ _ rfl Try.underlying105 Try.underlying32 rfl 1 rfl _ rfl ?_
          intro w'' h1 t1
          have hs := hst 1 _ w'' rfl h1 t1
          exact ⟨hs.t, rfl, hs⟩
        · refine wpOp_of_list _ rfl ?_
          refine wp_insert hl rfl _ _ _ _ _ _ rfl Try.underlying105 Try.underlying32 rfl 2 rfl _ rfl ?_
          intro w'' h1 t1
          have hs := hst 2 _ w'' rfl h1 t1
          exact ⟨hs.t, rfl, hs⟩
        · refine wpOp_of_list _ rfl ?_
          refine wp_insert hl rfl _ _ _ _ _ _ rfl Try.underlying105 Try.underlying32 rfl 3 rfl _ rfl ?_
          intro w'' h1 t1
          have hs := hst 3 _ w'' rfl h1 t1
          exact ⟨hs.t, rfl, hs⟩
      · rintro a' w8 ⟨rfl, hF⟩
        obtain ⟨l, hl, hat⟩ := hF.done hO
        obtain ⟨mv, mi, e1, e2, e3⟩ := prs_at (false && bt) (true && (false && (bh && (f.bits == 0)))) (true && (false && (f.hop == 0))) (true && false) f.kind
        have hlk := run_lookup hl Try.underlying105 Try.underlying32 f.kind (zeroBool w8) true
        rw [hat, e1, e2] at hlk
        simp only [if_true] at hlk
        have T8 := hF.t
        have hX := hXh.out (mi && mv) w8 e3 (T7.trans T8)
        clear hl hat e1 e2 e3 hF hXh
        refine flo3_read _ rfl (fun W => W = w8) (rfl) (fun j hj => by simp at hj) (fun K hK => ?_)
        go_simp
        first | (refine hK _ ?_) | (refine ⟨fun W hS => ?_, hK _ ?_⟩; · (subst hS; try go_simp))
        clear hK K
        refine flo3_read _ rfl (fun W => W = w8) (rfl) (fun j hj => by simp at hj) (fun K hK => ?_)
        go_simp
        first | (refine hK _ ?_) | (refine ⟨fun W hS => ?_, hK _ ?_⟩; · (subst hS; try go_simp))
        clear hK K
        refine flo3_read _ rfl (fun W => W = w8) (rfl) (fun j hj => by simp at hj) (fun K hK => ?_)
        go_simp
        first | (refine hK _ ?_) | (refine ⟨fun W hS => ?_, hK _ ?_⟩; · (subst hS; try go_simp))
        clear hK K
        refine flo3_read _ rfl (fun W => W = w8) (rfl) (fun j hj => by simp at hj) (fun K hK => ?_)
        go_simp
        first | (refine hK _ ?_) | (refine ⟨fun W hS => ?_, hK _ ?_⟩; · (subst hS; try go_simp))
        clear hK K
        refine flo3_read _ rfl (fun W => W = w8) (rfl) (fun j hj => by simp at hj) (fun K hK => ?_)
        go_simp
        first | (refine hK _ ?_) | (refine ⟨fun W hS => ?_, hK _ ?_⟩; · (subst hS; try go_simp))
        clear hK K
        refine flo3_read _ rfl (fun W => W = w8) (rfl) (fun j hj => by simp at hj) (fun K hK => ?_)
        go_simp
        first | (refine hK _ ?_) | (refine ⟨fun W hS => ?_, hK _ ?_⟩; · (subst hS; try go_simp))
        clear hK K
        refine flo3_read _ rfl (fun W => W = w8) (rfl) (fun j hj => by simp at hj) (fun K hK => ?_)
        go_simp
        first | (refine hK _ ?_) | (refine ⟨fun W hS => ?_, hK _ ?_⟩; · (subst hS; try go_simp))
        clear hK K
        refine flo3_end ?_
        cases mi with
        | false =>
          go_wp2_with fail
          exact hX
        | true =>
          go_wp2_with fail
          exact hX
    · go_wp2_with fail
      refine ⟨Turns.refl _ _, _, fun _ _ h => h, ?_⟩
      have y4 := (show Turns [] w7 _ from Turns.refl _ _).old z4
      have y5 := (show Turns [] w7 _ from Turns.refl _ _).old z5
      refine flo3_read _ rfl (fun W => Turns [] w7 W) (Turns.refl _ _) (fun j hj W hW => hW) (fun K hK => ?_)
      go_simp
      first | (refine hK _ ?_) | (refine ⟨fun W hS => ?_, hK _ ?_⟩; · (have X4 := hS.old z4; have X5 := hS.old z5; try go_simp))
      clear hK K
      refine flo3_read _ rfl (fun W => Turns [] w7 W) (Turns.refl _ _) (fun j hj W hW => hW) (fun K hK => ?_)
      go_simp
      first | (refine hK _ ?_) | (refine ⟨fun W hS => ?_, hK _ ?_⟩; · (have X4 := hS.old z4; have X5 := hS.old z5; try go_simp))
      clear hK K
      refine flo3_read _ rfl (fun W => Turns [] w7 W) (Turns.refl _ _) (fun j hj W hW => hW) (fun K hK => ?_)
      go_simp
      first | (refine hK _ ?_) | (refine ⟨fun W hS => ?_, hK _ ?_⟩; · (have X4 := hS.old z4; have X5 := hS.old z5; try go_simp))
      clear hK K
      refine flo3_read _ rfl (fun W => Turns [] w7 W) (Turns.refl _ _) (fun j hj W hW => hW) (fun K hK => ?_)
      go_simp
      first | (refine hK _ ?_) | (refine ⟨fun W hS => ?_, hK _ ?_⟩; · (have X4 := hS.old z4; have X5 := hS.old z5; try go_simp))
      clear hK K
      refine flo3_read _ rfl (fun W => Turns [] w7 W) (Turns.refl _ _) (fun j hj W hW => hW) (fun K hK => ?_)
      go_simp
      first | (refine hK _ ?_) | (refine ⟨fun W hS => ?_, hK _ ?_⟩; · (have X4 := hS.old z4; have X5 := hS.old z5; try go_simp))
      clear hK K
      refine flo3_read _ rfl (fun W => Turns [] w7 W) (Turns.refl _ _) (fun j hj W hW => hW) (fun K hK => ?_)
      go_simp
      first | (refine hK _ ?_) | (refine ⟨fun W hS => ?_, hK _ ?_⟩; · (have X4 := hS.old z4; have X5 := hS.old z5; try go_simp))
      clear hK K
      refine flo3_read _ rfl (fun W => Turns [] w7 W) (Turns.refl _ _) (fun j hj W hW => hW) (fun K hK => ?_)
      go_simp
      first | (refine hK _ ?_) | (refine ⟨fun W hS => ?_, hK _ ?_⟩; · (have X4 := hS.old z4; have X5 := hS.old z5; try go_simp))
      clear hK K
      refine flo3_read _ rfl (fun W => Turns [] w7 W) (Turns.refl _ _) (fun j hj W hW => hW) (fun K hK => ?_)
      go_simp
      first | (refine hK _ ?_) | (refine ⟨fun W hS => ?_, hK _ ?_⟩; · (have X4 := hS.old z4; have X5 := hS.old z5; try go_simp))
      clear hK K
      refine flo3_read _ rfl (fun W => Turns [] w7 W) (Turns.refl _ _) (fun j hj W hW => hW) (fun K hK => ?_)
      go_simp
      first | (refine hK _ ?_) | (refine ⟨fun W hS => ?_, hK _ ?_⟩; · (have X4 := hS.old z4; have X5 := hS.old z5; try go_simp))
      clear hK K
      refine flo3_read _ rfl (fun W => Turns [] w7 W) (Turns.refl _ _) (fun j hj W hW => hW) (fun K hK => ?_)
      go_simp
      first | (refine hK _ ?_) | (refine ⟨fun W hS => ?_, hK _ ?_⟩; · (have X4 := hS.old z4; have X5 := hS.old z5; try go_simp))
      clear hK K
      refine flo3_read _ rfl (fun W => Turns [] w7 W) (Turns.refl _ _) (fun j hj W hW => hW) (fun K hK => ?_)
      go_simp
      first | (refine hK _ ?_) | (refine ⟨fun W hS => ?_, hK _ ?_⟩; · (have X4 := hS.old z4; have X5 := hS.old z5; try go_simp))
      clear hK K
      refine flo3_read _ rfl (fun W => Turns [] w7 W) (Turns.refl _ _) (fun j hj W hW => hW) (fun K hK => ?_)
      go_simp
      first | (refine hK _ ?_) | (refine ⟨fun W hS => ?_, hK _ ?_⟩; · (have X4 := hS.old z4; have X5 := hS.old z5; try go_simp))
      clear hK K
      refine flo3_read _ rfl (fun W => Turns [] w7 W) (Turns.refl _ _) (fun j hj W hW => hW) (fun K hK => ?_)
      go_simp
      first | (refine hK _ ?_) | (refine ⟨fun W hS => ?_, hK _ ?_⟩; · (have X4 := hS.old z4; have X5 := hS.old z5; try go_simp))
      clear hK K
      refine flo3_read _ rfl (fun W => Turns [] w7 W) (Turns.refl _ _) (fun j hj W hW => hW) (fun K hK => ?_)
      go_simp
      first | (refine hK _ ?_) | (refine ⟨fun W hS => ?_, hK _ ?_⟩; · (have X4 := hS.old z4; have X5 := hS.old z5; try go_simp))
      clear hK K
      refine flo3_read _ rfl (fun W => Turns [] w7 W) (Turns.refl _ _) (fun j hj W hW => hW) (fun K hK => ?_)
      go_simp
      first | (refine hK _ ?_) | (refine ⟨fun W hS => ?_, hK _ ?_⟩; · (have X4 := hS.old z4; have X5 := hS.old z5; try go_simp))
      clear hK K
      refine flo3_read _ rfl (fun W => Turns [] w7 W) (Turns.refl _ _) (fun j hj W hW => hW) (fun K hK => ?_)
      go_simp
      first | (refine hK _ ?_) | (refine ⟨fun W hS => ?_, hK _ ?_⟩; · (have X4 := hS.old z4; have X5 := hS.old z5; try go_simp))
      clear hK K
      refine flo3_read _ rfl (fun W => Turns [] w7 W) (Turns.refl _ _) (fun j hj W hW => hW) (fun K hK => ?_)
      go_simp
      first | (refine hK _ ?_) | (refine ⟨fun W hS => ?_, hK _ ?_⟩; · (have X4 := hS.old z4; have X5 := hS.old z5; try go_simp))
      clear hK K
      refine flo3_read _ rfl (fun W => Turns [] w7 W) (Turns.refl _ _) (fun j hj W hW => hW) (fun K hK => ?_)
      go_simp
      first | (refine hK _ ?_) | (refine ⟨fun W hS => ?_, hK _ ?_⟩; · (have X4 := hS.old z4; have X5 := hS.old z5; try go_simp))
      clear hK K
      refine flo3_read _ rfl (fun W => Turns [] w7 W) (Turns.refl _ _) (fun j hj W hW => hW) (fun K hK => ?_)
      go_simp
      first | (refine hK _ ?_) | (refine ⟨fun W hS => ?_, hK _ ?_⟩; · (have X4 := hS.old z4; have X5 := hS.old z5; try go_simp))
      clear hK K
      refine flo3_read _ rfl (fun W => Turns [] w7 W) (Turns.refl _ _) (fun j hj W hW => hW) (fun K hK => ?_)
      go_simp
      first | (refine hK _ ?_) | (refine ⟨fun W hS => ?_, hK _ ?_⟩; · (have X4 := hS.old z4; have X5 := hS.old z5; try go_simp))
      clear hK K
      refine flo3_read _ rfl (fun W => Turns [] w7 W) (Turns.refl _ _) (fun j hj W hW => hW) (fun K hK => ?_)
      go_simp
      first | (refine hK _ ?_) | (refine ⟨fun W hS => ?_, hK _ ?_⟩; · (have X4 := hS.old z4; have X5 := hS.old z5; try go_simp))
      clear hK K
      refine flo3_read _ rfl (fun W => Turns [] w7 W) (Turns.refl _ _) (fun j hj W hW => hW) (fun K hK => ?_)
      go_simp
      first | (refine hK _ ?_) | (refine ⟨fun W hS => ?_, hK _ ?_⟩; · (have X4 := hS.old z4; have X5 := hS.old z5; try go_simp))
      clear hK K
      refine flo3_read _ rfl (fun W => Turns [] w7 W) (Turns.refl _ _) (fun j hj W hW => hW) (fun K hK => ?_)
      go_simp
      first | (refine hK _ ?_) | (refine ⟨fun W hS => ?_, hK _ ?_⟩; · (have X4 := hS.old z4; have X5 := hS.old z5; try go_simp))
      clear hK K
      clear y4 y5
      refine flo3_alone _ rfl ?_
      go_wp2_with fail
      have hm0 := IMap.new w7
      have tm := (Turns.refl [] w7).alloc (.map #[] 0)
      refine ⟨tm, _, fun _ _ h => h, ?_⟩
      generalize w7.alloc (.map #[] 0) = w8 at *
      have hO := prs_once (false && bt) (true && (false && (bh && (f.bits == 0)))) (true && (false && (f.hop == 0))) (true && false)
      refine flo3_group (fun rem a' w' => a' = _ ∧ Fill w7 w7.heap.size (prs (false && bt) (true && (false && (bh && (f.bits == 0)))) (true && (false && (f.hop == 0))) (true && false)) [7, 20, 30, 35] rem w') ⟨rfl, Fill.start hm0 (by decide) tm⟩ ?_ ?_
      · rintro rem a' w' ⟨rfl, hF⟩ i hi
        have hi4 : i = 7 ∨ i = 20 ∨ i = 30 ∨ i = 35 := by simpa using hF.sub i hi
        obtain ⟨l, hl, hp⟩ := hF.map
        have hst := fun k v w'' hpr h1 h2 => hF.step (w' := w'') hl hp hO (Nat.le_refl _) hi k v hpr h1 h2
        rcases hi4 with rfl | rfl | rfl | rfl
        · refine wpOp_of_list _ rfl ?_
          refine wp_insert hl rfl _ _ _ _ _ _ rfl Try.underlying105 Try.underlying32 rfl 0 rfl _ rfl ?_
          intro w'' h1 t1
          have hs := hst 0 _ w'' rfl h1 t1
          exact ⟨hs.t, rfl, hs⟩
        · refine wpOp_of_list _ rfl ?_
          refine wp_insert hl rfl _ _ _ _ _ _ rfl Try.underlying105 Try.underlying32 rfl 1 rfl _ rfl ?_
          intro w'' h1 t1
          have hs := hst 1 _ w'' rfl h1 t1
          exact ⟨hs.t, rfl, hs⟩
        · refine wpOp_of_list _ rfl ?_
          refine wp_insert hl rfl _ _ _ _ _ _ rfl Try.underlying105 Try.underlying32 rfl 2 rfl _ rfl ?_
          intro w'' h1 t1
          have hs := hst 2 _ w'' rfl h1 t1
          exact ⟨hs.t, rfl, hs⟩
        · refine wpOp_of_list _ rfl ?_
          refine wp_insert hl rfl _ _ _ _ _ _ rfl Try.underlying105 Try.underlying32 rfl 3 rfl _ rfl ?_
          intro w'' h1 t1
          have hs := hst 3 _ w'' rfl h1 t1
          exact ⟨hs.t, rfl, hs⟩
      · rintro a' w8 ⟨rfl, hF⟩
        obtain ⟨l, hl, hat⟩ := hF.done hO
        obtain ⟨mv, mi, e1, e2, e3⟩ := prs_at (false && bt) (true && (false && (bh && (f.bits == 0)))) (true && (false && (f.hop == 0))) (true && false) f.kind
        have hlk := run_lookup hl Try.underlying105 Try.underlying32 f.kind (zeroBool w8) true
        rw [hat, e1, e2] at hlk
        simp only [if_true] at hlk
        have T8 := hF.t
        have hX := hXh.out (mi && mv) w8 e3 (T7.trans T8)
        clear hl hat e1 e2 e3 hF hXh
        refine flo3_read _ rfl (fun W => W = w8) (rfl) (fun j hj => by simp at hj) (fun K hK => ?_)
        go_simp
        first | (refine hK _ ?_) | (refine ⟨fun W hS => ?_, hK _ ?_⟩; · (subst hS; try go_simp))
        clear hK K
        refine flo3_read _ rfl (fun W => W = w8) (rfl) (fun j hj => by simp at hj) (fun K hK => ?_)
        go_simp
        first | (refine hK _ ?_) | (refine ⟨fun W hS => ?_, hK _ ?_⟩; · (subst hS; try go_simp))
        clear hK K
        refine flo3_read _ rfl (fun W => W = w8) (rfl) (fun j hj => by simp at hj) (fun K hK => ?_)
        go_simp
        first | (refine hK _ ?_) | (refine ⟨fun W hS => ?_, hK _ ?_⟩; · (subst hS; try go_simp))
        clear hK K
        refine flo3_read _ rfl (fun W => W = w8) (rfl) (fun j hj => by simp at hj) (fun K hK => ?_)
        go_simp
        first | (refine hK _ ?_) | (refine ⟨fun W hS => ?_, hK _ ?_⟩; · (subst hS; try go_simp))
        clear hK K
        refine flo3_read _ rfl (fun W => W = w8) (rfl) (fun j hj => by simp at hj) (fun K hK => ?_)
        go_simp
        first | (refine hK _ ?_) | (refine ⟨fun W hS => ?_, hK _ ?_⟩; · (subst hS; try go_simp))
        clear hK K
        refine flo3_read _ rfl (fun W => W = w8) (rfl) (fun j hj => by simp at hj) (fun K hK => ?_)
        go_simp
        first | (refine hK _ ?_) | (refine ⟨fun W hS => ?_, hK _ ?_⟩; · (subst hS; try go_simp))
        clear hK K
        refine flo3_read _ rfl (fun W => W = w8) (rfl) (fun j hj => by simp at hj) (fun K hK => ?_)
        go_simp
        first | (refine hK _ ?_) | (refine ⟨fun W hS => ?_, hK _ ?_⟩; · (subst hS; try go_simp))
        clear hK K
        refine flo3_end ?_
        cases mi with
        | false =>
          go_wp2_with fail
          exact hX
        | true =>
          go_wp2_with fail
          exact hX
end Go.Proofs.Ytohokckpheljbaa.Fk
