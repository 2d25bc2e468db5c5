/- The walks of Rises. -/
import Derived.Test.YtknmjmhiejmjdaaVa
set_option linter.unusedVariables false
set_option linter.unusedSimpArgs false
set_option maxRecDepth 100000
namespace Go.Proofs.Ytknmjmhiejmjdaa.Vb
open Go.RowKit Go.MapKept Hm Hs Hr Hf Hg Hv Va
theorem ris_yes {a b : V4} (h : a.p ≤ b.p ∧ a.r ≤ b.r ∧ (a.g < b.g ∨ a.g = b.g ∧ a.h ≤ b.h)) : a.rises b = true := decide_eq_true h
theorem ris_no {a b : V4} (h : ¬ (a.p ≤ b.p ∧ a.r ≤ b.r ∧ (a.g < b.g ∨ a.g = b.g ∧ a.h ≤ b.h))) : a.rises b = false := decide_eq_false h
set_option maxHeartbeats 2000000 in
theorem rises_is (w : World) (a b : V4) : Calls Try.prog 19 #[.agg #[.int .i64 a.p, .int .i64 a.g, .int .i64 a.h, .int .i64 a.r], .agg #[.int .i64 b.p, .int .i64 b.g, .int .i64 b.h, .int .i64 b.r]] w fun e w' => e = .returned (.bool (a.rises b)) ∧ Turns [] w w' := by
  obtain ⟨p, g, h, r⟩ := a
  obtain ⟨p', g', h', r'⟩ := b
  have T0 := ((Turns.refl [] w).alloc (.cells #[.int .i64 p, .int .i64 g, .int .i64 h, .int .i64 r] 25)).alloc (.cells #[.int .i64 p', .int .i64 g', .int .i64 h', .int .i64 r'] 25)
  have B0 := (Blk.new w #[.int .i64 p, .int .i64 g, .int .i64 h, .int .i64 r] 25).alloc (.cells #[.int .i64 p', .int .i64 g', .int .i64 h', .int .i64 r'] 25)
  have B1 := Blk.new (w.alloc (.cells #[.int .i64 p, .int .i64 g, .int .i64 h, .int .i64 r] 25)) #[.int .i64 p', .int .i64 g', .int .i64 h', .int .i64 r'] 25
  rw [World.size_alloc] at B1
  obtain ⟨R, hR⟩ : ∃ R, (⟨p, g, h, r⟩ : V4).rises ⟨p', g', h', r'⟩ = R := ⟨_, rfl⟩
  rw [hR]
  have hR' : Hid _ := hR
  clear hR
  dsimp only
  obtain ⟨x, hx⟩ : ∃ x, max p p' = x := ⟨_, rfl⟩
  obtain ⟨y, hy⟩ : ∃ y, max r r' = y := ⟨_, rfl⟩
  have hx' : Hid _ := hx
  have hy' : Hid _ := hy
  have T1 := T0.drew
  have B0' := B0.drew
  have B1' := B1.drew
  clear T0 B0 B1
  go_enter Try.func19, Try.ntmps19
  go_wp2_with fail
  refine wp_region_flo2 [(0, true, []), (1, true, []), (2, true, []), (3, true, []), (4, true, []), (5, true, []), (6, true, []), (7, true, [11]), (8, true, [11]), (9, true, [11]), (10, true, []), (11, false, []), (12, true, []), (13, false, [])] (fun j W => j = 11 → Blk W (w.heap.size + 1) #[.int .i64 p', .int .i64 g', .int .i64 h', .int .i64 r'] 25) (by kernel_rfl) rfl (by kernel_rfl) (by intro c d v a w h; cases d <;> first | (simpa [Exit.then, Exit.inBlock, Act.put] using h) | exact h) ?_
  generalize ((w.alloc (.cells #[.int .i64 p, .int .i64 g, .int .i64 h, .int .i64 r] 25)).alloc (.cells #[.int .i64 p', .int .i64 g', .int .i64 h', .int .i64 r'] 25)).drew = w1 at *
  have c0 : w1.cell? ⟨w.heap.size, 0, none⟩ = some (.int .i64 p) := B0'.cell 0
  have c3 : w1.cell? ⟨w.heap.size, 3, none⟩ = some (.int .i64 r) := B0'.cell 3
  have d0 : w1.cell? ⟨w.heap.size + 1, 0, none⟩ = some (.int .i64 p') := B1'.cell 0
  have d3 : w1.cell? ⟨w.heap.size + 1, 3, none⟩ = some (.int .i64 r') := B1'.cell 3
  first
    | (refine flo2_read _ rfl (fun _ => True) trivial (fun _ _ _ _ => trivial) (fun K hK => ?_); go_simp; first | (refine hK _ ?_) | (refine ⟨fun W _ => ?_, hK _ ?_⟩; · (go_simp)) | (refine ⟨fun W => ?_, hK _ ?_⟩; · (go_simp)))
    | (refine flo2_read _ rfl (fun W => W = _) rfl (by simp) (fun K hK => ?_); go_simp; first | (refine hK _ ?_) | (refine ⟨fun W hS => ?_, hK _ ?_⟩; · (subst hS; go_simp)) | (refine ⟨?_, hK _ ?_⟩; · (go_simp)))
  clear hK K
  first
    | (refine flo2_read _ rfl (fun _ => True) trivial (fun _ _ _ _ => trivial) (fun K hK => ?_); go_simp; first | (refine hK _ ?_) | (refine ⟨fun W _ => ?_, hK _ ?_⟩; · (go_simp)) | (refine ⟨fun W => ?_, hK _ ?_⟩; · (go_simp)))
    | (refine flo2_read _ rfl (fun W => W = _) rfl (by simp) (fun K hK => ?_); go_simp; first | (refine hK _ ?_) | (refine ⟨fun W hS => ?_, hK _ ?_⟩; · (subst hS; go_simp)) | (refine ⟨?_, hK _ ?_⟩; · (go_simp)))
  clear hK K
  first
    | (refine flo2_read _ rfl (fun _ => True) trivial (fun _ _ _ _ => trivial) (fun K hK => ?_); go_simp; first | (refine hK _ ?_) | (refine ⟨fun W _ => ?_, hK _ ?_⟩; · (go_simp)) | (refine ⟨fun W => ?_, hK _ ?_⟩; · (go_simp)))
    | (refine flo2_read _ rfl (fun W => W = _) rfl (by simp) (fun K hK => ?_); go_simp; first | (refine hK _ ?_) | (refine ⟨fun W hS => ?_, hK _ ?_⟩; · (subst hS; go_simp)) | (refine ⟨?_, hK _ ?_⟩; · (go_simp)))
  clear hK K
  first
    | (refine flo2_read _ rfl (fun _ => True) trivial (fun _ _ _ _ => trivial) (fun K hK => ?_); go_simp; first | (refine hK _ ?_) | (refine ⟨fun W _ => ?_, hK _ ?_⟩; · (go_simp)) | (refine ⟨fun W => ?_, hK _ ?_⟩; · (go_simp)))
    | (refine flo2_read _ rfl (fun W => W = _) rfl (by simp) (fun K hK => ?_); go_simp; first | (refine hK _ ?_) | (refine ⟨fun W hS => ?_, hK _ ?_⟩; · (subst hS; go_simp)) | (refine ⟨?_, hK _ ?_⟩; · (go_simp)))
  clear hK K
  first
    | (refine flo2_read _ rfl (fun _ => True) trivial (fun _ _ _ _ => trivial) (fun K hK => ?_); go_simp; first | (refine hK _ ?_) | (refine ⟨fun W _ => ?_, hK _ ?_⟩; · (go_simp)) | (refine ⟨fun W => ?_, hK _ ?_⟩; · (go_simp)))
    | (refine flo2_read _ rfl (fun W => W = _) rfl (by simp) (fun K hK => ?_); go_simp; first | (refine hK _ ?_) | (refine ⟨fun W hS => ?_, hK _ ?_⟩; · (subst hS; go_simp)) | (refine ⟨?_, hK _ ?_⟩; · (go_simp)))
  clear hK K
  first
    | (refine flo2_read _ rfl (fun _ => True) trivial (fun _ _ _ _ => trivial) (fun K hK => ?_); go_simp; first | (refine hK _ ?_) | (refine ⟨fun W _ => ?_, hK _ ?_⟩; · (go_simp)) | (refine ⟨fun W => ?_, hK _ ?_⟩; · (go_simp)))
    | (refine flo2_read _ rfl (fun W => W = _) rfl (by simp) (fun K hK => ?_); go_simp; first | (refine hK _ ?_) | (refine ⟨fun W hS => ?_, hK _ ?_⟩; · (subst hS; go_simp)) | (refine ⟨?_, hK _ ?_⟩; · (go_simp)))
  clear hK K
  first
    | (refine flo2_read _ rfl (fun _ => True) trivial (fun _ _ _ _ => trivial) (fun K hK => ?_); go_simp; first | (refine hK _ ?_) | (refine ⟨fun W _ => ?_, hK _ ?_⟩; · (go_simp)) | (refine ⟨fun W => ?_, hK _ ?_⟩; · (go_simp)))
    | (refine flo2_read _ rfl (fun W => W = _) rfl (by simp) (fun K hK => ?_); go_simp; first | (refine hK _ ?_) | (refine ⟨fun W hS => ?_, hK _ ?_⟩; · (subst hS; go_simp)) | (refine ⟨?_, hK _ ?_⟩; · (go_simp)))
  clear hK K
  first
    | (refine flo2_read _ rfl (fun _ => True) trivial (fun _ _ _ _ => trivial) (fun K hK => ?_); go_simp; first | (refine hK _ ?_) | (refine ⟨fun W _ => ?_, hK _ ?_⟩; · (go_simp)) | (refine ⟨fun W => ?_, hK _ ?_⟩; · (go_simp)))
    | (refine flo2_read _ rfl (fun W => W = _) rfl (by simp) (fun K hK => ?_); go_simp; first | (refine hK _ ?_) | (refine ⟨fun W hS => ?_, hK _ ?_⟩; · (subst hS; go_simp)) | (refine ⟨?_, hK _ ?_⟩; · (go_simp)))
  clear hK K
  refine flo2_read _ rfl (fun W => Blk W (w.heap.size + 1) #[.int .i64 p', .int .i64 g', .int .i64 h', .int .i64 r'] 25) (B1') (by simp) (fun K hK => ?_)
  go_simp
  first | (refine hK _ ?_) | (refine ⟨fun W hS => ?_, hK _ ?_⟩; · (have x0 : W.cell? ⟨w.heap.size + 1, 3, none⟩ = some (.int .i64 r') := hS.cell 3; try go_simp))
  clear hK K
  first
    | (refine flo2_read _ rfl (fun _ => True) trivial (fun _ _ _ _ => trivial) (fun K hK => ?_); go_simp; first | (refine hK _ ?_) | (refine ⟨fun W _ => ?_, hK _ ?_⟩; · (go_simp)) | (refine ⟨fun W => ?_, hK _ ?_⟩; · (go_simp)))
    | (refine flo2_read _ rfl (fun W => W = _) rfl (by simp) (fun K hK => ?_); go_simp; first | (refine hK _ ?_) | (refine ⟨fun W hS => ?_, hK _ ?_⟩; · (subst hS; go_simp)) | (refine ⟨?_, hK _ ?_⟩; · (go_simp)))
  clear hK K
  first
    | (refine flo2_read _ rfl (fun _ => True) trivial (fun _ _ _ _ => trivial) (fun K hK => ?_); go_simp; first | (refine hK _ ?_) | (refine ⟨fun W _ => ?_, hK _ ?_⟩; · (go_simp)) | (refine ⟨fun W => ?_, hK _ ?_⟩; · (go_simp)))
    | (refine flo2_read _ rfl (fun W => W = _) rfl (by simp) (fun K hK => ?_); go_simp; first | (refine hK _ ?_) | (refine ⟨fun W hS => ?_, hK _ ?_⟩; · (subst hS; go_simp)) | (refine ⟨?_, hK _ ?_⟩; · (go_simp)))
  clear hK K
  have f0 := B0'.frozen 0
  refine flo2_alone _ rfl ?_
  go_wp2_with fail
  refine ⟨fun _ => B1'.far (by simp) _, _, fun _ _ h => h, ?_⟩
  have B2 := B0'.set 0 (.int .i64 x)
  have B3 := B1'.far (p := ⟨w.heap.size, 0, none⟩) (by simp) (.int .i64 x)
  have T2 := T1.setCell (p := ⟨w.heap.size, 0, none⟩) (by simp) (.int .i64 x)
  clear B0' B1' T1 c0 c3 d0 d3 f0
  generalize w1.setCell ⟨w.heap.size, 0, none⟩ (.int .i64 x) = w2 at *
  have c3 : w2.cell? ⟨w.heap.size, 3, none⟩ = some (.int .i64 r) := B2.cell 3
  have f3 := B2.frozen 3
  first
    | (refine flo2_read _ rfl (fun _ => True) trivial (fun _ _ _ _ => trivial) (fun K hK => ?_); go_simp; first | (refine hK _ ?_) | (refine ⟨fun W _ => ?_, hK _ ?_⟩; · (go_simp)) | (refine ⟨fun W => ?_, hK _ ?_⟩; · (go_simp)))
    | (refine flo2_read _ rfl (fun W => W = _) rfl (by simp) (fun K hK => ?_); go_simp; first | (refine hK _ ?_) | (refine ⟨fun W hS => ?_, hK _ ?_⟩; · (subst hS; go_simp)) | (refine ⟨?_, hK _ ?_⟩; · (go_simp)))
  clear hK K
  refine flo2_alone _ rfl ?_
  go_wp2_with fail
  refine ⟨by simp, _, fun _ _ h => h, ?_⟩
  have B4 := B2.set 3 (.int .i64 y)
  have B5 := B3.far (p := ⟨w.heap.size, 3, none⟩) (by simp) (.int .i64 y)
  have T3 := T2.setCell (p := ⟨w.heap.size, 3, none⟩) (by simp) (.int .i64 y)
  clear B2 B3 T2 c3 f3
  generalize w2.setCell ⟨w.heap.size, 3, none⟩ (.int .i64 y) = w3 at *
  refine flo2_end ?_
  have B4 : Blk w3 w.heap.size #[.int .i64 x, .int .i64 g, .int .i64 h, .int .i64 y] 25 := B4
  have c0 : w3.cell? ⟨w.heap.size, 0, none⟩ = some (.int .i64 x) := B4.cell 0
  have c1 : w3.cell? ⟨w.heap.size, 1, none⟩ = some (.int .i64 g) := B4.cell 1
  have c2 : w3.cell? ⟨w.heap.size, 2, none⟩ = some (.int .i64 h) := B4.cell 2
  have c3 : w3.cell? ⟨w.heap.size, 3, none⟩ = some (.int .i64 y) := B4.cell 3
  have d0 : w3.cell? ⟨w.heap.size + 1, 0, none⟩ = some (.int .i64 p') := B5.cell 0
  have d1 : w3.cell? ⟨w.heap.size + 1, 1, none⟩ = some (.int .i64 g') := B5.cell 1
  have d2 : w3.cell? ⟨w.heap.size + 1, 2, none⟩ = some (.int .i64 h') := B5.cell 2
  have d3 : w3.cell? ⟨w.heap.size + 1, 3, none⟩ = some (.int .i64 r') := B5.cell 3
  clear hx hy
  by_cases h1 : g' > g
  · have g1 : decide (g' > g) = true := decide_eq_true h1
    go_wp2_with fail
    refine wp_region_flo2 [(0, true, []), (1, true, []), (2, true, [5]), (3, true, [5]), (4, true, []), (5, false, []), (6, true, []), (7, false, [])] (fun j W => j = 5 → Blk W (w.heap.size + 1) #[.int .i64 p', .int .i64 g', .int .i64 h', .int .i64 r'] 25) (by kernel_rfl) rfl (by kernel_rfl) (by intro c d v a w h; cases d <;> first | (simpa [Exit.then, Exit.inBlock, Act.put] using h) | exact h) ?_
    have B6 := B4.drew
    have B7 := B5.drew
    have T4 := T3.drew
    clear B4 B5 T3 c0 c1 c2 c3 d0 d1 d2 d3
    generalize w3.drew = w4 at *
    have d1 : w4.cell? ⟨w.heap.size + 1, 1, none⟩ = some (.int .i64 g') := B7.cell 1
    have d2 : w4.cell? ⟨w.heap.size + 1, 2, none⟩ = some (.int .i64 h') := B7.cell 2
    first
      | (refine flo2_read _ rfl (fun _ => True) trivial (fun _ _ _ _ => trivial) (fun K hK => ?_); go_simp; first | (refine hK _ ?_) | (refine ⟨fun W _ => ?_, hK _ ?_⟩; · (go_simp)) | (refine ⟨fun W => ?_, hK _ ?_⟩; · (go_simp)))
      | (refine flo2_read _ rfl (fun W => W = _) rfl (by simp) (fun K hK => ?_); go_simp; first | (refine hK _ ?_) | (refine ⟨fun W hS => ?_, hK _ ?_⟩; · (subst hS; go_simp)) | (refine ⟨?_, hK _ ?_⟩; · (go_simp)))
    clear hK K
    first
      | (refine flo2_read _ rfl (fun _ => True) trivial (fun _ _ _ _ => trivial) (fun K hK => ?_); go_simp; first | (refine hK _ ?_) | (refine ⟨fun W _ => ?_, hK _ ?_⟩; · (go_simp)) | (refine ⟨fun W => ?_, hK _ ?_⟩; · (go_simp)))
      | (refine flo2_read _ rfl (fun W => W = _) rfl (by simp) (fun K hK => ?_); go_simp; first | (refine hK _ ?_) | (refine ⟨fun W hS => ?_, hK _ ?_⟩; · (subst hS; go_simp)) | (refine ⟨?_, hK _ ?_⟩; · (go_simp)))
    clear hK K
    refine flo2_read _ rfl (fun W => Blk W (w.heap.size + 1) #[.int .i64 p', .int .i64 g', .int .i64 h', .int .i64 r'] 25) (B7) (by simp) (fun K hK => ?_)
    go_simp
    first | (refine hK _ ?_) | (refine ⟨fun W hS => ?_, hK _ ?_⟩; · (have x0 : W.cell? ⟨w.heap.size + 1, 2, none⟩ = some (.int .i64 h') := hS.cell 2; try go_simp))
    clear hK K
    refine flo2_read _ rfl (fun W => Blk W (w.heap.size + 1) #[.int .i64 p', .int .i64 g', .int .i64 h', .int .i64 r'] 25) (B7) (by simp) (fun K hK => ?_)
    go_simp
    first | (refine hK _ ?_) | (refine ⟨fun W hS => ?_, hK _ ?_⟩; · (have x0 : W.cell? ⟨w.heap.size + 1, 2, none⟩ = some (.int .i64 h') := hS.cell 2; try go_simp))
    clear hK K
    first
      | (refine flo2_read _ rfl (fun _ => True) trivial (fun _ _ _ _ => trivial) (fun K hK => ?_); go_simp; first | (refine hK _ ?_) | (refine ⟨fun W _ => ?_, hK _ ?_⟩; · (go_simp)) | (refine ⟨fun W => ?_, hK _ ?_⟩; · (go_simp)))
      | (refine flo2_read _ rfl (fun W => W = _) rfl (by simp) (fun K hK => ?_); go_simp; first | (refine hK _ ?_) | (refine ⟨fun W hS => ?_, hK _ ?_⟩; · (subst hS; go_simp)) | (refine ⟨?_, hK _ ?_⟩; · (go_simp)))
    clear hK K
    have c1 : w4.cell? ⟨w.heap.size, 1, none⟩ = some (.int .i64 g) := B6.cell 1
    have f1 := B6.frozen 1
    refine flo2_alone _ rfl ?_
    go_wp2_with fail
    refine ⟨fun _ => B7.far (by simp) _, _, fun _ _ h => h, ?_⟩
    have B8 := B6.set 1 (.int .i64 g')
    have B9 := B7.far (p := ⟨w.heap.size, 1, none⟩) (by simp) (.int .i64 g')
    have T5 := T4.setCell (p := ⟨w.heap.size, 1, none⟩) (by simp) (.int .i64 g')
    clear B6 B7 T4 d1 d2 c1 f1
    generalize w4.setCell ⟨w.heap.size, 1, none⟩ (.int .i64 g') = w5 at *
    have c2 : w5.cell? ⟨w.heap.size, 2, none⟩ = some (.int .i64 h) := B8.cell 2
    have f2 := B8.frozen 2
    first
      | (refine flo2_read _ rfl (fun _ => True) trivial (fun _ _ _ _ => trivial) (fun K hK => ?_); go_simp; first | (refine hK _ ?_) | (refine ⟨fun W _ => ?_, hK _ ?_⟩; · (go_simp)) | (refine ⟨fun W => ?_, hK _ ?_⟩; · (go_simp)))
      | (refine flo2_read _ rfl (fun W => W = _) rfl (by simp) (fun K hK => ?_); go_simp; first | (refine hK _ ?_) | (refine ⟨fun W hS => ?_, hK _ ?_⟩; · (subst hS; go_simp)) | (refine ⟨?_, hK _ ?_⟩; · (go_simp)))
    clear hK K
    refine flo2_alone _ rfl ?_
    go_wp2_with fail
    refine ⟨by simp, _, fun _ _ h => h, ?_⟩
    have Ba := B8.set 2 (.int .i64 h')
    have Bb := B9.far (p := ⟨w.heap.size, 2, none⟩) (by simp) (.int .i64 h')
    have T6 := T5.setCell (p := ⟨w.heap.size, 2, none⟩) (by simp) (.int .i64 h')
    clear B8 B9 T5 c2 f2
    generalize w5.setCell ⟨w.heap.size, 2, none⟩ (.int .i64 h') = w6 at *
    refine flo2_end ?_
    have c0 : w6.cell? ⟨w.heap.size, 0, none⟩ = some (.int .i64 x) := Ba.cell 0
    have c1 : w6.cell? ⟨w.heap.size, 1, none⟩ = some (.int .i64 g') := Ba.cell 1
    have c2 : w6.cell? ⟨w.heap.size, 2, none⟩ = some (.int .i64 h') := Ba.cell 2
    have c3 : w6.cell? ⟨w.heap.size, 3, none⟩ = some (.int .i64 y) := Ba.cell 3
    have d0 : w6.cell? ⟨w.heap.size + 1, 0, none⟩ = some (.int .i64 p') := Bb.cell 0
    have d1 : w6.cell? ⟨w.heap.size + 1, 1, none⟩ = some (.int .i64 g') := Bb.cell 1
    have d2 : w6.cell? ⟨w.heap.size + 1, 2, none⟩ = some (.int .i64 h') := Bb.cell 2
    have d3 : w6.cell? ⟨w.heap.size + 1, 3, none⟩ = some (.int .i64 r') := Bb.cell 3
    go_wp2_with fail
    all_goals (go_ret; first | exact ⟨by rw [← hR'.out, ris_yes (by have q1 := hx'.out; have q2 := hy'.out; dsimp only; omega)]; rfl, T6⟩ | exact ⟨by rw [← hR'.out, ris_no (by have q1 := hx'.out; have q2 := hy'.out; dsimp only; omega)]; rfl, T6⟩)
  · by_cases h2 : g' = g
    · subst h2
      have g1 : decide (g' > g') = false := by simp
      by_cases h3 : h' > h
      · have g2 : decide (h' > h) = true := decide_eq_true h3
        go_wp2_with fail
        refine wp_region_flo2 [(0, true, []), (1, true, []), (2, true, [5]), (3, true, [5]), (4, true, []), (5, false, []), (6, true, []), (7, false, [])] (fun j W => j = 5 → Blk W (w.heap.size + 1) #[.int .i64 p', .int .i64 g', .int .i64 h', .int .i64 r'] 25) (by kernel_rfl) rfl (by kernel_rfl) (by intro c d v a w h; cases d <;> first | (simpa [Exit.then, Exit.inBlock, Act.put] using h) | exact h) ?_
        have B6 := B4.drew
        have B7 := B5.drew
        have T4 := T3.drew
        clear B4 B5 T3 c0 c1 c2 c3 d0 d1 d2 d3
        generalize w3.drew = w4 at *
        have d1 : w4.cell? ⟨w.heap.size + 1, 1, none⟩ = some (.int .i64 g') := B7.cell 1
        have d2 : w4.cell? ⟨w.heap.size + 1, 2, none⟩ = some (.int .i64 h') := B7.cell 2
        first
          | (refine flo2_read _ rfl (fun _ => True) trivial (fun _ _ _ _ => trivial) (fun K hK => ?_); go_simp; first | (refine hK _ ?_) | (refine ⟨fun W _ => ?_, hK _ ?_⟩; · (go_simp)) | (refine ⟨fun W => ?_, hK _ ?_⟩; · (go_simp)))
          | (refine flo2_read _ rfl (fun W => W = _) rfl (by simp) (fun K hK => ?_); go_simp; first | (refine hK _ ?_) | (refine ⟨fun W hS => ?_, hK _ ?_⟩; · (subst hS; go_simp)) | (refine ⟨?_, hK _ ?_⟩; · (go_simp)))
        clear hK K
        first
          | (refine flo2_read _ rfl (fun _ => True) trivial (fun _ _ _ _ => trivial) (fun K hK => ?_); go_simp; first | (refine hK _ ?_) | (refine ⟨fun W _ => ?_, hK _ ?_⟩; · (go_simp)) | (refine ⟨fun W => ?_, hK _ ?_⟩; · (go_simp)))
          | (refine flo2_read _ rfl (fun W => W = _) rfl (by simp) (fun K hK => ?_); go_simp; first | (refine hK _ ?_) | (refine ⟨fun W hS => ?_, hK _ ?_⟩; · (subst hS; go_simp)) | (refine ⟨?_, hK _ ?_⟩; · (go_simp)))
        clear hK K
        refine flo2_read _ rfl (fun W => Blk W (w.heap.size + 1) #[.int .i64 p', .int .i64 g', .int .i64 h', .int .i64 r'] 25) (B7) (by simp) (fun K hK => ?_)
        go_simp
        first | (refine hK _ ?_) | (refine ⟨fun W hS => ?_, hK _ ?_⟩; · (have x0 : W.cell? ⟨w.heap.size + 1, 2, none⟩ = some (.int .i64 h') := hS.cell 2; try go_simp))
        clear hK K
        refine flo2_read _ rfl (fun W => Blk W (w.heap.size + 1) #[.int .i64 p', .int .i64 g', .int .i64 h', .int .i64 r'] 25) (B7) (by simp) (fun K hK => ?_)
        go_simp
        first | (refine hK _ ?_) | (refine ⟨fun W hS => ?_, hK _ ?_⟩; · (have x0 : W.cell? ⟨w.heap.size + 1, 2, none⟩ = some (.int .i64 h') := hS.cell 2; try go_simp))
        clear hK K
        first
          | (refine flo2_read _ rfl (fun _ => True) trivial (fun _ _ _ _ => trivial) (fun K hK => ?_); go_simp; first | (refine hK _ ?_) | (refine ⟨fun W _ => ?_, hK _ ?_⟩; · (go_simp)) | (refine ⟨fun W => ?_, hK _ ?_⟩; · (go_simp)))
          | (refine flo2_read _ rfl (fun W => W = _) rfl (by simp) (fun K hK => ?_); go_simp; first | (refine hK _ ?_) | (refine ⟨fun W hS => ?_, hK _ ?_⟩; · (subst hS; go_simp)) | (refine ⟨?_, hK _ ?_⟩; · (go_simp)))
        clear hK K
        have c1 : w4.cell? ⟨w.heap.size, 1, none⟩ = some (.int .i64 g') := B6.cell 1
        have f1 := B6.frozen 1
        refine flo2_alone _ rfl ?_
        go_wp2_with fail
        refine ⟨fun _ => B7.far (by simp) _, _, fun _ _ h => h, ?_⟩
        have B8 := B6.set 1 (.int .i64 g')
        have B9 := B7.far (p := ⟨w.heap.size, 1, none⟩) (by simp) (.int .i64 g')
        have T5 := T4.setCell (p := ⟨w.heap.size, 1, none⟩) (by simp) (.int .i64 g')
        clear B6 B7 T4 d1 d2 c1 f1
        generalize w4.setCell ⟨w.heap.size, 1, none⟩ (.int .i64 g') = w5 at *
        have c2 : w5.cell? ⟨w.heap.size, 2, none⟩ = some (.int .i64 h) := B8.cell 2
        have f2 := B8.frozen 2
        first
          | (refine flo2_read _ rfl (fun _ => True) trivial (fun _ _ _ _ => trivial) (fun K hK => ?_); go_simp; first | (refine hK _ ?_) | (refine ⟨fun W _ => ?_, hK _ ?_⟩; · (go_simp)) | (refine ⟨fun W => ?_, hK _ ?_⟩; · (go_simp)))
          | (refine flo2_read _ rfl (fun W => W = _) rfl (by simp) (fun K hK => ?_); go_simp; first | (refine hK _ ?_) | (refine ⟨fun W hS => ?_, hK _ ?_⟩; · (subst hS; go_simp)) | (refine ⟨?_, hK _ ?_⟩; · (go_simp)))
        clear hK K
        refine flo2_alone _ rfl ?_
        go_wp2_with fail
        refine ⟨by simp, _, fun _ _ h => h, ?_⟩
        have Ba := B8.set 2 (.int .i64 h')
        have Bb := B9.far (p := ⟨w.heap.size, 2, none⟩) (by simp) (.int .i64 h')
        have T6 := T5.setCell (p := ⟨w.heap.size, 2, none⟩) (by simp) (.int .i64 h')
        clear B8 B9 T5 c2 f2
        generalize w5.setCell ⟨w.heap.size, 2, none⟩ (.int .i64 h') = w6 at *
        refine flo2_end ?_
        have c0 : w6.cell? ⟨w.heap.size, 0, none⟩ = some (.int .i64 x) := Ba.cell 0
        have c1 : w6.cell? ⟨w.heap.size, 1, none⟩ = some (.int .i64 g') := Ba.cell 1
        have c2 : w6.cell? ⟨w.heap.size, 2, none⟩ = some (.int .i64 h') := Ba.cell 2
        have c3 : w6.cell? ⟨w.heap.size, 3, none⟩ = some (.int .i64 y) := Ba.cell 3
        have d0 : w6.cell? ⟨w.heap.size + 1, 0, none⟩ = some (.int .i64 p') := Bb.cell 0
        have d1 : w6.cell? ⟨w.heap.size + 1, 1, none⟩ = some (.int .i64 g') := Bb.cell 1
        have d2 : w6.cell? ⟨w.heap.size + 1, 2, none⟩ = some (.int .i64 h') := Bb.cell 2
        have d3 : w6.cell? ⟨w.heap.size + 1, 3, none⟩ = some (.int .i64 r') := Bb.cell 3
        go_wp2_with fail
        all_goals (go_ret; first | exact ⟨by rw [← hR'.out, ris_yes (by have q1 := hx'.out; have q2 := hy'.out; dsimp only; omega)]; rfl, T6⟩ | exact ⟨by rw [← hR'.out, ris_no (by have q1 := hx'.out; have q2 := hy'.out; dsimp only; omega)]; rfl, T6⟩)
      · have g2 : decide (h' > h) = false := decide_eq_false (by omega)
        go_wp2_with fail
        all_goals (go_ret; first | exact ⟨by rw [← hR'.out, ris_yes (by have q1 := hx'.out; have q2 := hy'.out; dsimp only; omega)]; rfl, T3⟩ | exact ⟨by rw [← hR'.out, ris_no (by have q1 := hx'.out; have q2 := hy'.out; dsimp only; omega)]; rfl, T3⟩)
    · have g1 : decide (g' > g) = false := decide_eq_false (by omega)
      have g2 : (g' == g) = false := by simpa using h2
      go_wp2_with fail
      all_goals (go_ret; first | exact ⟨by rw [← hR'.out, ris_yes (by have q1 := hx'.out; have q2 := hy'.out; dsimp only; omega)]; rfl, T3⟩ | exact ⟨by rw [← hR'.out, ris_no (by have q1 := hx'.out; have q2 := hy'.out; dsimp only; omega)]; rfl, T3⟩)
end Go.Proofs.Ytknmjmhiejmjdaa.Vb
