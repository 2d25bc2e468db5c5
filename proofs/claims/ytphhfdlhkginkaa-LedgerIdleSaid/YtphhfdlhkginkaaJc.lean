/- annonalaw09's alive. -/
import Derived.Test.YtphhfdlhkginkaaJa
import Derived.Test.YtphhfdlhkginkaaBm
set_option linter.unusedVariables false
set_option linter.unusedSimpArgs false
set_option maxRecDepth 100000
namespace Go.Proofs.Ytphhfdlhkginkaa.Jc
open Go.RowKit Go.MapKept Hm Hs Hr Hb Hf Hg Hx Hy Hv Hz Hu Fa Ff Fq Ba Bb Bc Bg Bi Bj Bk Bl Bm Bq Br Bv Bw Cf Cn Sm Sat Ca Cb Bn Ja
theorem l_form {w : World} {v : Value} {R : List Row} {n : Nat} (h : RTS [] w v R) (hn : R.length = n) : ∃ A c, v = .slice A n c := by
  obtain ⟨A, c, hv, _⟩ := h.rt.form
  rw [hn] at hv
  exact ⟨A, c, hv⟩
def c0 (rv : Value) : Cfg := ⟨0, 0, 0, 0, 0, 0, 1, 0, rv, [(2, 10)]⟩
theorem a1 (rv : Value) : mintR 5 [] 3 9 (cfg (c0 rv)) = ([⟨3, 8, 9, []⟩], 0) := by
  show mintR 5 [] 3 9 ⟨0, 1, [(2, 10)]⟩ = _
  decide
theorem a2 : grantR 5 [⟨3, 8, 9, []⟩] 3 1 6 = ([⟨3, 2, 9, [(1, 6)]⟩], 6) := by decide
theorem a3 : settleR 5 [⟨3, 2, 9, [(1, 6)]⟩] 3 1 4 = ([⟨3, 4, 9, []⟩], 4) := by decide
theorem a4 (rv : Value) : mintR 5 [⟨3, 4, 9, []⟩] 4 9 (cfg (c0 rv)) = ([⟨3, 4, 9, []⟩], 3) := by
  show mintR 5 [⟨3, 4, 9, []⟩] 4 9 ⟨0, 1, [(2, 10)]⟩ = _
  decide
theorem a5 : heldR [⟨3, 2, 9, [(1, 6)]⟩] 1 = [3] := by decide
theorem a6 : rwAt 5 [⟨3, 4, 9, []⟩] 3 = ⟨3, 4, 9, []⟩ ∧ isAt [⟨3, 4, 9, []⟩] 3 = true := by decide
theorem a7 : lookR 5 [] 3 99 (2, 10) = ⟨3, 10, 99, []⟩ := by decide
theorem k0 : Ok [] := ⟨by simp [Rise], by simp, by simp⟩
theorem one_ok (r : Row) (h : RowOk r) : Ok [r] := ⟨by simp [Rise], by simp, by intro x hx; rw [List.mem_singleton.1 hx]; exact h⟩
theorem k1 : Ok [⟨3, 8, 9, []⟩] := one_ok _ ⟨by decide, by decide, by simp [RiseL], by simp, by simp⟩
theorem k2 : Ok [⟨3, 2, 9, [(1, 6)]⟩] := one_ok _ ⟨by decide, by decide, by simp [RiseL], by simp, by simp⟩
theorem k3 : Ok [⟨3, 4, 9, []⟩] := one_ok _ ⟨by decide, by decide, by simp [RiseL], by simp, by simp⟩
set_option maxHeartbeats 8000000 in
theorem alive_is (w : World) : Calls Try.prog 7 #[] w fun e w' => e = .returned (.bool true) ∧ Turns [] w w' := by
  have H := (((Sep.start w).alloc #[.int .i64 2, .int .i64 10] 44).alloc #[.int .i64 0, .int .i64 0, .int .i64 0, .int .i64 0, .int .i64 0, .int .i64 0, .int .i64 1, .int .i64 0, .slice (some ⟨w.heap.size, 0, none⟩) 1 1] 27).alloc #[.int .i64 5, .slice none 0 0] 24
  rw [World.size_alloc, World.size_alloc] at H
  have hrv := fun W (h : Blk W w.heap.size #[.int .i64 2, .int .i64 10] 44) => (RdS.of_cells (rows := rts [(2, 10)]) h rfl (by simp [rts]) 1 (by simp [rts]) (by decide) : RdS 2 W (c0 (.slice (some ⟨w.heap.size, 0, none⟩) 1 1)).rv (rts [(2, 10)]))
  have hrvh := Lib.hid hrv
  have Hh := Lib.hid H
  have M1 := mint_is [] _ 5 3 9 (.slice none 0 0) [] (c0 (.slice (some ⟨w.heap.size, 0, none⟩) 1 1)) (RTS.of (RT.nil _) (Turns.refl [] _) (by simp)) (by simp) k0 (hrv _ (H.blk 2 rfl))
  rw [a1] at M1
  unfold Cfg.v c0 at M1
  simp only at M1
  have M1h := Lib.hid M1
  clear H hrv M1
  go_enter Try.func7, Try.ntmps7
  go_wp2_with fail
  go_at_call 30
  refine Calls.mono (M1h.out) ?_
  rintro e w1 ⟨v1, rfl, R1, t1⟩
  obtain ⟨A1, b1, rfl⟩ := l_form R1 rfl
  have H1 := Lib.hid ((Hh.out.turns t1).alloc #[.int .i64 5, .slice A1 1 b1] 24)
  have R1h := Lib.hid R1
  clear M1h Hh t1 R1
  have G1 := grant_is [] _ 5 3 1 6 (.slice A1 1 b1) _ (R1h.out.turns ((Turns.refl [] w1).alloc (.cells #[.int .i64 5, .slice A1 1 b1] 24))) (by simp) k1 (by decide) (by decide)
  rw [a2] at G1
  have G1h := Lib.hid G1
  clear G1
  go_wp2_with fail
  go_at_call 31
  refine Calls.mono (G1h.out) ?_
  rintro e w2 ⟨v2, rfl, R2, t2⟩
  obtain ⟨A2, b2, rfl⟩ := l_form R2 rfl
  have H2 := Lib.hid ((H1.out.turns t2).alloc #[.int .i64 5, .slice A2 1 b2] 24)
  have R2h := Lib.hid R2
  clear G1h H1 t2 R2 R1h
  have S1 := settle_is [] _ 5 3 1 4 (.slice A2 1 b2) _ (R2h.out.turns ((Turns.refl [] w2).alloc (.cells #[.int .i64 5, .slice A2 1 b2] 24))) (by simp) k2 (by decide) (by decide)
  rw [a3] at S1
  have S1h := Lib.hid S1
  clear S1
  go_wp2_with fail
  go_at_call 32
  refine Calls.mono (S1h.out) ?_
  rintro e w3 ⟨v3, rfl, R3, t3⟩
  obtain ⟨A3, b3, rfl⟩ := l_form R3 rfl
  have H3 := Lib.hid ((H2.out.turns t3).alloc #[.int .i64 5, .slice A3 1 b3] 24)
  have R2b := Lib.hid ((R2h.out.turns ((Turns.refl [] w2).alloc (.cells #[.int .i64 5, .slice A2 1 b2] 24))).turns t3)
  have R3h := Lib.hid R3
  clear S1h H2 t3 R3 R2h
  generalize hb1 : w1.heap.size = q1 at *
  generalize hb2 : w2.heap.size = q2 at *
  generalize hb3 : w3.heap.size = q3 at *
  have R3b := Lib.hid (R3h.out.turns ((Turns.refl [] w3).alloc (.cells #[.int .i64 5, .slice A3 1 b3] 24)))
  have R2c := Lib.hid (R2b.out.turns ((Turns.refl [] w3).alloc (.cells #[.int .i64 5, .slice A3 1 b3] 24)))
  have M2 := mint_is [] (w3.alloc (.cells #[.int .i64 5, .slice A3 1 b3] 24)) 5 4 9 (.slice A3 1 b3) _ (c0 (.slice (some ⟨w.heap.size, 0, none⟩) 1 1)) R3b.out (by simp) k3 (hrvh.out _ (H3.out.blk 5 rfl))
  rw [a4] at M2
  unfold Cfg.v c0 at M2
  simp only at M2
  have M2h := Lib.hid M2
  clear M2 R3h R2b
  have c0 : World.cell? (w3.alloc (.cells #[.int .i64 5, .slice A3 1 b3] 24)) ⟨w.heap.size + 1, 0, none⟩ = some _ := (H3.out.blk 4 rfl).cell 0
  have c1 : World.cell? (w3.alloc (.cells #[.int .i64 5, .slice A3 1 b3] 24)) ⟨w.heap.size + 1, 1, none⟩ = some _ := (H3.out.blk 4 rfl).cell 1
  have c2 : World.cell? (w3.alloc (.cells #[.int .i64 5, .slice A3 1 b3] 24)) ⟨w.heap.size + 1, 2, none⟩ = some _ := (H3.out.blk 4 rfl).cell 2
  have c3 : World.cell? (w3.alloc (.cells #[.int .i64 5, .slice A3 1 b3] 24)) ⟨w.heap.size + 1, 3, none⟩ = some _ := (H3.out.blk 4 rfl).cell 3
  have c4 : World.cell? (w3.alloc (.cells #[.int .i64 5, .slice A3 1 b3] 24)) ⟨w.heap.size + 1, 4, none⟩ = some _ := (H3.out.blk 4 rfl).cell 4
  have c5 : World.cell? (w3.alloc (.cells #[.int .i64 5, .slice A3 1 b3] 24)) ⟨w.heap.size + 1, 5, none⟩ = some _ := (H3.out.blk 4 rfl).cell 5
  have c6 : World.cell? (w3.alloc (.cells #[.int .i64 5, .slice A3 1 b3] 24)) ⟨w.heap.size + 1, 6, none⟩ = some _ := (H3.out.blk 4 rfl).cell 6
  have c7 : World.cell? (w3.alloc (.cells #[.int .i64 5, .slice A3 1 b3] 24)) ⟨w.heap.size + 1, 7, none⟩ = some _ := (H3.out.blk 4 rfl).cell 7
  have c8 : World.cell? (w3.alloc (.cells #[.int .i64 5, .slice A3 1 b3] 24)) ⟨w.heap.size + 1, 8, none⟩ = some _ := (H3.out.blk 4 rfl).cell 8
  go_wp2_with fail
  go_at_call 30
  refine Calls.mono (M2h.out) ?_
  rintro e w4 ⟨v4, rfl, R4, t4⟩
  obtain ⟨A4, b4, rfl⟩ := l_form R4 rfl
  have H4 := Lib.hid ((H3.out.turns t4).alloc #[.int .i64 5, .slice A4 1 b4] 24)
  have T4 := t4.alloc (.cells #[.int .i64 5, .slice A4 1 b4] 24)
  have R3c := Lib.hid (R3b.out.turns T4)
  have R2d := Lib.hid (R2c.out.turns T4)
  clear M2h H3 t4 T4 R4 R3b R2c c0 c1 c2 c3 c4 c5 c6 c7 c8
  generalize hb4 : w4.heap.size = q4 at *
  have F1 := find_is [] _ _ 5 3 (.slice A3 1 b3) _ R3c.out (Turns.refl [] _)
  rw [a6.1, a6.2] at F1
  have F1h := Lib.hid F1
  clear F1
  have c0 : World.cell? (w4.alloc (.cells #[.int .i64 5, .slice A4 1 b4] 24)) ⟨q3, 0, none⟩ = some _ := (H4.out.blk 1 rfl).cell 0
  have c1 : World.cell? (w4.alloc (.cells #[.int .i64 5, .slice A4 1 b4] 24)) ⟨q3, 1, none⟩ = some _ := (H4.out.blk 1 rfl).cell 1
  go_wp2_with fail
  go_at_call 11
  refine Calls.mono (F1h.out) ?_
  rintro e w5 ⟨x, rfl, hx, t5⟩
  obtain ⟨Ax, bx, rfl, hox⟩ := row_form hx.row
  simp only [Rw.v]
  have H5 := Lib.hid (((H4.out.turns t5).alloc #[.int .i64 3, .int .i64 4, .int .i64 9, .slice Ax 0 bx] 38).drew)
  have R2e := Lib.hid ((R2d.out.turns t5).turns (((Turns.refl [] w5).alloc (.cells #[.int .i64 3, .int .i64 4, .int .i64 9, .slice Ax 0 bx] 38)).drew))
  clear F1h H4 t5 R2d R3c c0 c1 hx hox
  go_wp2_with fail
  go_wp2_with fail
  refine wp_region_flo [(0, true), (1, true), (2, true), (3, true), (4, true), (5, true), (6, true), (7, true), (8, true), (9, true), (10, true), (11, true), (12, true), (13, true), (14, true), (15, true), (16, true), (17, true), (18, true), (19, true), (20, true), (21, true), (22, true), (23, true), (24, true), (25, true), (26, true), (27, true), (28, true), (29, false), (30, true), (31, true), (32, true), (33, true), (34, true), (35, true), (36, true), (37, true), (38, true), (39, false), (40, true), (41, true), (42, true), (43, true)] (fun W => Turns [] (w5.alloc (.cells #[.int .i64 3, .int .i64 4, .int .i64 9, .slice Ax 0 bx] 38)).drew W) (by kernel_rfl) rfl (by kernel_rfl) (by intro c d v a w h; cases d <;> first | (simpa [Exit.then, Exit.inBlock, Act.put] using h) | exact h) (Turns.refl _ _) ?_
  generalize hb5 : w5.heap.size = q5 at *
  generalize (w5.alloc (.cells #[.int .i64 3, .int .i64 4, .int .i64 9, .slice Ax 0 bx] 38)).drew = w6 at *
  have x1 : World.cell? (w6) ⟨q5, 1, none⟩ = some _ := (H5.out.blk 0 rfl).cell 1
  have x2 : World.cell? (w6) ⟨q5, 2, none⟩ = some _ := (H5.out.blk 0 rfl).cell 2
  have c0 : World.cell? (w6) ⟨q2, 0, none⟩ = some _ := (H5.out.blk 3 rfl).cell 0
  have c1 : World.cell? (w6) ⟨q2, 1, none⟩ = some _ := (H5.out.blk 3 rfl).cell 1
  have Hd1 := Lib.hid (held_is w6 5 1 (.slice A2 1 b2) _ R2e.out.rt k2 (by decide) (by decide))
  refine flo_read _ rfl (fun K hK => ?_)
  go_simp
  first | (refine hK _ ?_) | (refine ⟨fun W hS => ?_, hK _ ?_⟩; · (have X1 := hS.old x1; have X2 := hS.old x2; have C0 := hS.old c0; have C1 := hS.old c1; try go_simp))
  clear hK K
  refine flo_read _ rfl (fun K hK => ?_)
  go_simp
  first | (refine hK _ ?_) | (refine ⟨fun W hS => ?_, hK _ ?_⟩; · (have X1 := hS.old x1; have X2 := hS.old x2; have C0 := hS.old c0; have C1 := hS.old c1; try go_simp))
  clear hK K
  refine flo_read _ rfl (fun K hK => ?_)
  go_simp
  first | (refine hK _ ?_) | (refine ⟨fun W hS => ?_, hK _ ?_⟩; · (have X1 := hS.old x1; have X2 := hS.old x2; have C0 := hS.old c0; have C1 := hS.old c1; try go_simp))
  clear hK K
  refine flo_read _ rfl (fun K hK => ?_)
  go_simp
  first | (refine hK _ ?_) | (refine ⟨fun W hS => ?_, hK _ ?_⟩; · (have X1 := hS.old x1; have X2 := hS.old x2; have C0 := hS.old c0; have C1 := hS.old c1; try go_simp))
  clear hK K
  refine flo_read _ rfl (fun K hK => ?_)
  go_simp
  first | (refine hK _ ?_) | (refine ⟨fun W hS => ?_, hK _ ?_⟩; · (have X1 := hS.old x1; have X2 := hS.old x2; have C0 := hS.old c0; have C1 := hS.old c1; try go_simp))
  clear hK K
  refine flo_read _ rfl (fun K hK => ?_)
  go_simp
  first | (refine hK _ ?_) | (refine ⟨fun W hS => ?_, hK _ ?_⟩; · (have X1 := hS.old x1; have X2 := hS.old x2; have C0 := hS.old c0; have C1 := hS.old c1; try go_simp))
  clear hK K
  refine flo_read _ rfl (fun K hK => ?_)
  go_simp
  first | (refine hK _ ?_) | (refine ⟨fun W hS => ?_, hK _ ?_⟩; · (have X1 := hS.old x1; have X2 := hS.old x2; have C0 := hS.old c0; have C1 := hS.old c1; try go_simp))
  clear hK K
  refine flo_read _ rfl (fun K hK => ?_)
  go_simp
  first | (refine hK _ ?_) | (refine ⟨fun W hS => ?_, hK _ ?_⟩; · (have X1 := hS.old x1; have X2 := hS.old x2; have C0 := hS.old c0; have C1 := hS.old c1; try go_simp))
  clear hK K
  refine flo_read _ rfl (fun K hK => ?_)
  go_simp
  first | (refine hK _ ?_) | (refine ⟨fun W hS => ?_, hK _ ?_⟩; · (have X1 := hS.old x1; have X2 := hS.old x2; have C0 := hS.old c0; have C1 := hS.old c1; try go_simp))
  clear hK K
  refine flo_read _ rfl (fun K hK => ?_)
  go_simp
  first | (refine hK _ ?_) | (refine ⟨fun W hS => ?_, hK _ ?_⟩; · (have X1 := hS.old x1; have X2 := hS.old x2; have C0 := hS.old c0; have C1 := hS.old c1; try go_simp))
  clear hK K
  refine flo_read _ rfl (fun K hK => ?_)
  go_simp
  first | (refine hK _ ?_) | (refine ⟨fun W hS => ?_, hK _ ?_⟩; · (have X1 := hS.old x1; have X2 := hS.old x2; have C0 := hS.old c0; have C1 := hS.old c1; try go_simp))
  clear hK K
  refine flo_read _ rfl (fun K hK => ?_)
  go_simp
  first | (refine hK _ ?_) | (refine ⟨fun W hS => ?_, hK _ ?_⟩; · (have X1 := hS.old x1; have X2 := hS.old x2; have C0 := hS.old c0; have C1 := hS.old c1; try go_simp))
  clear hK K
  refine flo_read _ rfl (fun K hK => ?_)
  go_simp
  first | (refine hK _ ?_) | (refine ⟨fun W hS => ?_, hK _ ?_⟩; · (have X1 := hS.old x1; have X2 := hS.old x2; have C0 := hS.old c0; have C1 := hS.old c1; try go_simp))
  clear hK K
  refine flo_read _ rfl (fun K hK => ?_)
  go_simp
  first | (refine hK _ ?_) | (refine ⟨fun W hS => ?_, hK _ ?_⟩; · (have X1 := hS.old x1; have X2 := hS.old x2; have C0 := hS.old c0; have C1 := hS.old c1; try go_simp))
  clear hK K
  refine flo_read _ rfl (fun K hK => ?_)
  go_simp
  first | (refine hK _ ?_) | (refine ⟨fun W hS => ?_, hK _ ?_⟩; · (have X1 := hS.old x1; have X2 := hS.old x2; have C0 := hS.old c0; have C1 := hS.old c1; try go_simp))
  clear hK K
  refine flo_read _ rfl (fun K hK => ?_)
  go_simp
  first | (refine hK _ ?_) | (refine ⟨fun W hS => ?_, hK _ ?_⟩; · (have X1 := hS.old x1; have X2 := hS.old x2; have C0 := hS.old c0; have C1 := hS.old c1; try go_simp))
  clear hK K
  refine flo_read _ rfl (fun K hK => ?_)
  go_simp
  first | (refine hK _ ?_) | (refine ⟨fun W hS => ?_, hK _ ?_⟩; · (have X1 := hS.old x1; have X2 := hS.old x2; have C0 := hS.old c0; have C1 := hS.old c1; try go_simp))
  clear hK K
  refine flo_read _ rfl (fun K hK => ?_)
  go_simp
  first | (refine hK _ ?_) | (refine ⟨fun W hS => ?_, hK _ ?_⟩; · (have X1 := hS.old x1; have X2 := hS.old x2; have C0 := hS.old c0; have C1 := hS.old c1; try go_simp))
  clear hK K
  refine flo_read _ rfl (fun K hK => ?_)
  go_simp
  first | (refine hK _ ?_) | (refine ⟨fun W hS => ?_, hK _ ?_⟩; · (have X1 := hS.old x1; have X2 := hS.old x2; have C0 := hS.old c0; have C1 := hS.old c1; try go_simp))
  clear hK K
  refine flo_read _ rfl (fun K hK => ?_)
  go_simp
  first | (refine hK _ ?_) | (refine ⟨fun W hS => ?_, hK _ ?_⟩; · (have X1 := hS.old x1; have X2 := hS.old x2; have C0 := hS.old c0; have C1 := hS.old c1; try go_simp))
  clear hK K
  refine flo_read _ rfl (fun K hK => ?_)
  go_simp
  first | (refine hK _ ?_) | (refine ⟨fun W hS => ?_, hK _ ?_⟩; · (have X1 := hS.old x1; have X2 := hS.old x2; have C0 := hS.old c0; have C1 := hS.old c1; try go_simp))
  clear hK K
  refine flo_read _ rfl (fun K hK => ?_)
  go_simp
  first | (refine hK _ ?_) | (refine ⟨fun W hS => ?_, hK _ ?_⟩; · (have X1 := hS.old x1; have X2 := hS.old x2; have C0 := hS.old c0; have C1 := hS.old c1; try go_simp))
  clear hK K
  refine flo_read _ rfl (fun K hK => ?_)
  go_simp
  first | (refine hK _ ?_) | (refine ⟨fun W hS => ?_, hK _ ?_⟩; · (have X1 := hS.old x1; have X2 := hS.old x2; have C0 := hS.old c0; have C1 := hS.old c1; try go_simp))
  clear hK K
  refine flo_read _ rfl (fun K hK => ?_)
  go_simp
  first | (refine hK _ ?_) | (refine ⟨fun W hS => ?_, hK _ ?_⟩; · (have X1 := hS.old x1; have X2 := hS.old x2; have C0 := hS.old c0; have C1 := hS.old c1; try go_simp))
  clear hK K
  refine flo_read _ rfl (fun K hK => ?_)
  go_simp
  first | (refine hK _ ?_) | (refine ⟨fun W hS => ?_, hK _ ?_⟩; · (have X1 := hS.old x1; have X2 := hS.old x2; have C0 := hS.old c0; have C1 := hS.old c1; try go_simp))
  clear hK K
  refine flo_read _ rfl (fun K hK => ?_)
  go_simp
  first | (refine hK _ ?_) | (refine ⟨fun W hS => ?_, hK _ ?_⟩; · (have X1 := hS.old x1; have X2 := hS.old x2; have C0 := hS.old c0; have C1 := hS.old c1; try go_simp))
  clear hK K
  refine flo_read _ rfl (fun K hK => ?_)
  go_simp
  first | (refine hK _ ?_) | (refine ⟨fun W hS => ?_, hK _ ?_⟩; · (have X1 := hS.old x1; have X2 := hS.old x2; have C0 := hS.old c0; have C1 := hS.old c1; try go_simp))
  clear hK K
  refine flo_read _ rfl (fun K hK => ?_)
  go_simp
  first | (refine hK _ ?_) | (refine ⟨fun W hS => ?_, hK _ ?_⟩; · (have X1 := hS.old x1; have X2 := hS.old x2; have C0 := hS.old c0; have C1 := hS.old c1; try go_simp))
  clear hK K
  refine flo_read _ rfl (fun K hK => ?_)
  go_simp
  first | (refine hK _ ?_) | (refine ⟨fun W hS => ?_, hK _ ?_⟩; · (have X1 := hS.old x1; have X2 := hS.old x2; have C0 := hS.old c0; have C1 := hS.old c1; try go_simp))
  clear hK K
  clear x1 x2 c0 c1
  refine flo_alone _ rfl ?_
  go_wp2_with fail
  go_at_call 17
  refine Calls.mono (Hd1.out) ?_
  rintro e w7 ⟨u, rfl, ou, t7⟩
  rw [a5] at ou
  obtain ⟨Au, bu, rfl, _⟩ := formI ou
  simp only [List.length_cons, List.length_nil]
  have H7 := Lib.hid (H5.out.turns t7)
  clear Hd1 H5 ou
  go_wp2_with fail
  refine ⟨fun W => Turns [] w7 W, fun W h => t7.trans h, Turns.refl _ _, ?_⟩
  clear t7
  have d0 : World.cell? (w7) ⟨w.heap.size + 1 + 1, 0, none⟩ = some _ := (H7.out.blk 5 rfl).cell 0
  have d1 : World.cell? (w7) ⟨w.heap.size + 1 + 1, 1, none⟩ = some _ := (H7.out.blk 5 rfl).cell 1
  have c8 : World.cell? (w7) ⟨w.heap.size + 1, 8, none⟩ = some _ := (H7.out.blk 6 rfl).cell 8
  have r0 : World.cell? (w7) ⟨w.heap.size, 0, none⟩ = some _ := (H7.out.blk 7 rfl).cell 0
  have r1 : World.cell? (w7) ⟨w.heap.size, 1, none⟩ = some _ := (H7.out.blk 7 rfl).cell 1
  refine flo_read _ rfl (fun K hK => ?_)
  go_simp
  first | (refine hK _ ?_) | (refine ⟨fun W hS => ?_, hK _ ?_⟩; · (have D0 := hS.old d0; have D1 := hS.old d1; have C8 := hS.old c8; have R0 := hS.old r0; have R1 := hS.old r1; try go_simp))
  clear hK K
  refine flo_read _ rfl (fun K hK => ?_)
  go_simp
  first | (refine hK _ ?_) | (refine ⟨fun W hS => ?_, hK _ ?_⟩; · (have D0 := hS.old d0; have D1 := hS.old d1; have C8 := hS.old c8; have R0 := hS.old r0; have R1 := hS.old r1; try go_simp))
  clear hK K
  refine flo_read _ rfl (fun K hK => ?_)
  go_simp
  first | (refine hK _ ?_) | (refine ⟨fun W hS => ?_, hK _ ?_⟩; · (have D0 := hS.old d0; have D1 := hS.old d1; have C8 := hS.old c8; have R0 := hS.old r0; have R1 := hS.old r1; try go_simp))
  clear hK K
  refine flo_read _ rfl (fun K hK => ?_)
  go_simp
  first | (refine hK _ ?_) | (refine ⟨fun W hS => ?_, hK _ ?_⟩; · (have D0 := hS.old d0; have D1 := hS.old d1; have C8 := hS.old c8; have R0 := hS.old r0; have R1 := hS.old r1; try go_simp))
  clear hK K
  refine flo_read _ rfl (fun K hK => ?_)
  go_simp
  first | (refine hK _ ?_) | (refine ⟨fun W hS => ?_, hK _ ?_⟩; · (have D0 := hS.old d0; have D1 := hS.old d1; have C8 := hS.old c8; have R0 := hS.old r0; have R1 := hS.old r1; try go_simp))
  clear hK K
  refine flo_read _ rfl (fun K hK => ?_)
  go_simp
  first | (refine hK _ ?_) | (refine ⟨fun W hS => ?_, hK _ ?_⟩; · (have D0 := hS.old d0; have D1 := hS.old d1; have C8 := hS.old c8; have R0 := hS.old r0; have R1 := hS.old r1; try go_simp))
  clear hK K
  refine flo_read _ rfl (fun K hK => ?_)
  go_simp
  first | (refine hK _ ?_) | (refine ⟨fun W hS => ?_, hK _ ?_⟩; · (have D0 := hS.old d0; have D1 := hS.old d1; have C8 := hS.old c8; have R0 := hS.old r0; have R1 := hS.old r1; try go_simp))
  clear hK K
  refine flo_read _ rfl (fun K hK => ?_)
  go_simp
  first | (refine hK _ ?_) | (refine ⟨fun W hS => ?_, hK _ ?_⟩; · (have D0 := hS.old d0; have D1 := hS.old d1; have C8 := hS.old c8; have R0 := hS.old r0; have R1 := hS.old r1; try go_simp))
  clear hK K
  refine flo_read _ rfl (fun K hK => ?_)
  go_simp
  first | (refine hK _ ?_) | (refine ⟨fun W hS => ?_, hK _ ?_⟩; · (have D0 := hS.old d0; have D1 := hS.old d1; have C8 := hS.old c8; have R0 := hS.old r0; have R1 := hS.old r1; try go_simp))
  clear hK K
  clear d0 d1 c8 r0 r1
  have Lk := look_is [] w7 w7 5 3 99 (2, 10) (.slice none 0 0) [] (RTS.of (RT.nil _) (Turns.refl [] _) (by simp)) (Turns.refl _ _) (by decide)
  rw [a7] at Lk
  have Lkh := Lib.hid Lk
  clear Lk
  refine flo_alone _ rfl ?_
  go_wp2_with fail
  go_at_call 14
  refine Calls.mono (Lkh.out) ?_
  rintro e w8 ⟨y, rfl, hy, t8⟩
  obtain ⟨Ay, by_, rfl, hoy⟩ := row_form hy.row
  simp only [Rw.v]
  clear hy hoy Lkh
  go_wp2_with fail
  refine ⟨fun W => Turns [] w8 W, fun W h => t8.trans h, Turns.refl _ _, ?_⟩
  have hfd : ∀ (W : World), (Instr.field 38 (Value.agg #[.int .i64 3, .int .i64 10, .int .i64 99, .slice Ay 0 by_]) 1).run Try.prog W = .ok (.int .i64 10) W := fun W => by kernel_rfl
  refine flo_read _ rfl (fun K hK => ?_)
  go_simp
  first | (refine hK _ ?_) | (refine ⟨fun W hS => ?_, hK _ ?_⟩; · ((first | rw [hfd] | skip); try rfl; try go_simp))
  clear hK K
  refine flo_read _ rfl (fun K hK => ?_)
  go_simp
  first | (refine hK _ ?_) | (refine ⟨fun W hS => ?_, hK _ ?_⟩; · ((first | rw [hfd] | skip); try rfl; try go_simp))
  clear hK K
  refine flo_read _ rfl (fun K hK => ?_)
  go_simp
  first | (refine hK _ ?_) | (refine ⟨fun W hS => ?_, hK _ ?_⟩; · ((first | rw [hfd] | skip); try rfl; try go_simp))
  clear hK K
  refine flo_read _ rfl (fun K hK => ?_)
  go_simp
  first | (refine hK _ ?_) | (refine ⟨fun W hS => ?_, hK _ ?_⟩; · ((first | rw [hfd] | skip); try rfl; try go_simp))
  clear hK K
  refine flo_end ?_
  go_wp2_with fail
  go_ret
  exact ⟨rfl, H7.out.t.trans t8⟩
end Go.Proofs.Ytphhfdlhkginkaa.Jc
