/- A row minted: the ledger's Look, the document's minted and Look. -/
import Derived.Test.YtphhfdlhkginkaaBf
import Derived.Test.YtphhfdlhkginkaaWg
set_option linter.unusedVariables false
set_option linter.unusedSimpArgs false
set_option maxRecDepth 100000
namespace Go.Proofs.Ytphhfdlhkginkaa.Bg
open Go.RowKit Go.MapKept Hm Hs Hf Hg Hx Hy Hv Fa Ff Ba Bb Bc Bd Be Bf Sm Sat Mu Mv
set_option maxHeartbeats 8000000 in
theorem look_is (G : List Nat) (w0 w : World) (start key now : Int) (q : Int × Int) (v : Value) (R : List Row) (h : RTS G w0 v R) (t0 : Turns [] w0 w) (hn : (rwAt start R key).out.length ≤ 100000) : Calls Try.prog 14 #[.agg #[.int .i64 start, v], .int .i64 key, .int .i64 now, .agg #[.int .i64 q.1, .int .i64 q.2]] w fun e w' => ∃ x : Rw, e = .returned x.v ∧ RowS G w0 x (lookR start R key now q) ∧ Turns [] w w' := by
  obtain ⟨A, c, rfl, hlc, hcm⟩ := h.rt.form
  have hF := Lib.hid (fun W (t : Turns [] w W) => find_is G w0 W start key (.slice A R.length c) R h (t0.trans t))
  have H := (((Sep.start w).alloc #[.int .i64 start, .slice A R.length c] 24).alloc #[.int .i64 q.1, .int .i64 q.2] 44).alloc #[.int .i64 0, .int .i64 0, .int .i64 0, .slice none 0 0] 38
  rw [World.size_alloc, World.size_alloc] at H
  obtain ⟨r, hr⟩ : ∃ r, rwAt start R key = r := ⟨_, rfl⟩
  unfold lookR
  rw [hr] at hF hn ⊢
  obtain ⟨X, hX⟩ : ∃ X : Ending → World → Prop, X = fun e w' => ∃ x : Rw, e = .returned x.v ∧ RowS G w0 x (mintedR r now q) ∧ Turns [] w w' := ⟨_, rfl⟩
  rw [← hX]
  have hXh : Hid (∀ w' x, RowS G w0 x (mintedR r now q) → Turns [] w w' → X (.returned x.v) w') := Lib.hid (fun w' x h1 h2 => by rw [hX]; exact ⟨x, rfl, h1, h2⟩)
  have c0 : World.cell? (((w.alloc (.cells #[.int .i64 start, .slice A R.length c] 24)).alloc (.cells #[.int .i64 q.1, .int .i64 q.2] 44)).alloc (.cells #[.int .i64 0, .int .i64 0, .int .i64 0, .slice none 0 0] 38)) ⟨w.heap.size, 0, none⟩ = some _ := (H.blk 2 rfl).cell 0
  have c1 : World.cell? (((w.alloc (.cells #[.int .i64 start, .slice A R.length c] 24)).alloc (.cells #[.int .i64 q.1, .int .i64 q.2] 44)).alloc (.cells #[.int .i64 0, .int .i64 0, .int .i64 0, .slice none 0 0] 38)) ⟨w.heap.size, 1, none⟩ = some _ := (H.blk 2 rfl).cell 1
  have Hh := Lib.hid H
  have t0h := Lib.hid t0
  clear h H hX hr t0
  go_enter Try.func14, Try.ntmps14
  go_wp2_with fail
  go_at_call 11
  refine Calls.mono (hF.out _ Hh.out.t) ?_
  rintro e w1 ⟨x, rfl, hx, t1⟩
  obtain ⟨Ao, co, rfl, ho⟩ := row_form hx.row
  have hxw := Lib.hid (hx.row.turns (t0h.out.trans (Hh.out.t.trans t1)))
  simp only [Rw.v]
  have Hh0 := Lib.hid (Hh.out.turns t1)
  have H := (Hh.out.turns t1).alloc #[.int .i64 r.key, .int .i64 r.avail, .int .i64 r.mark, .slice Ao r.out.length co] 38
  have hxh := Lib.hid hx
  clear c0 c1 Hh hF t1 hx ho
  have HD := Lib.hid H.drew
  have T01 := Lib.hid (((Turns.refl [] w1).alloc (.cells #[.int .i64 r.key, .int .i64 r.avail, .int .i64 r.mark, .slice Ao r.out.length co] 38)).drew)
  clear H
  obtain ⟨b, hb⟩ : ∃ b, w1.heap.size = b := ⟨_, rfl⟩
  rw [hb] at HD
  have hbh := Lib.hid hb
  have hblt : w.heap.size + 1 + 1 < b := by rw [← hb]; exact Blk.lt (Hh0.out.blk 0 rfl)
  have hbn : ¬ b = w.heap.size + 1 + 1 := by omega
  have hbn2 : ¬ w.heap.size + 1 + 1 = b := by omega
  go_wp2_with fail
  go_wp2_with fail
  refine wp_region_flo2 [(0, true, [7, 8, 12, 13, 15, 16]), (1, true, [7, 8, 12, 13, 16]), (2, true, [7, 8, 12, 13, 15, 16]), (3, true, [7, 12, 13, 15, 16]), (4, true, [8, 12, 13, 15, 16]), (5, true, [7, 8, 12, 13, 15, 16]), (6, true, [8, 12, 13, 15, 16]), (9, true, [7, 8, 12, 13, 15, 16]), (10, true, [7, 8, 12, 15, 16]), (11, true, [7, 8, 13, 15, 16]), (7, false, []), (8, false, []), (12, false, []), (13, false, []), (14, true, [16]), (15, false, []), (16, false, []), (17, true, []), (18, false, [])] (fun j W => j ≠ 18 → Turns [] ((w1.alloc (.cells #[.int .i64 r.key, .int .i64 r.avail, .int .i64 r.mark, .slice Ao r.out.length co] 38)).drew) W) (by kernel_rfl) rfl (by kernel_rfl) (by intro c d v a w h; cases d <;> first | (simpa [Exit.then, Exit.inBlock, Act.put] using h) | exact h) ?_
  generalize (w1.alloc (.cells #[.int .i64 r.key, .int .i64 r.avail, .int .i64 r.mark, .slice Ao r.out.length co] 38)).drew = w2 at *
  try rw [hb]
  clear hb
  have H := HD.out
  clear HD
  have a0 : World.cell? (w2) ⟨b, 0, none⟩ = some _ := (H.blk 0 rfl).cell 0
  have a1 : World.cell? (w2) ⟨b, 1, none⟩ = some _ := (H.blk 0 rfl).cell 1
  have a2 : World.cell? (w2) ⟨b, 2, none⟩ = some _ := (H.blk 0 rfl).cell 2
  have a3 : World.cell? (w2) ⟨b, 3, none⟩ = some _ := (H.blk 0 rfl).cell 3
  have d0 : World.cell? (w2) ⟨w.heap.size + 1, 0, none⟩ = some _ := (H.blk 2 rfl).cell 0
  have d1 : World.cell? (w2) ⟨w.heap.size + 1, 1, none⟩ = some _ := (H.blk 2 rfl).cell 1
  refine flo2_read _ rfl (fun W => Turns [] w2 W) (Turns.refl _ _) (fun j hj W k => k (by simp at hj; omega)) (fun K hK => ?_)
  go_simp
  first | (refine hK _ ?_) | (refine ⟨fun W hS => ?_, hK _ ?_⟩; · (have Y0 := hS.old a0; have Y1 := hS.old a1; have Y2 := hS.old a2; have Y3 := hS.old a3; have Z0 := hS.old d0; have Z1 := hS.old d1; try go_simp))
  clear hK K
  refine flo2_read _ rfl (fun W => Turns [] w2 W) (Turns.refl _ _) (fun j hj W k => k (by simp at hj; omega)) (fun K hK => ?_)
  go_simp
  first | (refine hK _ ?_) | (refine ⟨fun W hS => ?_, hK _ ?_⟩; · (have Y0 := hS.old a0; have Y1 := hS.old a1; have Y2 := hS.old a2; have Y3 := hS.old a3; have Z0 := hS.old d0; have Z1 := hS.old d1; try go_simp))
  clear hK K
  refine flo2_read _ rfl (fun W => Turns [] w2 W) (Turns.refl _ _) (fun j hj W k => k (by simp at hj; omega)) (fun K hK => ?_)
  go_simp
  first | (refine hK _ ?_) | (refine ⟨fun W hS => ?_, hK _ ?_⟩; · (have Y0 := hS.old a0; have Y1 := hS.old a1; have Y2 := hS.old a2; have Y3 := hS.old a3; have Z0 := hS.old d0; have Z1 := hS.old d1; try go_simp))
  clear hK K
  refine flo2_read _ rfl (fun W => Turns [] w2 W) (Turns.refl _ _) (fun j hj W k => k (by simp at hj; omega)) (fun K hK => ?_)
  go_simp
  first | (refine hK _ ?_) | (refine ⟨fun W hS => ?_, hK _ ?_⟩; · (have Y0 := hS.old a0; have Y1 := hS.old a1; have Y2 := hS.old a2; have Y3 := hS.old a3; have Z0 := hS.old d0; have Z1 := hS.old d1; try go_simp))
  clear hK K
  refine flo2_read _ rfl (fun W => Turns [] w2 W) (Turns.refl _ _) (fun j hj W k => k (by simp at hj; omega)) (fun K hK => ?_)
  go_simp
  first | (refine hK _ ?_) | (refine ⟨fun W hS => ?_, hK _ ?_⟩; · (have Y0 := hS.old a0; have Y1 := hS.old a1; have Y2 := hS.old a2; have Y3 := hS.old a3; have Z0 := hS.old d0; have Z1 := hS.old d1; try go_simp))
  clear hK K
  refine flo2_read _ rfl (fun W => Turns [] w2 W) (Turns.refl _ _) (fun j hj W k => k (by simp at hj; omega)) (fun K hK => ?_)
  go_simp
  first | (refine hK _ ?_) | (refine ⟨fun W hS => ?_, hK _ ?_⟩; · (have Y0 := hS.old a0; have Y1 := hS.old a1; have Y2 := hS.old a2; have Y3 := hS.old a3; have Z0 := hS.old d0; have Z1 := hS.old d1; try go_simp))
  clear hK K
  refine flo2_read _ rfl (fun W => Turns [] w2 W) (Turns.refl _ _) (fun j hj W k => k (by simp at hj; omega)) (fun K hK => ?_)
  go_simp
  first | (refine hK _ ?_) | (refine ⟨fun W hS => ?_, hK _ ?_⟩; · (have Y0 := hS.old a0; have Y1 := hS.old a1; have Y2 := hS.old a2; have Y3 := hS.old a3; have Z0 := hS.old d0; have Z1 := hS.old d1; try go_simp))
  clear hK K
  refine flo2_read _ rfl (fun W => Turns [] w2 W) (Turns.refl _ _) (fun j hj W k => k (by simp at hj; omega)) (fun K hK => ?_)
  go_simp
  first | (refine hK _ ?_) | (refine ⟨fun W hS => ?_, hK _ ?_⟩; · (have Y0 := hS.old a0; have Y1 := hS.old a1; have Y2 := hS.old a2; have Y3 := hS.old a3; have Z0 := hS.old d0; have Z1 := hS.old d1; try go_simp))
  clear hK K
  refine flo2_read _ rfl (fun W => Turns [] w2 W) (Turns.refl _ _) (fun j hj W k => k (by simp at hj; omega)) (fun K hK => ?_)
  go_simp
  first | (refine hK _ ?_) | (refine ⟨fun W hS => ?_, hK _ ?_⟩; · (have Y0 := hS.old a0; have Y1 := hS.old a1; have Y2 := hS.old a2; have Y3 := hS.old a3; have Z0 := hS.old d0; have Z1 := hS.old d1; try go_simp))
  clear hK K
  refine flo2_read _ rfl (fun W => Turns [] w2 W) (Turns.refl _ _) (fun j hj W k => k (by simp at hj; omega)) (fun K hK => ?_)
  go_simp
  first | (refine hK _ ?_) | (refine ⟨fun W hS => ?_, hK _ ?_⟩; · (have Y0 := hS.old a0; have Y1 := hS.old a1; have Y2 := hS.old a2; have Y3 := hS.old a3; have Z0 := hS.old d0; have Z1 := hS.old d1; try go_simp))
  clear hK K
  have hHh := Lib.hid H
  have hrow := Lib.hid (hxw.out.turns T01.out)
  clear a0 a1 a2 a3 d0 d1 H hxw T01
  have I1 := Lib.hid (fun w => sub_is now r.mark w)
  have hmD := Lib.hid (show mintedR r now q = ⟨r.key, two r.avail (min (mul q.1 (sub now r.mark)) (sub q.2 (totalR r))), max r.mark now, r.out⟩ from rfl)
  generalize hs1 : sub now r.mark = s1 at *
  have I2 := Lib.hid (fun w => mul_walk q.1 s1 w)
  generalize hs2 : mul q.1 s1 = s2 at *
  have I3 := Lib.hid (fun W (t : Turns [] w2 W) => total_is W ⟨r.key, r.avail, r.mark, .slice Ao r.out.length co⟩ r (hrow.out.turns t) hn)
  generalize hs3 : totalR r = s3 at *
  have I4 := Lib.hid (fun w => sub_is q.2 s3 w)
  generalize hs4 : sub q.2 s3 = s4 at *
  clear hs1 hs2 hs3 hs4
  refine flo2_alone _ rfl ?_
  go_wp2_with fail
  go_at_call 41
  refine Calls.mono (I1.out _) ?_
  rintro e w3 ⟨rfl, t3⟩
  go_wp2_with fail
  refine ⟨fun _ => t3, _, fun _ _ h => h, ?_⟩
  refine flo2_alone _ rfl ?_
  go_wp2_with fail
  go_at_call 40
  refine Calls.mono (I2.out _) ?_
  rintro e w4 ⟨rfl, t4⟩
  go_wp2_with fail
  refine ⟨fun _ => t3.trans t4, _, fun _ _ h => h, ?_⟩
  have T4 := t3.trans t4
  clear t3 t4
  refine flo2_alone _ rfl ?_
  go_wp2_with fail
  go_at_call 19
  refine Calls.mono (I3.out _ T4) ?_
  rintro e w5 ⟨rfl, t5⟩
  go_wp2_with fail
  refine ⟨fun _ => T4.trans t5, _, fun _ _ h => h, ?_⟩
  have T5 := T4.trans t5
  clear T4 t5
  refine flo2_alone _ rfl ?_
  go_wp2_with fail
  go_at_call 41
  refine Calls.mono (I4.out _) ?_
  rintro e w6 ⟨rfl, t6⟩
  go_wp2_with fail
  refine ⟨fun _ => T5.trans t6, _, fun _ _ h => h, ?_⟩
  have T6 := T5.trans t6
  clear T5 t6 I1 I2 I3 I4
  first
    | (refine flo2_read _ rfl (fun _ => True) trivial (fun _ _ _ _ => trivial) (fun K hK => ?_); go_simp; first | (refine hK _ ?_) | (refine ⟨fun W _ => ?_, hK _ ?_⟩; · (go_simp)) | (refine ⟨fun W => ?_, hK _ ?_⟩; · (go_simp)))
    | (refine flo2_read _ rfl (fun W => W = _) rfl (by simp) (fun K hK => ?_); go_simp; first | (refine hK _ ?_) | (refine ⟨fun W hS => ?_, hK _ ?_⟩; · (subst hS; go_simp)) | (refine ⟨?_, hK _ ?_⟩; · (go_simp)))
  clear hK K
  obtain ⟨m, hm⟩ : ∃ m, min s2 s4 = m := ⟨_, rfl⟩
  have H6 := hHh.out.turns T6
  have H7 := H6.alloc #[.int .i64 r.avail, .int .i64 m] 3
  have IA := Lib.hid (add_is _ [r.avail, m] 2 _ (IRow.of_blk (xs := [r.avail, m]) (H7.blk 0 rfl) rfl (by simp)))
  rw [sum_two] at IA
  have T7 := T6.alloc (.cells #[.int .i64 r.avail, .int .i64 m] 3)
  have H7h := Lib.hid H7
  clear H6 H7
  refine flo2_alone _ rfl ?_
  go_wp2_with fail
  try rw [hm]
  refine ⟨fun _ => T7, _, fun _ _ h => h, ?_⟩
  clear hHh T6
  obtain ⟨s5, hs5⟩ : ∃ s5, two r.avail m = s5 := ⟨_, rfl⟩
  rw [hs5] at IA
  refine flo2_alone _ rfl ?_
  go_wp2_with fail
  go_at_call 39
  refine Calls.mono (IA.out) ?_
  rintro e w8 ⟨rfl, t8⟩
  go_wp2_with fail
  refine ⟨fun _ => T7.trans t8, _, fun _ _ h => h, ?_⟩
  have T8 := T7.trans t8
  have H8 := H7h.out.turns t8
  clear H7h t8 T7 IA
  first
    | (refine flo2_read _ rfl (fun _ => True) trivial (fun _ _ _ _ => trivial) (fun K hK => ?_); go_simp; first | (refine hK _ ?_) | (refine ⟨fun W _ => ?_, hK _ ?_⟩; · (go_simp)) | (refine ⟨fun W => ?_, hK _ ?_⟩; · (go_simp)))
    | (refine flo2_read _ rfl (fun W => W = _) rfl (by simp) (fun K hK => ?_); go_simp; first | (refine hK _ ?_) | (refine ⟨fun W hS => ?_, hK _ ?_⟩; · (subst hS; go_simp)) | (refine ⟨?_, hK _ ?_⟩; · (go_simp)))
  clear hK K
  have e1 : World.cell? (w8) ⟨b, 1, none⟩ = some _ := (H8.blk 1 rfl).cell 1
  have ef1 : World.frozen? (w8) ⟨b, 1, none⟩ = false := (H8.blk 1 rfl).frozen 1
  refine flo2_alone _ rfl ?_
  go_wp2_with fail
  refine ⟨by simp, _, fun _ _ h => h, ?_⟩
  have H9 := H8.set 1 rfl 1 (.int .i64 s5)
  clear H8 e1 ef1 T8
  generalize w8.setCell ⟨b, 1, none⟩ (.int .i64 s5) = w9 at *
  refine flo2_end ?_
  have f0 : World.cell? (w9) ⟨b, 0, none⟩ = some _ := (H9.blk 1 rfl).cell 0
  have f1 : World.cell? (w9) ⟨b, 1, none⟩ = some _ := (H9.blk 1 rfl).cell 1
  have f2 : World.cell? (w9) ⟨b, 2, none⟩ = some _ := (H9.blk 1 rfl).cell 2
  have ff2 : World.frozen? (w9) ⟨b, 2, none⟩ = false := (H9.blk 1 rfl).frozen 2
  have f3 : World.cell? (w9) ⟨b, 3, none⟩ = some _ := (H9.blk 1 rfl).cell 3
  have z0 : World.cell? (w9) ⟨w.heap.size + 1 + 1, 0, none⟩ = some _ := (H9.blk 2 rfl).cell 0
  have zf0 : World.frozen? (w9) ⟨w.heap.size + 1 + 1, 0, none⟩ = false := (H9.blk 2 rfl).frozen 0
  have z1 : World.cell? (w9) ⟨w.heap.size + 1 + 1, 1, none⟩ = some _ := (H9.blk 2 rfl).cell 1
  have zf1 : World.frozen? (w9) ⟨w.heap.size + 1 + 1, 1, none⟩ = false := (H9.blk 2 rfl).frozen 1
  have z2 : World.cell? (w9) ⟨w.heap.size + 1 + 1, 2, none⟩ = some _ := (H9.blk 2 rfl).cell 2
  have zf2 : World.frozen? (w9) ⟨w.heap.size + 1 + 1, 2, none⟩ = false := (H9.blk 2 rfl).frozen 2
  have z3 : World.cell? (w9) ⟨w.heap.size + 1 + 1, 3, none⟩ = some _ := (H9.blk 2 rfl).cell 3
  have zf3 : World.frozen? (w9) ⟨w.heap.size + 1 + 1, 3, none⟩ = false := (H9.blk 2 rfl).frozen 3
  have HA := ((((H9.set 1 rfl 2 (.int .i64 (max r.mark now))).set 2 rfl 0 (.int .i64 r.key)).set 2 rfl 1 (.int .i64 s5)).set 2 rfl 2 (.int .i64 (max r.mark now))).set 2 rfl 3 (.slice Ao r.out.length co)
  have hB := HA.blk 2 rfl
  have hX := hXh.out _ ⟨r.key, s5, max r.mark now, .slice Ao r.out.length co⟩ (fun W t => ⟨by rw [hmD.out], by rw [hmD.out, hm, hs5], by rw [hmD.out], by rw [hmD.out]; exact (hxh.out W t).out⟩) HA.t
  clear HA H9 hXh hmD hs5 hm hxh hbh
  go_wp2_with fail
  refine bodyPost_ret (res_one rfl (.cell (w.heap.size + 1 + 1) _ _ _ rfl hB Try.underlying38 rfl (by kernel_rfl) .nil)) rfl ?_
  exact hX
end Go.Proofs.Ytphhfdlhkginkaa.Bg
