/- The document's minted and Look. -/
import Derived.Test.YtphhfdlhkginkaaBf
import Derived.Test.YtphhfdlhkginkaaWg
set_option linter.unusedVariables false
set_option linter.unusedSimpArgs false
set_option maxRecDepth 100000
namespace Go.Proofs.Ytphhfdlhkginkaa.Bh
open Go.RowKit Go.MapKept Hm Hs Hf Hg Hx Hy Hv Fa Ff Ba Bb Bc Bd Be Bf Sm Sat Mu Mv
set_option maxHeartbeats 8000000 in
theorem minted_is (G : List Nat) (w0 w : World) (now : Int) (q : Int × Int) (x : Rw) (r : Row) (h : RowS G w0 x r) (t0 : Turns [] w0 w) (hn : r.out.length ≤ 100000) : Calls Try.prog 42 #[x.v, .int .i64 now, .agg #[.int .i64 q.1, .int .i64 q.2]] w fun e w' => ∃ x : Rw, e = .returned x.v ∧ RowS G w0 x (mintedR r now q) ∧ Turns [] w w' := by
  obtain ⟨Ao, co, rfl, ho⟩ := row_form h.row
  have H := (((Sep.start w).alloc #[.int .i64 r.key, .int .i64 r.avail, .int .i64 r.mark, .slice Ao r.out.length co] 38).alloc #[.int .i64 q.1, .int .i64 q.2] 44).alloc #[.int .i64 0, .int .i64 0, .int .i64 0, .slice none 0 0] 38
  rw [World.size_alloc, World.size_alloc] at H
  obtain ⟨X, hX⟩ : ∃ X : Ending → World → Prop, X = fun e w' => ∃ x : Rw, e = .returned x.v ∧ RowS G w0 x (mintedR r now q) ∧ Turns [] w w' := ⟨_, rfl⟩
  rw [← hX]
  have hXh : Hid (∀ w' x, RowS G w0 x (mintedR r now q) → Turns [] w w' → X (.returned x.v) w') := Lib.hid (fun w' x h1 h2 => by rw [hX]; exact ⟨x, rfl, h1, h2⟩)
  have hrow := Lib.hid (h.row.turns (t0.trans (H.t.drew)))
  have hxh := Lib.hid h
  have HD := Lib.hid H.drew
  clear h H hX t0 ho
  unfold Rw.v
  simp only
  go_enter Try.func42, Try.ntmps42
  go_wp2_with fail
  go_wp2_with fail
  refine wp_region_flo [(0, true), (1, true), (2, true), (3, true), (4, true), (5, false), (6, false), (7, true)] (fun W => Turns [] ((((w.alloc (.cells #[.int .i64 r.key, .int .i64 r.avail, .int .i64 r.mark, .slice Ao r.out.length co] 38)).alloc (.cells #[.int .i64 q.1, .int .i64 q.2] 44)).alloc (.cells #[.int .i64 0, .int .i64 0, .int .i64 0, .slice none 0 0] 38)).drew) W) (by kernel_rfl) rfl (by kernel_rfl) (by intro c d v a w h; cases d <;> first | (simpa [Exit.then, Exit.inBlock, Act.put] using h) | exact h) (Turns.refl _ _) ?_
  generalize (((w.alloc (.cells #[.int .i64 r.key, .int .i64 r.avail, .int .i64 r.mark, .slice Ao r.out.length co] 38)).alloc (.cells #[.int .i64 q.1, .int .i64 q.2] 44)).alloc (.cells #[.int .i64 0, .int .i64 0, .int .i64 0, .slice none 0 0] 38)).drew = w2 at *
  have H := HD.out
  clear HD
  have a2 : World.cell? (w2) ⟨w.heap.size, 2, none⟩ = some _ := (H.blk 2 rfl).cell 2
  have d0 : World.cell? (w2) ⟨w.heap.size + 1, 0, none⟩ = some _ := (H.blk 1 rfl).cell 0
  refine flo_read _ rfl (fun K hK => ?_)
  go_simp
  first | (refine hK _ ?_) | (refine ⟨fun W hS => ?_, hK _ ?_⟩; · (have Y2 := hS.old a2; have Z0 := hS.old d0; try go_simp))
  clear hK K
  refine flo_read _ rfl (fun K hK => ?_)
  go_simp
  first | (refine hK _ ?_) | (refine ⟨fun W hS => ?_, hK _ ?_⟩; · (have Y2 := hS.old a2; have Z0 := hS.old d0; try go_simp))
  clear hK K
  refine flo_read _ rfl (fun K hK => ?_)
  go_simp
  first | (refine hK _ ?_) | (refine ⟨fun W hS => ?_, hK _ ?_⟩; · (have Y2 := hS.old a2; have Z0 := hS.old d0; try go_simp))
  clear hK K
  refine flo_read _ rfl (fun K hK => ?_)
  go_simp
  first | (refine hK _ ?_) | (refine ⟨fun W hS => ?_, hK _ ?_⟩; · (have Y2 := hS.old a2; have Z0 := hS.old d0; try go_simp))
  clear hK K
  refine flo_read _ rfl (fun K hK => ?_)
  go_simp
  first | (refine hK _ ?_) | (refine ⟨fun W hS => ?_, hK _ ?_⟩; · (have Y2 := hS.old a2; have Z0 := hS.old d0; try go_simp))
  clear hK K
  clear a2 d0
  have Hh := Lib.hid H
  clear H
  have I1 := Lib.hid (fun w => rsub_is now r.mark w)
  have hmD := Lib.hid (show mintedR r now q = ⟨r.key, two r.avail (min (mul q.1 (sub now r.mark)) (sub q.2 (totalR r))), max r.mark now, r.out⟩ from rfl)
  generalize hs1 : sub now r.mark = s1 at *
  have I2 := Lib.hid (fun w => rmul_is q.1 s1 w)
  generalize hs2 : mul q.1 s1 = s2 at *
  have I3 := Lib.hid (fun W (t : Turns [] w2 W) => rtotal_is W ⟨r.key, r.avail, r.mark, .slice Ao r.out.length co⟩ r (hrow.out.turns t) hn)
  generalize hs3 : totalR r = s3 at *
  have I4 := Lib.hid (fun w => rsub_is q.2 s3 w)
  generalize hs4 : sub q.2 s3 = s4 at *
  clear hs1 hs2 hs3 hs4
  refine flo_alone _ rfl ?_
  go_wp2_with fail
  go_at_call 48
  refine Calls.mono (I1.out _) ?_
  rintro e w3 ⟨rfl, t3⟩
  go_wp2_with fail
  refine ⟨fun W => Turns [] w3 W, fun W h => t3.trans h, Turns.refl _ _, ?_⟩
  refine flo_alone _ rfl ?_
  go_wp2_with fail
  go_at_call 23
  refine Calls.mono (I2.out _) ?_
  rintro e w4 ⟨rfl, t4⟩
  go_wp2_with fail
  refine ⟨fun W => Turns [] w4 W, fun W h => t4.trans h, Turns.refl _ _, ?_⟩
  refine flo_read _ rfl (fun K hK => ?_)
  go_simp
  first | (refine hK _ ?_) | (refine ⟨fun W hS => ?_, hK _ ?_⟩; · (skip; try go_simp))
  clear hK K
  refine flo_end ?_
  have T4 := (t3.trans t4).drew
  clear t3 t4
  go_wp2_with fail
  go_wp2_with fail
  refine wp_region_flo [(0, true), (1, true), (2, true), (3, false), (4, false), (5, true)] (fun W => Turns [] w4.drew W) (by kernel_rfl) rfl (by kernel_rfl) (by intro c d v a w h; cases d <;> first | (simpa [Exit.then, Exit.inBlock, Act.put] using h) | exact h) (Turns.refl _ _) ?_
  generalize w4.drew = w5 at *
  have H := Hh.out.turns T4
  clear Hh
  have a0 : World.cell? (w5) ⟨w.heap.size, 0, none⟩ = some _ := (H.blk 2 rfl).cell 0
  have a1 : World.cell? (w5) ⟨w.heap.size, 1, none⟩ = some _ := (H.blk 2 rfl).cell 1
  have a2 : World.cell? (w5) ⟨w.heap.size, 2, none⟩ = some _ := (H.blk 2 rfl).cell 2
  have a3 : World.cell? (w5) ⟨w.heap.size, 3, none⟩ = some _ := (H.blk 2 rfl).cell 3
  have d1 : World.cell? (w5) ⟨w.heap.size + 1, 1, none⟩ = some _ := (H.blk 1 rfl).cell 1
  refine flo_read _ rfl (fun K hK => ?_)
  go_simp
  first | (refine hK _ ?_) | (refine ⟨fun W hS => ?_, hK _ ?_⟩; · (have Y0 := hS.old a0; have Y1 := hS.old a1; have Y2 := hS.old a2; have Y3 := hS.old a3; have Z1 := hS.old d1; try go_simp))
  clear hK K
  refine flo_read _ rfl (fun K hK => ?_)
  go_simp
  first | (refine hK _ ?_) | (refine ⟨fun W hS => ?_, hK _ ?_⟩; · (have Y0 := hS.old a0; have Y1 := hS.old a1; have Y2 := hS.old a2; have Y3 := hS.old a3; have Z1 := hS.old d1; try go_simp))
  clear hK K
  refine flo_read _ rfl (fun K hK => ?_)
  go_simp
  first | (refine hK _ ?_) | (refine ⟨fun W hS => ?_, hK _ ?_⟩; · (have Y0 := hS.old a0; have Y1 := hS.old a1; have Y2 := hS.old a2; have Y3 := hS.old a3; have Z1 := hS.old d1; try go_simp))
  clear hK K
  clear a0 a1 a2 a3 d1
  refine flo_alone _ rfl ?_
  go_wp2_with fail
  go_at_call 20
  refine Calls.mono (I3.out _ T4) ?_
  rintro e w6 ⟨rfl, t6⟩
  go_wp2_with fail
  refine ⟨fun W => Turns [] w6 W, fun W h => t6.trans h, Turns.refl _ _, ?_⟩
  refine flo_alone _ rfl ?_
  go_wp2_with fail
  go_at_call 48
  refine Calls.mono (I4.out _) ?_
  rintro e w7 ⟨rfl, t7⟩
  go_wp2_with fail
  refine ⟨fun W => Turns [] w7 W, fun W h => t7.trans h, Turns.refl _ _, ?_⟩
  refine flo_read _ rfl (fun K hK => ?_)
  go_simp
  first | (refine hK _ ?_) | (refine ⟨fun W hS => ?_, hK _ ?_⟩; · (skip; try go_simp))
  clear hK K
  refine flo_end ?_
  have H7 := H.turns (t6.trans t7)
  clear H T4 t6 t7 I1 I2 I3 I4
  obtain ⟨m, hm⟩ : ∃ m, min s2 s4 = m := ⟨_, rfl⟩
  rw [hm] at hmD
  have I5 := Lib.hid (fun w => two_is r.avail m w)
  generalize hs5 : two r.avail m = s5 at *
  clear hs5
  have a1 : World.cell? (w7) ⟨w.heap.size, 1, none⟩ = some _ := (H7.blk 2 rfl).cell 1
  go_wp2_with fail
  go_at_call 22
  refine Calls.mono (I5.out _) ?_
  rintro e w8 ⟨rfl, t8⟩
  have H8 := H7.turns t8
  clear H7 a1 t8 hm
  have a0 : World.cell? (w8) ⟨w.heap.size, 0, none⟩ = some _ := (H8.blk 2 rfl).cell 0
  have a1 : World.cell? (w8) ⟨w.heap.size, 1, none⟩ = some _ := (H8.blk 2 rfl).cell 1
  have af1 : World.frozen? (w8) ⟨w.heap.size, 1, none⟩ = false := (H8.blk 2 rfl).frozen 1
  have a2 : World.cell? (w8) ⟨w.heap.size, 2, none⟩ = some _ := (H8.blk 2 rfl).cell 2
  have af2 : World.frozen? (w8) ⟨w.heap.size, 2, none⟩ = false := (H8.blk 2 rfl).frozen 2
  have a3 : World.cell? (w8) ⟨w.heap.size, 3, none⟩ = some _ := (H8.blk 2 rfl).cell 3
  have z0 : World.cell? (w8) ⟨w.heap.size + 1 + 1, 0, none⟩ = some _ := (H8.blk 0 rfl).cell 0
  have zf0 : World.frozen? (w8) ⟨w.heap.size + 1 + 1, 0, none⟩ = false := (H8.blk 0 rfl).frozen 0
  have z1 : World.cell? (w8) ⟨w.heap.size + 1 + 1, 1, none⟩ = some _ := (H8.blk 0 rfl).cell 1
  have zf1 : World.frozen? (w8) ⟨w.heap.size + 1 + 1, 1, none⟩ = false := (H8.blk 0 rfl).frozen 1
  have z2 : World.cell? (w8) ⟨w.heap.size + 1 + 1, 2, none⟩ = some _ := (H8.blk 0 rfl).cell 2
  have zf2 : World.frozen? (w8) ⟨w.heap.size + 1 + 1, 2, none⟩ = false := (H8.blk 0 rfl).frozen 2
  have z3 : World.cell? (w8) ⟨w.heap.size + 1 + 1, 3, none⟩ = some _ := (H8.blk 0 rfl).cell 3
  have zf3 : World.frozen? (w8) ⟨w.heap.size + 1 + 1, 3, none⟩ = false := (H8.blk 0 rfl).frozen 3
  have HA := (((((H8.set 2 rfl 1 (.int .i64 s5)).set 2 rfl 2 (.int .i64 (max r.mark now))).set 0 rfl 0 (.int .i64 r.key)).set 0 rfl 1 (.int .i64 s5)).set 0 rfl 2 (.int .i64 (max r.mark now))).set 0 rfl 3 (.slice Ao r.out.length co)
  have hB := HA.blk 0 rfl
  have hX := hXh.out _ ⟨r.key, s5, max r.mark now, .slice Ao r.out.length co⟩ (fun W t => ⟨by rw [hmD.out], by rw [hmD.out], by rw [hmD.out], by rw [hmD.out]; exact (hxh.out W t).out⟩) HA.t
  clear HA H8 hXh hmD hxh hrow
  go_wp2_with fail
  refine bodyPost_ret (res_one rfl (.cell (w.heap.size + 1 + 1) _ _ _ rfl hB Try.underlying38 rfl (by kernel_rfl) .nil)) rfl ?_
  exact hX
set_option maxHeartbeats 4000000 in
theorem rlook_is (G : List Nat) (w0 w : World) (start key now : Int) (q : Int × Int) (v : Value) (R : List Row) (h : RTS G w0 v R) (t0 : Turns [] w0 w) (hri : Rise R) (hn : (rwAt start R key).out.length ≤ 100000) : Calls Try.prog 15 #[.agg #[.int .i64 start, v], .int .i64 key, .int .i64 now, .agg #[.int .i64 q.1, .int .i64 q.2]] w fun e w' => ∃ x : Rw, e = .returned x.v ∧ RowS G w0 x (lookR start R key now q) ∧ Turns [] w w' := by
  obtain ⟨A, c, rfl, hlc, hcm⟩ := h.rt.form
  have hF := Lib.hid (fun W (t : Turns [] w W) => rfind_is G w0 W start key (.slice A R.length c) R h (t0.trans t) hri)
  have H := (((Sep.start w).alloc #[.int .i64 start, .slice A R.length c] 24).alloc #[.int .i64 q.1, .int .i64 q.2] 44).alloc #[.int .i64 0, .int .i64 0, .int .i64 0, .slice none 0 0] 38
  rw [World.size_alloc, World.size_alloc] at H
  obtain ⟨r, hr⟩ : ∃ r, rwAt start R key = r := ⟨_, rfl⟩
  unfold lookR
  rw [hr] at hF hn ⊢
  obtain ⟨X, hX⟩ : ∃ X : Ending → World → Prop, X = fun e w' => ∃ x : Rw, e = .returned x.v ∧ RowS G w0 x (mintedR r now q) ∧ Turns [] w w' := ⟨_, rfl⟩
  rw [← hX]
  have hXh : Hid (∀ w' x, RowS G w0 x (mintedR r now q) → Turns [] w w' → X (.returned x.v) w') := Lib.hid (fun w' x h1 h2 => by rw [hX]; exact ⟨x, rfl, h1, h2⟩)
  have c0 : World.cell? (((w.alloc (.cells #[.int .i64 start, .slice A R.length c] 24)).alloc (.cells #[.int .i64 q.1, .int .i64 q.2] 44)).alloc (.cells #[.int .i64 0, .int .i64 0, .int .i64 0, .slice none 0 0] 38)) ⟨w.heap.size, 0, none⟩ = some _ := (H.blk 2 rfl).cell 0
  have c1 : World.cell? (((w.alloc (.cells #[.int .i64 start, .slice A R.length c] 24)).alloc (.cells #[.int .i64 q.1, .int .i64 q.2] 44)).alloc (.cells #[.int .i64 0, .int .i64 0, .int .i64 0, .slice none 0 0] 38)) ⟨w.heap.size, 1, none⟩ = some _ := (H.blk 2 rfl).cell 1
  have Hh := Lib.hid H
  have t0h := Lib.hid t0
  clear h H hX hr t0
  go_enter Try.func15, Try.ntmps15
  go_wp2_with fail
  go_at_call 12
  refine Calls.mono (hF.out _ Hh.out.t) ?_
  rintro e w1 ⟨x, rfl, hx, t1⟩
  obtain ⟨Ao, co, rfl, ho⟩ := row_form hx.row
  simp only [Rw.v]
  have H := (Hh.out.turns t1).alloc #[.int .i64 r.key, .int .i64 r.avail, .int .i64 r.mark, .slice Ao r.out.length co] 38
  have M1 := minted_is G w0 _ now q _ r hx (t0h.out.trans H.t) hn
  have M1h := Lib.hid M1
  have d0 : World.cell? (w1.alloc (.cells #[.int .i64 r.key, .int .i64 r.avail, .int .i64 r.mark, .slice Ao r.out.length co] 38)) ⟨w.heap.size + 1, 0, none⟩ = some _ := (H.blk 2 rfl).cell 0
  have d1 : World.cell? (w1.alloc (.cells #[.int .i64 r.key, .int .i64 r.avail, .int .i64 r.mark, .slice Ao r.out.length co] 38)) ⟨w.heap.size + 1, 1, none⟩ = some _ := (H.blk 2 rfl).cell 1
  have HH := Lib.hid H
  simp only [Rw.v] at M1h
  clear c0 c1 Hh hF t1 hx ho H M1
  go_wp2_with fail
  go_at_call 42
  refine Calls.mono (M1h.out) ?_
  rintro e w2 ⟨y, rfl, hy, t2⟩
  have H2 := HH.out.turns t2
  obtain ⟨Ay, cy, rfl, hoy⟩ := row_form hy.row
  simp only [Rw.v]
  obtain ⟨m, hm⟩ : ∃ m, mintedR r now q = m := ⟨_, rfl⟩
  rw [hm] at hXh hy hoy ⊢
  have z0 : World.cell? (w2) ⟨w.heap.size + 1 + 1, 0, none⟩ = some _ := (H2.blk 1 rfl).cell 0
  have zf0 : World.frozen? (w2) ⟨w.heap.size + 1 + 1, 0, none⟩ = false := (H2.blk 1 rfl).frozen 0
  have z1 : World.cell? (w2) ⟨w.heap.size + 1 + 1, 1, none⟩ = some _ := (H2.blk 1 rfl).cell 1
  have zf1 : World.frozen? (w2) ⟨w.heap.size + 1 + 1, 1, none⟩ = false := (H2.blk 1 rfl).frozen 1
  have z2 : World.cell? (w2) ⟨w.heap.size + 1 + 1, 2, none⟩ = some _ := (H2.blk 1 rfl).cell 2
  have zf2 : World.frozen? (w2) ⟨w.heap.size + 1 + 1, 2, none⟩ = false := (H2.blk 1 rfl).frozen 2
  have z3 : World.cell? (w2) ⟨w.heap.size + 1 + 1, 3, none⟩ = some _ := (H2.blk 1 rfl).cell 3
  have zf3 : World.frozen? (w2) ⟨w.heap.size + 1 + 1, 3, none⟩ = false := (H2.blk 1 rfl).frozen 3
  have HA := (((H2.set 1 rfl 0 (.int .i64 m.key)).set 1 rfl 1 (.int .i64 m.avail)).set 1 rfl 2 (.int .i64 m.mark)).set 1 rfl 3 (.slice Ay m.out.length cy)
  have hB := HA.blk 1 rfl
  have hX := hXh.out _ ⟨m.key, m.avail, m.mark, .slice Ay m.out.length cy⟩ hy HA.t
  clear HA H2 HH M1h hXh d0 d1 hm hy hoy t2
  go_wp2_with fail
  refine bodyPost_ret (res_one rfl (.cell (w.heap.size + 1 + 1) _ _ _ rfl hB Try.underlying38 rfl (by kernel_rfl) .nil)) rfl ?_
  exact hX
end Go.Proofs.Ytphhfdlhkginkaa.Bh
