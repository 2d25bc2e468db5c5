/- annonalaw10's alive. -/
import Derived.Test.YtmaielpfeajelaaTd
set_option linter.unusedVariables false
set_option linter.unusedSimpArgs false
set_option maxRecDepth 100000
namespace Go.Proofs.Ytmaielpfeajelaa.Te
open Go.RowKit Go.MapKept Go.Shelf Hm Hs Hf Hg Hv Hx Hy Sm Sat Ya Ta Tb Tc Td Rg Ss Re Rf
theorem a_L : freshL 3 1 20 = [-1, 20, -1] := rfl
theorem a_set : ([-1, 20, -1] : List Int).set 2 24 = [-1, 20, 24] := rfl
theorem a_tok : tokB 7 0 (freshL 3 1 20) 20 = true := by decide +kernel
theorem a_u1 : untilV [-1, 20, -1] 5 = -1 := by unfold untilV; rw [if_neg (by decide +kernel)]
theorem a_u2 : untilV [-1, 20, 24] 5 = 25 := by
  unfold untilV
  rw [if_pos (by decide +kernel), show rest [-1, 20, 24] = [20, 24] from by decide +kernel, show ([-1, 20, 24] : List Int).length / 2 + 1 = 2 from rfl, ← nth_only (l := [20, 24]) (m := 2) (y := 20) (by decide) (by decide) (by decide +kernel) (by decide +kernel)]
  decide +kernel
theorem v1 : decide (fit 20 ≤ untilV [-1, 20, -1] 5) = false := by rw [a_u1]; decide +kernel
theorem v2 : decide (fit 25 ≤ untilV [-1, 20, 24] 5) = true := by rw [a_u2]; decide +kernel
theorem v3 : decide (fit 26 ≤ untilV [-1, 20, 24] 5) = false := by rw [a_u2]; decide +kernel
theorem v4 : newerB 7 1 7 0 = true := by decide +kernel
set_option maxHeartbeats 8000000 in
theorem alive_is (w : World) : Calls Try.prog 16 #[] w fun e w' => e = .returned (.bool true) ∧ Turns [] w w' := by
  have e1 := fresh_ok 7 3 1 20 w (by decide) (by decide) (by decide) a_tok
  rw [a_L] at e1
  have e1h := Lib.hid e1
  clear e1
  go_enter Try.func16, Try.ntmps16
  go_wp2_with fail
  go_at_call 11
  refine Calls.mono (e1h.out) ?_
  rintro e w1 ⟨u, rfl, o1, t1, hb1⟩
  have H := ((Sep.start w).newSlice t1 o1 hb1)
  obtain ⟨A1, c1, hvv, _⟩ := formI o1
  rw [show ([-1, 20, -1] : List Int).length = 3 from rfl] at hvv
  subst hvv
  replace H := H.alloc #[.int .i64 7, .int .i64 0, .slice A1 3 c1, .int .i64 20, .slice none 0 0] 38
  have e2 := valid_is 7 0 20 20 5 _ _ _ (H.own 1 rfl).reads (by decide) (by decide)
  rw [v1] at e2
  have e2h := Lib.hid e2
  have Hh := Lib.hid H
  clear e2 H e1h o1 t1 hb1
  go_wp2_with fail
  go_at_call 22
  refine Calls.mono (e2h.out) ?_
  rintro e w2 ⟨rfl, t2⟩
  have H := Hh.out.turns t2
  have b0 : World.cell? (w2) ⟨w1.heap.size, 0, none⟩ = some _ := (H.blk 0 rfl).cell 0
  have b1 : World.cell? (w2) ⟨w1.heap.size, 1, none⟩ = some _ := (H.blk 0 rfl).cell 1
  have b2 : World.cell? (w2) ⟨w1.heap.size, 2, none⟩ = some _ := (H.blk 0 rfl).cell 2
  have b3 : World.cell? (w2) ⟨w1.heap.size, 3, none⟩ = some _ := (H.blk 0 rfl).cell 3
  have b4 : World.cell? (w2) ⟨w1.heap.size, 4, none⟩ = some _ := (H.blk 0 rfl).cell 4
  have e3 := stamp_ok 7 0 20 _ _ 2 24 w2 (H.own 1 rfl).reads (by decide) (by decide) (by decide)
  rw [a_set] at e3
  have e3h := Lib.hid e3
  have Hh := Lib.hid H
  clear e3 H e2h t2
  go_wp2_with fail
  go_at_call 32
  refine Calls.mono (e3h.out) ?_
  rintro e w3 ⟨u, rfl, o3, t3, hb3⟩
  have H := (Hh.out.newSlice t3 o3 hb3)
  obtain ⟨A2, c2, hvv, _⟩ := formI o3
  rw [show ([-1, 20, 24] : List Int).length = 3 from rfl] at hvv
  subst hvv
  replace H := H.alloc #[.int .i64 7, .int .i64 0, .slice A2 3 c2, .int .i64 20, .slice none 0 0] 38
  have e4 := Lib.hid (pass_is 7 0 20 A2 3 c2 none 0 0 (w3.alloc (.cells #[.int .i64 7, .int .i64 0, .slice A2 3 c2, .int .i64 20, .slice none 0 0] 38)) (by decide) (fun W t => (clone0_is 7 0 20 _ _ W ((H.own 1 rfl).reads.mv (fun a u => t.old)) (by decide)).mono (fun e w' ⟨u, h1, h2, h3, h4⟩ => by
    obtain ⟨A, c, hv, _⟩ := formI h2
    exact ⟨A, _, c, none, 0, 0, by rw [h1, hv], h3⟩)))
  have Hh := Lib.hid H
  clear H e3h t3 o3 hb3 b0 b1 b2 b3 b4
  go_wp2_with fail
  go_at_call 18
  refine Calls.mono (e4.out) ?_
  rintro e w4 ⟨A3, n3, c3, B3, k3, d3, rfl, t4⟩
  have H := ((Hh.out.turns t4).alloc #[.int .i64 7, .int .i64 1, .slice A3 n3 c3, .int .i64 20, .slice B3 k3 d3] 38).drew
  have TH := H.t
  have hu2 := Lib.hid (H.own 2 rfl).reads
  obtain ⟨ad, cc, hvv, ru⟩ := Ta.icell (H.own 4 rfl).reads (j := 2) (x := -1) rfl
  injection hvv with z1 z2 z3
  subst z1 z3
  rw [show ad.add 2 = ⟨ad.block, ad.off + 2, none⟩ from by rw [show (2 : Nat) = 0 + 2 from rfl, add_field ad 0 2 (by decide)]; simp [Addr.add]] at ru
  have p0 : (w4.alloc (.cells #[.int .i64 7, .int .i64 1, .slice A3 n3 c3, .int .i64 20, .slice B3 k3 d3] 38)).drew.cell? ⟨w3.heap.size, 0, none⟩ = some (.int .i64 7) := (H.blk 1 rfl).cell 0
  have p1 : (w4.alloc (.cells #[.int .i64 7, .int .i64 1, .slice A3 n3 c3, .int .i64 20, .slice B3 k3 d3] 38)).drew.cell? ⟨w3.heap.size, 1, none⟩ = some (.int .i64 0) := (H.blk 1 rfl).cell 1
  have p2 : (w4.alloc (.cells #[.int .i64 7, .int .i64 1, .slice A3 n3 c3, .int .i64 20, .slice B3 k3 d3] 38)).drew.cell? ⟨w3.heap.size, 2, none⟩ = some (.slice A2 3 c2) := (H.blk 1 rfl).cell 2
  have p3 : (w4.alloc (.cells #[.int .i64 7, .int .i64 1, .slice A3 n3 c3, .int .i64 20, .slice B3 k3 d3] 38)).drew.cell? ⟨w3.heap.size, 3, none⟩ = some (.int .i64 20) := (H.blk 1 rfl).cell 3
  have p4 : (w4.alloc (.cells #[.int .i64 7, .int .i64 1, .slice A3 n3 c3, .int .i64 20, .slice B3 k3 d3] 38)).drew.cell? ⟨w3.heap.size, 4, none⟩ = some (.slice none 0 0) := (H.blk 1 rfl).cell 4
  have q0 : (w4.alloc (.cells #[.int .i64 7, .int .i64 1, .slice A3 n3 c3, .int .i64 20, .slice B3 k3 d3] 38)).drew.cell? ⟨w4.heap.size, 0, none⟩ = some (.int .i64 7) := (H.blk 0 rfl).cell 0
  have q1 : (w4.alloc (.cells #[.int .i64 7, .int .i64 1, .slice A3 n3 c3, .int .i64 20, .slice B3 k3 d3] 38)).drew.cell? ⟨w4.heap.size, 1, none⟩ = some (.int .i64 1) := (H.blk 0 rfl).cell 1
  have q2 : (w4.alloc (.cells #[.int .i64 7, .int .i64 1, .slice A3 n3 c3, .int .i64 20, .slice B3 k3 d3] 38)).drew.cell? ⟨w4.heap.size, 2, none⟩ = some (.slice A3 n3 c3) := (H.blk 0 rfl).cell 2
  have q3 : (w4.alloc (.cells #[.int .i64 7, .int .i64 1, .slice A3 n3 c3, .int .i64 20, .slice B3 k3 d3] 38)).drew.cell? ⟨w4.heap.size, 3, none⟩ = some (.int .i64 20) := (H.blk 0 rfl).cell 3
  have q4 : (w4.alloc (.cells #[.int .i64 7, .int .i64 1, .slice A3 n3 c3, .int .i64 20, .slice B3 k3 d3] 38)).drew.cell? ⟨w4.heap.size, 4, none⟩ = some (.slice B3 k3 d3) := (H.blk 0 rfl).cell 4
  have r2 : (w4.alloc (.cells #[.int .i64 7, .int .i64 1, .slice A3 n3 c3, .int .i64 20, .slice B3 k3 d3] 38)).drew.cell? ⟨w1.heap.size, 2, none⟩ = some (.slice (some ad) 3 c1) := (H.blk 3 rfl).cell 2
  have r3 : (w4.alloc (.cells #[.int .i64 7, .int .i64 1, .slice A3 n3 c3, .int .i64 20, .slice B3 k3 d3] 38)).drew.cell? ⟨w1.heap.size, 3, none⟩ = some (.int .i64 20) := (H.blk 3 rfl).cell 3
  clear H Hh t4 e4 z2
  go_wp2_with fail
  go_wp2_with fail
  refine wp_region_flo [(0, true), (1, true), (2, true), (3, true), (4, true), (5, true), (6, true), (7, true), (8, true), (9, true), (10, true), (11, true), (12, false), (13, true), (14, true), (15, true), (16, true), (17, false), (18, true), (19, true), (20, true), (21, false), (22, true), (23, true), (24, true), (25, true), (26, true), (27, true), (28, true), (29, true), (30, true), (31, true), (32, true), (33, true), (34, true), (36, true), (35, false), (37, false), (38, false), (39, true), (40, true), (41, true), (42, true), (43, true), (44, true), (45, true), (46, true), (47, true), (48, true), (49, true), (50, true), (51, true), (52, true), (53, true)] (fun W => Turns [] (w4.alloc (.cells #[.int .i64 7, .int .i64 1, .slice A3 n3 c3, .int .i64 20, .slice B3 k3 d3] 38)).drew W) (by kernel_rfl) rfl (by kernel_rfl) (by intro c d v a w h; cases d <;> first | (simpa [Exit.then, Exit.inBlock, Act.put] using h) | exact h) (Turns.refl _ _) ?_
  generalize (w4.alloc (.cells #[.int .i64 7, .int .i64 1, .slice A3 n3 c3, .int .i64 20, .slice B3 k3 d3] 38)).drew = w5 at *
  refine flo_read _ rfl (fun K hK => ?_)
  go_simp
  first | (refine hK _ ?_) | (refine ⟨fun W hS => ?_, hK _ ?_⟩; · (skip; try go_simp))
  clear hK K
  refine flo_read _ rfl (fun K hK => ?_)
  go_simp
  first | (refine hK _ ?_) | (refine ⟨fun W hS => ?_, hK _ ?_⟩; · (skip; try go_simp))
  clear hK K
  refine flo_read _ rfl (fun K hK => ?_)
  go_simp
  first | (refine hK _ ?_) | (refine ⟨fun W hS => ?_, hK _ ?_⟩; · (skip; try go_simp))
  clear hK K
  refine flo_read _ rfl (fun K hK => ?_)
  go_simp
  first | (refine hK _ ?_) | (refine ⟨fun W hS => ?_, hK _ ?_⟩; · (skip; try go_simp))
  clear hK K
  refine flo_read _ rfl (fun K hK => ?_)
  go_simp
  first | (refine hK _ ?_) | (refine ⟨fun W hS => ?_, hK _ ?_⟩; · (skip; try go_simp))
  clear hK K
  refine flo_read _ rfl (fun K hK => ?_)
  go_simp
  first | (refine hK _ ?_) | (refine ⟨fun W hS => ?_, hK _ ?_⟩; · (skip; try go_simp))
  clear hK K
  refine flo_read _ rfl (fun K hK => ?_)
  go_simp
  first | (refine hK _ ?_) | (refine ⟨fun W hS => ?_, hK _ ?_⟩; · (skip; try go_simp))
  clear hK K
  refine flo_read _ rfl (fun K hK => ?_)
  go_simp
  first | (refine hK _ ?_) | (refine ⟨fun W hS => ?_, hK _ ?_⟩; · (skip; try go_simp))
  clear hK K
  refine flo_read _ rfl (fun K hK => ?_)
  go_simp
  first | (refine hK _ ?_) | (refine ⟨fun W hS => ?_, hK _ ?_⟩; · (skip; try go_simp))
  clear hK K
  refine flo_read _ rfl (fun K hK => ?_)
  go_simp
  first | (refine hK _ ?_) | (refine ⟨fun W hS => ?_, hK _ ?_⟩; · (skip; try go_simp))
  clear hK K
  refine flo_read _ rfl (fun K hK => ?_)
  go_simp
  first | (refine hK _ ?_) | (refine ⟨fun W hS => ?_, hK _ ?_⟩; · (skip; try go_simp))
  clear hK K
  refine flo_read _ rfl (fun K hK => ?_)
  go_simp
  first | (refine hK _ ?_) | (refine ⟨fun W hS => ?_, hK _ ?_⟩; · (have xp0 := hS.old p0; have xp1 := hS.old p1; have xp2 := hS.old p2; have xp3 := hS.old p3; have xp4 := hS.old p4; try go_simp))
  clear hK K
  have eU := until_is 7 0 20 5 _ _ w5 hu2.out (by decide) (by decide)
  rw [a_u2] at eU
  have eUh := Lib.hid eU
  clear eU
  refine flo_alone _ rfl ?_
  go_wp2_with fail
  go_at_call 37
  refine Calls.mono (eUh.out) ?_
  rintro e w6 ⟨rfl, t6⟩
  go_wp2_with fail
  refine ⟨fun W => Turns [] w6 W, fun W h => t6.trans h, Turns.refl _ _, ?_⟩
  have p0' := t6.old p0
  have p1' := t6.old p1
  have p2' := t6.old p2
  have p3' := t6.old p3
  have p4' := t6.old p4
  have q0' := t6.old q0
  have q1' := t6.old q1
  have q2' := t6.old q2
  have q3' := t6.old q3
  have q4' := t6.old q4
  have r2' := t6.old r2
  have r3' := t6.old r3
  have ru' := t6.old ru
  clear p0 p1 p2 p3 p4 q0 q1 q2 q3 q4 r2 r3 ru
  have p0 := p0'
  have p1 := p1'
  have p2 := p2'
  have p3 := p3'
  have p4 := p4'
  have q0 := q0'
  have q1 := q1'
  have q2 := q2'
  have q3 := q3'
  have q4 := q4'
  have r2 := r2'
  have r3 := r3'
  have ru := ru'
  clear p0' p1' p2' p3' p4' q0' q1' q2' q3' q4' r2' r3' ru'
  have T6 := TH.trans t6
  have rd6 := Lib.hid (hu2.out.mv (fun a u => t6.old))
  clear t6 TH hu2 eUh
  refine flo_read _ rfl (fun K hK => ?_)
  go_simp
  first | (refine hK _ ?_) | (refine ⟨fun W hS => ?_, hK _ ?_⟩; · (skip; try go_simp))
  clear hK K
  refine flo_read _ rfl (fun K hK => ?_)
  go_simp
  first | (refine hK _ ?_) | (refine ⟨fun W hS => ?_, hK _ ?_⟩; · (skip; try go_simp))
  clear hK K
  refine flo_read _ rfl (fun K hK => ?_)
  go_simp
  first | (refine hK _ ?_) | (refine ⟨fun W hS => ?_, hK _ ?_⟩; · (skip; try go_simp))
  clear hK K
  refine flo_read _ rfl (fun K hK => ?_)
  go_simp
  first | (refine hK _ ?_) | (refine ⟨fun W hS => ?_, hK _ ?_⟩; · (have xp0 := hS.old p0; have xp1 := hS.old p1; have xp2 := hS.old p2; have xp3 := hS.old p3; have xp4 := hS.old p4; try go_simp))
  clear hK K
  have eV := valid_is 7 0 20 25 5 _ _ w6 rd6.out (by decide) (by decide)
  rw [v2] at eV
  have eVh := Lib.hid eV
  clear eV
  refine flo_alone _ rfl ?_
  go_wp2_with fail
  go_at_call 22
  refine Calls.mono (eVh.out) ?_
  rintro e w7 ⟨rfl, t7⟩
  go_wp2_with fail
  refine ⟨fun W => Turns [] w7 W, fun W h => t7.trans h, Turns.refl _ _, ?_⟩
  have p0' := t7.old p0
  have p1' := t7.old p1
  have p2' := t7.old p2
  have p3' := t7.old p3
  have p4' := t7.old p4
  have q0' := t7.old q0
  have q1' := t7.old q1
  have q2' := t7.old q2
  have q3' := t7.old q3
  have q4' := t7.old q4
  have r2' := t7.old r2
  have r3' := t7.old r3
  have ru' := t7.old ru
  clear p0 p1 p2 p3 p4 q0 q1 q2 q3 q4 r2 r3 ru
  have p0 := p0'
  have p1 := p1'
  have p2 := p2'
  have p3 := p3'
  have p4 := p4'
  have q0 := q0'
  have q1 := q1'
  have q2 := q2'
  have q3 := q3'
  have q4 := q4'
  have r2 := r2'
  have r3 := r3'
  have ru := ru'
  clear p0' p1' p2' p3' p4' q0' q1' q2' q3' q4' r2' r3' ru'
  have T7 := T6.trans t7
  have rd7 := Lib.hid (rd6.out.mv (fun a u => t7.old))
  clear t7 T6 rd6 eVh
  refine flo_read _ rfl (fun K hK => ?_)
  go_simp
  first | (refine hK _ ?_) | (refine ⟨fun W hS => ?_, hK _ ?_⟩; · (skip; try go_simp))
  clear hK K
  refine flo_read _ rfl (fun K hK => ?_)
  go_simp
  first | (refine hK _ ?_) | (refine ⟨fun W hS => ?_, hK _ ?_⟩; · (skip; try go_simp))
  clear hK K
  refine flo_read _ rfl (fun K hK => ?_)
  go_simp
  first | (refine hK _ ?_) | (refine ⟨fun W hS => ?_, hK _ ?_⟩; · (have xp0 := hS.old p0; have xp1 := hS.old p1; have xp2 := hS.old p2; have xp3 := hS.old p3; have xp4 := hS.old p4; try go_simp))
  clear hK K
  have eX := valid_is 7 0 20 26 5 _ _ w7 rd7.out (by decide) (by decide)
  rw [v3] at eX
  have eXh := Lib.hid eX
  clear eX
  refine flo_alone _ rfl ?_
  go_wp2_with fail
  go_at_call 22
  refine Calls.mono (eXh.out) ?_
  rintro e w8 ⟨rfl, t8⟩
  go_wp2_with fail
  refine ⟨fun W => Turns [] w8 W, fun W h => t8.trans h, Turns.refl _ _, ?_⟩
  have p0' := t8.old p0
  have p1' := t8.old p1
  have p2' := t8.old p2
  have p3' := t8.old p3
  have p4' := t8.old p4
  have q0' := t8.old q0
  have q1' := t8.old q1
  have q2' := t8.old q2
  have q3' := t8.old q3
  have q4' := t8.old q4
  have r2' := t8.old r2
  have r3' := t8.old r3
  have ru' := t8.old ru
  clear p0 p1 p2 p3 p4 q0 q1 q2 q3 q4 r2 r3 ru
  have p0 := p0'
  have p1 := p1'
  have p2 := p2'
  have p3 := p3'
  have p4 := p4'
  have q0 := q0'
  have q1 := q1'
  have q2 := q2'
  have q3 := q3'
  have q4 := q4'
  have r2 := r2'
  have r3 := r3'
  have ru := ru'
  clear p0' p1' p2' p3' p4' q0' q1' q2' q3' q4' r2' r3' ru'
  have T8 := T7.trans t8
  clear t8 T7 rd7 eXh
  refine flo_read _ rfl (fun K hK => ?_)
  go_simp
  first | (refine hK _ ?_) | (refine ⟨fun W hS => ?_, hK _ ?_⟩; · (skip; try go_simp))
  clear hK K
  refine flo_read _ rfl (fun K hK => ?_)
  go_simp
  first | (refine hK _ ?_) | (refine ⟨fun W hS => ?_, hK _ ?_⟩; · (skip; try go_simp))
  clear hK K
  refine flo_read _ rfl (fun K hK => ?_)
  go_simp
  first | (refine hK _ ?_) | (refine ⟨fun W hS => ?_, hK _ ?_⟩; · (skip; try go_simp))
  clear hK K
  refine flo_read _ rfl (fun K hK => ?_)
  go_simp
  first | (refine hK _ ?_) | (refine ⟨fun W hS => ?_, hK _ ?_⟩; · (skip; try go_simp))
  clear hK K
  refine flo_read _ rfl (fun K hK => ?_)
  go_simp
  first | (refine hK _ ?_) | (refine ⟨fun W hS => ?_, hK _ ?_⟩; · (skip; try go_simp))
  clear hK K
  refine flo_read _ rfl (fun K hK => ?_)
  go_simp
  first | (refine hK _ ?_) | (refine ⟨fun W hS => ?_, hK _ ?_⟩; · (skip; try go_simp))
  clear hK K
  refine flo_read _ rfl (fun K hK => ?_)
  go_simp
  first | (refine hK _ ?_) | (refine ⟨fun W hS => ?_, hK _ ?_⟩; · (skip; try go_simp))
  clear hK K
  refine flo_read _ rfl (fun K hK => ?_)
  go_simp
  first | (refine hK _ ?_) | (refine ⟨fun W hS => ?_, hK _ ?_⟩; · (have xq1 := hS.old q1; try go_simp))
  clear hK K
  refine flo_read _ rfl (fun K hK => ?_)
  go_simp
  first | (refine hK _ ?_) | (refine ⟨fun W hS => ?_, hK _ ?_⟩; · (have xq1 := hS.old q1; try go_simp))
  clear hK K
  refine flo_read _ rfl (fun K hK => ?_)
  go_simp
  first | (refine hK _ ?_) | (refine ⟨fun W hS => ?_, hK _ ?_⟩; · (skip; try go_simp))
  clear hK K
  refine flo_read _ rfl (fun K hK => ?_)
  go_simp
  first | (refine hK _ ?_) | (refine ⟨fun W hS => ?_, hK _ ?_⟩; · (skip; try go_simp))
  clear hK K
  refine flo_read _ rfl (fun K hK => ?_)
  go_simp
  first | (refine hK _ ?_) | (refine ⟨fun W hS => ?_, hK _ ?_⟩; · (skip; try go_simp))
  clear hK K
  refine flo_read _ rfl (fun K hK => ?_)
  go_simp
  first | (refine hK _ ?_) | (refine ⟨fun W hS => ?_, hK _ ?_⟩; · (have xq0 := hS.old q0; have xq1 := hS.old q1; have xq2 := hS.old q2; have xq3 := hS.old q3; have xq4 := hS.old q4; try go_simp))
  clear hK K
  refine flo_read _ rfl (fun K hK => ?_)
  go_simp
  first | (refine hK _ ?_) | (refine ⟨fun W hS => ?_, hK _ ?_⟩; · (have xp0 := hS.old p0; have xp1 := hS.old p1; have xp2 := hS.old p2; have xp3 := hS.old p3; have xp4 := hS.old p4; try go_simp))
  clear hK K
  refine flo_alone _ rfl ?_
  go_wp2_with fail
  go_at_call 19
  refine Calls.mono (at_is 7 1 20 A3 n3 c3 B3 k3 d3 w8) ?_
  rintro e w9 ⟨rfl, t9⟩
  go_wp2_with fail
  refine ⟨fun W => Turns [] w9 W, fun W h => t9.trans h, Turns.refl _ _, ?_⟩
  refine flo_alone _ rfl ?_
  go_wp2_with fail
  go_at_call 19
  refine Calls.mono (at_is 7 0 20 A2 3 c2 none 0 0 w9) ?_
  rintro e w10 ⟨rfl, t10⟩
  go_wp2_with fail
  refine ⟨fun W => Turns [] w10 W, fun W h => t10.trans h, Turns.refl _ _, ?_⟩
  have eN := newer_is 7 1 7 0 w10
  rw [show newerB 7 1 7 0 = true from v4] at eN
  have eNh := Lib.hid eN
  clear eN
  refine flo_alone _ rfl ?_
  go_wp2_with fail
  go_at_call 14
  refine Calls.mono (eNh.out) ?_
  rintro e w11 ⟨rfl, t11⟩
  go_wp2_with fail
  refine ⟨fun W => Turns [] w11 W, fun W h => t11.trans h, Turns.refl _ _, ?_⟩
  have T11 := ((T8.trans t9).trans t10).trans t11
  have tt := (t9.trans t10).trans t11
  have r2' := tt.old r2
  have r3' := tt.old r3
  have ru' := tt.old ru
  clear r2 r3 ru
  have r2 := r2'
  have r3 := r3'
  have ru := ru'
  clear r2' r3' ru'
  clear T8 t9 t10 t11 tt eNh
  refine flo_read _ rfl (fun K hK => ?_)
  go_simp
  first | (refine hK _ ?_) | (refine ⟨fun W hS => ?_, hK _ ?_⟩; · (have xr2 := hS.old r2; have xr3 := hS.old r3; have xru := hS.old ru; try go_simp))
  clear hK K
  refine flo_read _ rfl (fun K hK => ?_)
  go_simp
  first | (refine hK _ ?_) | (refine ⟨fun W hS => ?_, hK _ ?_⟩; · (have xr2 := hS.old r2; have xr3 := hS.old r3; have xru := hS.old ru; try go_simp))
  clear hK K
  refine flo_read _ rfl (fun K hK => ?_)
  go_simp
  first | (refine hK _ ?_) | (refine ⟨fun W hS => ?_, hK _ ?_⟩; · (have xr2 := hS.old r2; have xr3 := hS.old r3; have xru := hS.old ru; try go_simp))
  clear hK K
  refine flo_read _ rfl (fun K hK => ?_)
  go_simp
  first | (refine hK _ ?_) | (refine ⟨fun W hS => ?_, hK _ ?_⟩; · (have xr2 := hS.old r2; have xr3 := hS.old r3; have xru := hS.old ru; try go_simp))
  clear hK K
  refine flo_read _ rfl (fun K hK => ?_)
  go_simp
  first | (refine hK _ ?_) | (refine ⟨fun W hS => ?_, hK _ ?_⟩; · (have xr2 := hS.old r2; have xr3 := hS.old r3; have xru := hS.old ru; try go_simp))
  clear hK K
  refine flo_read _ rfl (fun K hK => ?_)
  go_simp
  first | (refine hK _ ?_) | (refine ⟨fun W hS => ?_, hK _ ?_⟩; · (have xr2 := hS.old r2; have xr3 := hS.old r3; have xru := hS.old ru; try go_simp))
  clear hK K
  refine flo_read _ rfl (fun K hK => ?_)
  go_simp
  first | (refine hK _ ?_) | (refine ⟨fun W hS => ?_, hK _ ?_⟩; · (have xr2 := hS.old r2; have xr3 := hS.old r3; have xru := hS.old ru; try go_simp))
  clear hK K
  refine flo_read _ rfl (fun K hK => ?_)
  go_simp
  first | (refine hK _ ?_) | (refine ⟨fun W hS => ?_, hK _ ?_⟩; · (have xr2 := hS.old r2; have xr3 := hS.old r3; have xru := hS.old ru; try go_simp))
  clear hK K
  refine flo_read _ rfl (fun K hK => ?_)
  go_simp
  first | (refine hK _ ?_) | (refine ⟨fun W hS => ?_, hK _ ?_⟩; · (have xr2 := hS.old r2; have xr3 := hS.old r3; have xru := hS.old ru; try go_simp))
  clear hK K
  refine flo_read _ rfl (fun K hK => ?_)
  go_simp
  first | (refine hK _ ?_) | (refine ⟨fun W hS => ?_, hK _ ?_⟩; · (have xr2 := hS.old r2; have xr3 := hS.old r3; have xru := hS.old ru; try go_simp))
  clear hK K
  refine flo_read _ rfl (fun K hK => ?_)
  go_simp
  first | (refine hK _ ?_) | (refine ⟨fun W hS => ?_, hK _ ?_⟩; · (have xr2 := hS.old r2; have xr3 := hS.old r3; have xru := hS.old ru; try go_simp))
  clear hK K
  refine flo_read _ rfl (fun K hK => ?_)
  go_simp
  first | (refine hK _ ?_) | (refine ⟨fun W hS => ?_, hK _ ?_⟩; · (have xr2 := hS.old r2; have xr3 := hS.old r3; have xru := hS.old ru; try go_simp))
  clear hK K
  refine flo_read _ rfl (fun K hK => ?_)
  go_simp
  first | (refine hK _ ?_) | (refine ⟨fun W hS => ?_, hK _ ?_⟩; · (have xr2 := hS.old r2; have xr3 := hS.old r3; have xru := hS.old ru; try go_simp))
  clear hK K
  refine flo_read _ rfl (fun K hK => ?_)
  go_simp
  first | (refine hK _ ?_) | (refine ⟨fun W hS => ?_, hK _ ?_⟩; · (have xr2 := hS.old r2; have xr3 := hS.old r3; have xru := hS.old ru; try go_simp))
  clear hK K
  refine flo_read _ rfl (fun K hK => ?_)
  go_simp
  first | (refine hK _ ?_) | (refine ⟨fun W hS => ?_, hK _ ?_⟩; · (have xr2 := hS.old r2; have xr3 := hS.old r3; have xru := hS.old ru; try go_simp))
  clear hK K
  refine flo_end ?_
  go_wp2_with fail
  go_ret
  exact ⟨rfl, T11⟩
end Go.Proofs.Ytmaielpfeajelaa.Te
