/- The document's Idle. -/
import Derived.Test.YtphhfdlhkginkaaBn
set_option linter.unusedVariables false
set_option linter.unusedSimpArgs false
set_option maxRecDepth 100000
namespace Go.Proofs.Ytphhfdlhkginkaa.Bp
open Go.RowKit Go.MapKept Hm Hs Hr Hb Hf Hx Hy Hv Fa Ff Ba Bc Cf Cn Sm Sat Mu Mv Ca Cb Bn
theorem rts_at {w : World} {v : Value} {l : List (Int × Int)} {j : Nat} {p : Int × Int} (h : RdS 2 w v (rts l)) (hj : l[j]? = some p) : ∃ ad c, v = .slice (some ad) l.length c ∧ LsCells w ad (j * 2) p := by
  obtain ⟨ad, c, hv, _, hc⟩ := h.at_ (j := j) (r := [.int .i64 p.1, .int .i64 p.2]) (by unfold rts; rw [List.getElem?_map, hj]; rfl)
  rw [rts_len] at hv
  have c0 := hc 0 _ rfl
  have c1 := hc 1 _ rfl
  rw [Nat.add_zero] at c0
  rw [add_field _ _ _ (by omega)] at c1
  exact ⟨ad, c, hv, ⟨c0, c1⟩⟩
set_option maxHeartbeats 8000000 in
theorem ridle_is (w : World) (start now : Int) (v : Value) (R : List Row) (x : Rw) (r : Row) (c : Cfg) (h : RT w v R) (hx : RowIs w x r) (hr : RdS 2 w c.rv (rts c.rates)) : Calls Try.prog 25 #[.agg #[.int .i64 start, v], x.v, .int .i64 now, c.v] w fun e w' => e = .returned (.bool (idleR start (cfg c) now r)) ∧ Turns [] w w' := by
  obtain ⟨Ao, co, rfl, ho⟩ := row_form hx
  obtain ⟨A, cc, rfl, hlc, hcm⟩ := h.form
  have hR1 := Lib.hid (fun W q (t : Turns [] w W) h => drate_some W c r.key q (hr.mv (fun a u => t.old)) h)
  have hR2 := Lib.hid (fun W (t : Turns [] w W) h => drate_none W c r.key (hr.mv (fun a u => t.old)) h)
  obtain ⟨Ar, cr, hrv, hlr, hcr⟩ := hr.form
  rw [rts_len] at hrv hlr
  obtain ⟨n, skew, ttl, valid, loss, hear, keys, queue, rv, rates⟩ := c
  simp only at hrv hlr hR1 hR2 hr
  subst hrv
  unfold Cfg.v at hR1 hR2 ⊢
  simp only at hR1 hR2 ⊢
  unfold Rw.v
  simp only
  have H := (((Sep.start w).alloc #[.int .i64 start, .slice A R.length cc] 24).alloc #[.int .i64 r.key, .int .i64 r.avail, .int .i64 r.mark, .slice Ao r.out.length co] 38).alloc #[.int .i64 n, .int .i64 skew, .int .i64 ttl, .int .i64 valid, .int .i64 loss, .int .i64 hear, .int .i64 keys, .int .i64 queue, .slice Ar rates.length cr] 27
  rw [World.size_alloc, World.size_alloc] at H
  have Hh := Lib.hid H
  have hrh := Lib.hid hr
  obtain ⟨C, hC⟩ : ∃ C : Cfg, C = ⟨n, skew, ttl, valid, loss, hear, keys, queue, .slice Ar rates.length cr, rates⟩ := ⟨_, rfl⟩
  rw [← hC] at hR1 hR2 ⊢
  have hsk : (cfg C).skew = skew := by rw [hC]; rfl
  have hrt : C.rates = rates := by rw [hC]
  try rw [hrt] at hR1
  clear h hx hr ho H hC hrt
  have I1 := Lib.hid (fun w => two_is skew skew w)
  generalize hs1 : two skew skew = s1 at *
  have I2 := Lib.hid (fun w => rsub_is now s1 w)
  generalize hs2 : sub now s1 = s2 at *
  cases hq : rateR (cfg C) r.key with
  | none =>
    rw [idle_no hq]
    have hR := Lib.hid (hR2.out _ Hh.out.t hq)
    clear hR1 hR2 hq hsk hs1 hs2
    go_enter Try.func25, Try.ntmps25
    go_wp2_with fail
    go_at_call 26
    refine Calls.mono (hR.out) ?_
    rintro e w1 ⟨rfl, t1⟩
    have H1 := Lib.hid (Hh.out.turns t1)
    have a1 : World.cell? (w1) ⟨w.heap.size + 1 + 1, 1, none⟩ = some _ := (H1.out.blk 0 rfl).cell 1
    go_wp2_with fail
    go_at_call 22
    refine Calls.mono (I1.out _) ?_
    rintro e w2 ⟨rfl, t2⟩
    go_wp2_with fail
    go_at_call 48
    refine Calls.mono (I2.out _) ?_
    rintro e w3 ⟨rfl, t3⟩
    have H3 := Lib.hid ((H1.out.turns (t2.trans t3)).drew)
    clear a1 t1 t2 t3 H1
    go_wp2_with fail
    go_wp2_with fail
    refine wp_region_flo [(0, true), (1, true), (2, true), (3, true), (4, true), (5, true), (6, true), (7, true), (8, true), (9, true), (10, true), (11, true), (12, true), (13, true), (14, true), (15, true), (16, true), (17, true), (18, true), (19, true), (20, true), (21, true), (22, true), (23, true), (24, true)] (fun W => W = w3.drew) (by kernel_rfl) rfl (by kernel_rfl) (by intro c d v a w h; cases d <;> first | (simpa [Exit.then, Exit.inBlock, Act.put] using h) | exact h) (rfl) ?_
    generalize w3.drew = w4 at *
    have a8 : World.cell? (w4) ⟨w.heap.size + 1 + 1, 8, none⟩ = some _ := (H3.out.blk 0 rfl).cell 8
    have d0 : World.cell? (w4) ⟨w.heap.size + 1, 0, none⟩ = some _ := (H3.out.blk 1 rfl).cell 0
    have d1 : World.cell? (w4) ⟨w.heap.size + 1, 1, none⟩ = some _ := (H3.out.blk 1 rfl).cell 1
    have d2 : World.cell? (w4) ⟨w.heap.size + 1, 2, none⟩ = some _ := (H3.out.blk 1 rfl).cell 2
    have d3 : World.cell? (w4) ⟨w.heap.size + 1, 3, none⟩ = some _ := (H3.out.blk 1 rfl).cell 3
    have e0 : World.cell? (w4) ⟨w.heap.size, 0, none⟩ = some _ := (H3.out.blk 2 rfl).cell 0
    refine flo_read _ rfl (fun K hK => ?_)
    go_simp
    first | (refine hK _ ?_) | (refine ⟨fun W hS => ?_, hK _ ?_⟩; · (subst hS; try go_simp))
    clear hK K
    refine flo_read _ rfl (fun K hK => ?_)
    go_simp
    first | (refine hK _ ?_) | (refine ⟨fun W hS => ?_, hK _ ?_⟩; · (subst hS; try go_simp))
    clear hK K
    refine flo_read _ rfl (fun K hK => ?_)
    go_simp
    first | (refine hK _ ?_) | (refine ⟨fun W hS => ?_, hK _ ?_⟩; · (subst hS; try go_simp))
    clear hK K
    refine flo_read _ rfl (fun K hK => ?_)
    go_simp
    first | (refine hK _ ?_) | (refine ⟨fun W hS => ?_, hK _ ?_⟩; · (subst hS; try go_simp))
    clear hK K
    refine flo_read _ rfl (fun K hK => ?_)
    go_simp
    first | (refine hK _ ?_) | (refine ⟨fun W hS => ?_, hK _ ?_⟩; · (subst hS; try go_simp))
    clear hK K
    refine flo_read _ rfl (fun K hK => ?_)
    go_simp
    first | (refine hK _ ?_) | (refine ⟨fun W hS => ?_, hK _ ?_⟩; · (subst hS; try go_simp))
    clear hK K
    refine flo_read _ rfl (fun K hK => ?_)
    go_simp
    first | (refine hK _ ?_) | (refine ⟨fun W hS => ?_, hK _ ?_⟩; · (subst hS; try go_simp))
    clear hK K
    refine flo_read _ rfl (fun K hK => ?_)
    go_simp
    first | (refine hK _ ?_) | (refine ⟨fun W hS => ?_, hK _ ?_⟩; · (subst hS; try go_simp))
    clear hK K
    refine flo_read _ rfl (fun K hK => ?_)
    go_simp
    first | (refine hK _ ?_) | (refine ⟨fun W hS => ?_, hK _ ?_⟩; · (subst hS; try go_simp))
    clear hK K
    refine flo_read _ rfl (fun K hK => ?_)
    go_simp
    first | (refine hK _ ?_) | (refine ⟨fun W hS => ?_, hK _ ?_⟩; · (subst hS; try go_simp))
    clear hK K
    refine flo_read _ rfl (fun K hK => ?_)
    go_simp
    first | (refine hK _ ?_) | (refine ⟨fun W hS => ?_, hK _ ?_⟩; · (subst hS; try go_simp))
    clear hK K
    refine flo_read _ rfl (fun K hK => ?_)
    go_simp
    first | (refine hK _ ?_) | (refine ⟨fun W hS => ?_, hK _ ?_⟩; · (subst hS; try go_simp))
    clear hK K
    refine flo_read _ rfl (fun K hK => ?_)
    go_simp
    first | (refine hK _ ?_) | (refine ⟨fun W hS => ?_, hK _ ?_⟩; · (subst hS; try go_simp))
    clear hK K
    refine flo_read _ rfl (fun K hK => ?_)
    go_simp
    first | (refine hK _ ?_) | (refine ⟨fun W hS => ?_, hK _ ?_⟩; · (subst hS; try go_simp))
    clear hK K
    refine flo_read _ rfl (fun K hK => ?_)
    go_simp
    first | (refine hK _ ?_) | (refine ⟨fun W hS => ?_, hK _ ?_⟩; · (subst hS; try go_simp))
    clear hK K
    refine flo_read _ rfl (fun K hK => ?_)
    go_simp
    first | (refine hK _ ?_) | (refine ⟨fun W hS => ?_, hK _ ?_⟩; · (subst hS; try go_simp))
    clear hK K
    refine flo_read _ rfl (fun K hK => ?_)
    go_simp
    first | (refine hK _ ?_) | (refine ⟨fun W hS => ?_, hK _ ?_⟩; · (subst hS; try go_simp))
    clear hK K
    refine flo_read _ rfl (fun K hK => ?_)
    go_simp
    first | (refine hK _ ?_) | (refine ⟨fun W hS => ?_, hK _ ?_⟩; · (subst hS; try go_simp))
    clear hK K
    refine flo_read _ rfl (fun K hK => ?_)
    go_simp
    first | (refine hK _ ?_) | (refine ⟨fun W hS => ?_, hK _ ?_⟩; · (subst hS; try go_simp))
    clear hK K
    refine flo_read _ rfl (fun K hK => ?_)
    go_simp
    first | (refine hK _ ?_) | (refine ⟨fun W hS => ?_, hK _ ?_⟩; · (subst hS; try go_simp))
    clear hK K
    refine flo_read _ rfl (fun K hK => ?_)
    go_simp
    first | (refine hK _ ?_) | (refine ⟨fun W hS => ?_, hK _ ?_⟩; · (subst hS; try go_simp))
    clear hK K
    refine flo_read _ rfl (fun K hK => ?_)
    go_simp
    first | (refine hK _ ?_) | (refine ⟨fun W hS => ?_, hK _ ?_⟩; · (subst hS; try go_simp))
    clear hK K
    refine flo_read _ rfl (fun K hK => ?_)
    go_simp
    first | (refine hK _ ?_) | (refine ⟨fun W hS => ?_, hK _ ?_⟩; · (subst hS; try go_simp))
    clear hK K
    refine flo_read _ rfl (fun K hK => ?_)
    go_simp
    first | (refine hK _ ?_) | (refine ⟨fun W hS => ?_, hK _ ?_⟩; · (subst hS; try go_simp))
    clear hK K
    refine flo_read _ rfl (fun K hK => ?_)
    go_simp
    first | (refine hK _ ?_) | (refine ⟨fun W hS => ?_, hK _ ?_⟩; · (subst hS; try go_simp))
    clear hK K
    refine flo_end ?_
    go_wp2_with fail
    go_ret
    exact ⟨rfl, H3.out.t⟩
  | some q =>
    rw [idle_yes hq, hsk, hs1, hs2]
    have hR := Lib.hid (hR1.out _ q Hh.out.t hq)
    clear hR1 hR2 hq hsk hs1 hs2
    have I3 := Lib.hid (fun w => rsub_is r.mark start w)
    generalize sub r.mark start = s3 at *
    have I4 := Lib.hid (fun w => rmul_is q.1 s3 w)
    generalize mul q.1 s3 = s4 at *
    cases hge : decide (s2 ≥ r.mark) with
    | false =>
      rw [Bool.false_and]
      have g1 : decide (s2 < r.mark) = true := decide_eq_true (by have := of_decide_eq_false hge; omega)
      clear hge
      go_enter Try.func25, Try.ntmps25
      go_wp2_with fail
      go_at_call 26
      refine Calls.mono (hR.out) ?_
      rintro e w1 ⟨p, rfl, hp, t1⟩
      obtain ⟨ad, c', hv, LX⟩ := rts_at hrh.out hp
      injection hv with e1 e2 e3
      subst e1 e3
      have hpl : p < rates.length := (List.getElem?_eq_some_iff.1 hp).1
      have LXh := Lib.hid LX
      clear LX hp e2
      have H1 := Lib.hid (Hh.out.turns t1)
      have a1 : World.cell? (w1) ⟨w.heap.size + 1 + 1, 1, none⟩ = some _ := (H1.out.blk 0 rfl).cell 1
      go_wp2_with fail
      go_at_call 22
      refine Calls.mono (I1.out _) ?_
      rintro e w2 ⟨rfl, t2⟩
      go_wp2_with fail
      go_at_call 48
      refine Calls.mono (I2.out _) ?_
      rintro e w3 ⟨rfl, t3⟩
      have H3 := Lib.hid ((H1.out.turns (t2.trans t3)).drew)
      clear a1 t1 t2 t3 H1
      go_wp2_with fail
      go_wp2_with fail
      refine wp_region_flo [(0, true), (1, true), (2, true), (3, true), (4, true), (5, true), (6, true), (7, true), (8, true), (9, true), (10, true), (11, true), (12, true), (13, true), (14, true), (15, true), (16, true), (17, true), (18, true), (19, true), (20, true), (21, true), (22, true), (23, true), (24, true)] (fun W => W = w3.drew) (by kernel_rfl) rfl (by kernel_rfl) (by intro c d v a w h; cases d <;> first | (simpa [Exit.then, Exit.inBlock, Act.put] using h) | exact h) (rfl) ?_
      generalize w3.drew = w4 at *
      have a8 : World.cell? (w4) ⟨w.heap.size + 1 + 1, 8, none⟩ = some _ := (H3.out.blk 0 rfl).cell 8
      have d0 : World.cell? (w4) ⟨w.heap.size + 1, 0, none⟩ = some _ := (H3.out.blk 1 rfl).cell 0
      have d1 : World.cell? (w4) ⟨w.heap.size + 1, 1, none⟩ = some _ := (H3.out.blk 1 rfl).cell 1
      have d2 : World.cell? (w4) ⟨w.heap.size + 1, 2, none⟩ = some _ := (H3.out.blk 1 rfl).cell 2
      have d3 : World.cell? (w4) ⟨w.heap.size + 1, 3, none⟩ = some _ := (H3.out.blk 1 rfl).cell 3
      have e0 : World.cell? (w4) ⟨w.heap.size, 0, none⟩ = some _ := (H3.out.blk 2 rfl).cell 0
      obtain ⟨x0, x1⟩ := LXh.out.turns H3.out.t
      refine flo_read _ rfl (fun K hK => ?_)
      go_simp
      first | (refine hK _ ?_) | (refine ⟨fun W hS => ?_, hK _ ?_⟩; · (subst hS; try go_simp))
      clear hK K
      refine flo_read _ rfl (fun K hK => ?_)
      go_simp
      first | (refine hK _ ?_) | (refine ⟨fun W hS => ?_, hK _ ?_⟩; · (subst hS; try go_simp))
      clear hK K
      refine flo_read _ rfl (fun K hK => ?_)
      go_simp
      first | (refine hK _ ?_) | (refine ⟨fun W hS => ?_, hK _ ?_⟩; · (subst hS; try go_simp))
      clear hK K
      refine flo_read _ rfl (fun K hK => ?_)
      go_simp
      first | (refine hK _ ?_) | (refine ⟨fun W hS => ?_, hK _ ?_⟩; · (subst hS; try go_simp))
      clear hK K
      refine flo_read _ rfl (fun K hK => ?_)
      go_simp
      first | (refine hK _ ?_) | (refine ⟨fun W hS => ?_, hK _ ?_⟩; · (subst hS; try go_simp))
      clear hK K
      refine flo_read _ rfl (fun K hK => ?_)
      go_simp
      first | (refine hK _ ?_) | (refine ⟨fun W hS => ?_, hK _ ?_⟩; · (subst hS; try go_simp))
      clear hK K
      refine flo_read _ rfl (fun K hK => ?_)
      go_simp
      first | (refine hK _ ?_) | (refine ⟨fun W hS => ?_, hK _ ?_⟩; · (subst hS; try go_simp))
      clear hK K
      refine flo_read _ rfl (fun K hK => ?_)
      go_simp
      first | (refine hK _ ?_) | (refine ⟨fun W hS => ?_, hK _ ?_⟩; · (subst hS; try go_simp))
      clear hK K
      refine flo_read _ rfl (fun K hK => ?_)
      go_simp
      first | (refine hK _ ?_) | (refine ⟨fun W hS => ?_, hK _ ?_⟩; · (subst hS; try go_simp))
      clear hK K
      refine flo_read _ rfl (fun K hK => ?_)
      go_simp
      first | (refine hK _ ?_) | (refine ⟨fun W hS => ?_, hK _ ?_⟩; · (subst hS; try go_simp))
      clear hK K
      refine flo_read _ rfl (fun K hK => ?_)
      go_simp
      first | (refine hK _ ?_) | (refine ⟨fun W hS => ?_, hK _ ?_⟩; · (subst hS; try go_simp))
      clear hK K
      refine flo_read _ rfl (fun K hK => ?_)
      go_simp
      first | (refine hK _ ?_) | (refine ⟨fun W hS => ?_, hK _ ?_⟩; · (subst hS; try go_simp))
      clear hK K
      refine flo_read _ rfl (fun K hK => ?_)
      go_simp
      first | (refine hK _ ?_) | (refine ⟨fun W hS => ?_, hK _ ?_⟩; · (subst hS; try go_simp))
      clear hK K
      refine flo_read _ rfl (fun K hK => ?_)
      go_simp
      first | (refine hK _ ?_) | (refine ⟨fun W hS => ?_, hK _ ?_⟩; · (subst hS; try go_simp))
      clear hK K
      refine flo_read _ rfl (fun K hK => ?_)
      go_simp
      first | (refine hK _ ?_) | (refine ⟨fun W hS => ?_, hK _ ?_⟩; · (subst hS; try go_simp))
      clear hK K
      refine flo_read _ rfl (fun K hK => ?_)
      go_simp
      first | (refine hK _ ?_) | (refine ⟨fun W hS => ?_, hK _ ?_⟩; · (subst hS; try go_simp))
      clear hK K
      refine flo_read _ rfl (fun K hK => ?_)
      go_simp
      first | (refine hK _ ?_) | (refine ⟨fun W hS => ?_, hK _ ?_⟩; · (subst hS; try go_simp))
      clear hK K
      refine flo_read _ rfl (fun K hK => ?_)
      go_simp
      first | (refine hK _ ?_) | (refine ⟨fun W hS => ?_, hK _ ?_⟩; · (subst hS; try go_simp))
      clear hK K
      refine flo_read _ rfl (fun K hK => ?_)
      go_simp
      first | (refine hK _ ?_) | (refine ⟨fun W hS => ?_, hK _ ?_⟩; · (subst hS; try go_simp))
      clear hK K
      refine flo_read _ rfl (fun K hK => ?_)
      go_simp
      first | (refine hK _ ?_) | (refine ⟨fun W hS => ?_, hK _ ?_⟩; · (subst hS; try go_simp))
      clear hK K
      refine flo_read _ rfl (fun K hK => ?_)
      go_simp
      first | (refine hK _ ?_) | (refine ⟨fun W hS => ?_, hK _ ?_⟩; · (subst hS; try go_simp))
      clear hK K
      refine flo_read _ rfl (fun K hK => ?_)
      go_simp
      first | (refine hK _ ?_) | (refine ⟨fun W hS => ?_, hK _ ?_⟩; · (subst hS; try go_simp))
      clear hK K
      refine flo_read _ rfl (fun K hK => ?_)
      go_simp
      first | (refine hK _ ?_) | (refine ⟨fun W hS => ?_, hK _ ?_⟩; · (subst hS; try go_simp))
      clear hK K
      refine flo_read _ rfl (fun K hK => ?_)
      go_simp
      first | (refine hK _ ?_) | (refine ⟨fun W hS => ?_, hK _ ?_⟩; · (subst hS; try go_simp))
      clear hK K
      refine flo_read _ rfl (fun K hK => ?_)
      go_simp
      first | (refine hK _ ?_) | (refine ⟨fun W hS => ?_, hK _ ?_⟩; · (subst hS; try go_simp))
      clear hK K
      refine flo_end ?_
      go_wp2_with fail
      go_ret
      exact ⟨rfl, H3.out.t⟩
    | true =>
      rw [Bool.true_and]
      have g1 : decide (s2 < r.mark) = false := decide_eq_false (by have := of_decide_eq_true hge; omega)
      clear hge
      cases hl : ((r.out.length : Int) == 0) with
      | false =>
        rw [Bool.false_and]
        have hl0 : r.out.length ≠ 0 := by simpa using hl
        have g2 : decide ((r.out.length : Int) > 0) = true := decide_eq_true (by omega)
        have g2b : decide (0 < r.out.length) = true := decide_eq_true (by omega)
        clear hl hl0
        go_enter Try.func25, Try.ntmps25
        go_wp2_with fail
        go_at_call 26
        refine Calls.mono (hR.out) ?_
        rintro e w1 ⟨p, rfl, hp, t1⟩
        obtain ⟨ad, c', hv, LX⟩ := rts_at hrh.out hp
        injection hv with e1 e2 e3
        subst e1 e3
        have hpl : p < rates.length := (List.getElem?_eq_some_iff.1 hp).1
        have LXh := Lib.hid LX
        clear LX hp e2
        have H1 := Lib.hid (Hh.out.turns t1)
        have a1 : World.cell? (w1) ⟨w.heap.size + 1 + 1, 1, none⟩ = some _ := (H1.out.blk 0 rfl).cell 1
        go_wp2_with fail
        go_at_call 22
        refine Calls.mono (I1.out _) ?_
        rintro e w2 ⟨rfl, t2⟩
        go_wp2_with fail
        go_at_call 48
        refine Calls.mono (I2.out _) ?_
        rintro e w3 ⟨rfl, t3⟩
        have H3 := Lib.hid ((H1.out.turns (t2.trans t3)).drew)
        clear a1 t1 t2 t3 H1
        go_wp2_with fail
        go_wp2_with fail
        refine wp_region_flo [(0, true), (1, true), (2, true), (3, true), (4, true), (5, true), (6, true), (7, true), (8, true), (9, true), (10, true), (11, true), (12, true), (13, true), (14, true), (15, true), (16, true), (17, true), (18, true), (19, true), (20, true), (21, true), (22, true), (23, true), (24, true)] (fun W => W = w3.drew) (by kernel_rfl) rfl (by kernel_rfl) (by intro c d v a w h; cases d <;> first | (simpa [Exit.then, Exit.inBlock, Act.put] using h) | exact h) (rfl) ?_
        generalize w3.drew = w4 at *
        have a8 : World.cell? (w4) ⟨w.heap.size + 1 + 1, 8, none⟩ = some _ := (H3.out.blk 0 rfl).cell 8
        have d0 : World.cell? (w4) ⟨w.heap.size + 1, 0, none⟩ = some _ := (H3.out.blk 1 rfl).cell 0
        have d1 : World.cell? (w4) ⟨w.heap.size + 1, 1, none⟩ = some _ := (H3.out.blk 1 rfl).cell 1
        have d2 : World.cell? (w4) ⟨w.heap.size + 1, 2, none⟩ = some _ := (H3.out.blk 1 rfl).cell 2
        have d3 : World.cell? (w4) ⟨w.heap.size + 1, 3, none⟩ = some _ := (H3.out.blk 1 rfl).cell 3
        have e0 : World.cell? (w4) ⟨w.heap.size, 0, none⟩ = some _ := (H3.out.blk 2 rfl).cell 0
        obtain ⟨x0, x1⟩ := LXh.out.turns H3.out.t
        refine flo_read _ rfl (fun K hK => ?_)
        go_simp
        first | (refine hK _ ?_) | (refine ⟨fun W hS => ?_, hK _ ?_⟩; · (subst hS; try go_simp))
        clear hK K
        refine flo_read _ rfl (fun K hK => ?_)
        go_simp
        first | (refine hK _ ?_) | (refine ⟨fun W hS => ?_, hK _ ?_⟩; · (subst hS; try go_simp))
        clear hK K
        refine flo_read _ rfl (fun K hK => ?_)
        go_simp
        first | (refine hK _ ?_) | (refine ⟨fun W hS => ?_, hK _ ?_⟩; · (subst hS; try go_simp))
        clear hK K
        refine flo_read _ rfl (fun K hK => ?_)
        go_simp
        first | (refine hK _ ?_) | (refine ⟨fun W hS => ?_, hK _ ?_⟩; · (subst hS; try go_simp))
        clear hK K
        refine flo_read _ rfl (fun K hK => ?_)
        go_simp
        first | (refine hK _ ?_) | (refine ⟨fun W hS => ?_, hK _ ?_⟩; · (subst hS; try go_simp))
        clear hK K
        refine flo_read _ rfl (fun K hK => ?_)
        go_simp
        first | (refine hK _ ?_) | (refine ⟨fun W hS => ?_, hK _ ?_⟩; · (subst hS; try go_simp))
        clear hK K
        refine flo_read _ rfl (fun K hK => ?_)
        go_simp
        first | (refine hK _ ?_) | (refine ⟨fun W hS => ?_, hK _ ?_⟩; · (subst hS; try go_simp))
        clear hK K
        refine flo_read _ rfl (fun K hK => ?_)
        go_simp
        first | (refine hK _ ?_) | (refine ⟨fun W hS => ?_, hK _ ?_⟩; · (subst hS; try go_simp))
        clear hK K
        refine flo_read _ rfl (fun K hK => ?_)
        go_simp
        first | (refine hK _ ?_) | (refine ⟨fun W hS => ?_, hK _ ?_⟩; · (subst hS; try go_simp))
        clear hK K
        refine flo_read _ rfl (fun K hK => ?_)
        go_simp
        first | (refine hK _ ?_) | (refine ⟨fun W hS => ?_, hK _ ?_⟩; · (subst hS; try go_simp))
        clear hK K
        refine flo_read _ rfl (fun K hK => ?_)
        go_simp
        first | (refine hK _ ?_) | (refine ⟨fun W hS => ?_, hK _ ?_⟩; · (subst hS; try go_simp))
        clear hK K
        refine flo_read _ rfl (fun K hK => ?_)
        go_simp
        first | (refine hK _ ?_) | (refine ⟨fun W hS => ?_, hK _ ?_⟩; · (subst hS; try go_simp))
        clear hK K
        refine flo_read _ rfl (fun K hK => ?_)
        go_simp
        first | (refine hK _ ?_) | (refine ⟨fun W hS => ?_, hK _ ?_⟩; · (subst hS; try go_simp))
        clear hK K
        refine flo_read _ rfl (fun K hK => ?_)
        go_simp
        first | (refine hK _ ?_) | (refine ⟨fun W hS => ?_, hK _ ?_⟩; · (subst hS; try go_simp))
        clear hK K
        refine flo_read _ rfl (fun K hK => ?_)
        go_simp
        first | (refine hK _ ?_) | (refine ⟨fun W hS => ?_, hK _ ?_⟩; · (subst hS; try go_simp))
        clear hK K
        refine flo_read _ rfl (fun K hK => ?_)
        go_simp
        first | (refine hK _ ?_) | (refine ⟨fun W hS => ?_, hK _ ?_⟩; · (subst hS; try go_simp))
        clear hK K
        refine flo_read _ rfl (fun K hK => ?_)
        go_simp
        first | (refine hK _ ?_) | (refine ⟨fun W hS => ?_, hK _ ?_⟩; · (subst hS; try go_simp))
        clear hK K
        refine flo_read _ rfl (fun K hK => ?_)
        go_simp
        first | (refine hK _ ?_) | (refine ⟨fun W hS => ?_, hK _ ?_⟩; · (subst hS; try go_simp))
        clear hK K
        refine flo_read _ rfl (fun K hK => ?_)
        go_simp
        first | (refine hK _ ?_) | (refine ⟨fun W hS => ?_, hK _ ?_⟩; · (subst hS; try go_simp))
        clear hK K
        refine flo_read _ rfl (fun K hK => ?_)
        go_simp
        first | (refine hK _ ?_) | (refine ⟨fun W hS => ?_, hK _ ?_⟩; · (subst hS; try go_simp))
        clear hK K
        refine flo_read _ rfl (fun K hK => ?_)
        go_simp
        first | (refine hK _ ?_) | (refine ⟨fun W hS => ?_, hK _ ?_⟩; · (subst hS; try go_simp))
        clear hK K
        refine flo_read _ rfl (fun K hK => ?_)
        go_simp
        first | (refine hK _ ?_) | (refine ⟨fun W hS => ?_, hK _ ?_⟩; · (subst hS; try go_simp))
        clear hK K
        refine flo_read _ rfl (fun K hK => ?_)
        go_simp
        first | (refine hK _ ?_) | (refine ⟨fun W hS => ?_, hK _ ?_⟩; · (subst hS; try go_simp))
        clear hK K
        refine flo_read _ rfl (fun K hK => ?_)
        go_simp
        first | (refine hK _ ?_) | (refine ⟨fun W hS => ?_, hK _ ?_⟩; · (subst hS; try go_simp))
        clear hK K
        refine flo_read _ rfl (fun K hK => ?_)
        go_simp
        first | (refine hK _ ?_) | (refine ⟨fun W hS => ?_, hK _ ?_⟩; · (subst hS; try go_simp))
        clear hK K
        refine flo_end ?_
        go_wp2_with fail
        go_ret
        exact ⟨rfl, H3.out.t⟩
      | true =>
        rw [Bool.true_and]
        have hl0 : r.out.length = 0 := by simpa using hl
        have g2 : decide ((r.out.length : Int) > 0) = false := decide_eq_false (by omega)
        have g2b : decide (0 < r.out.length) = false := decide_eq_false (by omega)
        clear hl hl0
        cases ha : (r.avail == q.2) with
        | false =>
          rw [Bool.false_and]
          have g3 : (r.avail != q.2) = true := by simpa [bne] using ha
          clear ha
          go_enter Try.func25, Try.ntmps25
          go_wp2_with fail
          go_at_call 26
          refine Calls.mono (hR.out) ?_
          rintro e w1 ⟨p, rfl, hp, t1⟩
          obtain ⟨ad, c', hv, LX⟩ := rts_at hrh.out hp
          injection hv with e1 e2 e3
          subst e1 e3
          have hpl : p < rates.length := (List.getElem?_eq_some_iff.1 hp).1
          have LXh := Lib.hid LX
          clear LX hp e2
          have H1 := Lib.hid (Hh.out.turns t1)
          have a1 : World.cell? (w1) ⟨w.heap.size + 1 + 1, 1, none⟩ = some _ := (H1.out.blk 0 rfl).cell 1
          go_wp2_with fail
          go_at_call 22
          refine Calls.mono (I1.out _) ?_
          rintro e w2 ⟨rfl, t2⟩
          go_wp2_with fail
          go_at_call 48
          refine Calls.mono (I2.out _) ?_
          rintro e w3 ⟨rfl, t3⟩
          have H3 := Lib.hid ((H1.out.turns (t2.trans t3)).drew)
          clear a1 t1 t2 t3 H1
          go_wp2_with fail
          go_wp2_with fail
          refine wp_region_flo [(0, true), (1, true), (2, true), (3, true), (4, true), (5, true), (6, true), (7, true), (8, true), (9, true), (10, true), (11, true), (12, true), (13, true), (14, true), (15, true), (16, true), (17, true), (18, true), (19, true), (20, true), (21, true), (22, true), (23, true), (24, true)] (fun W => W = w3.drew) (by kernel_rfl) rfl (by kernel_rfl) (by intro c d v a w h; cases d <;> first | (simpa [Exit.then, Exit.inBlock, Act.put] using h) | exact h) (rfl) ?_
          generalize w3.drew = w4 at *
          have a8 : World.cell? (w4) ⟨w.heap.size + 1 + 1, 8, none⟩ = some _ := (H3.out.blk 0 rfl).cell 8
          have d0 : World.cell? (w4) ⟨w.heap.size + 1, 0, none⟩ = some _ := (H3.out.blk 1 rfl).cell 0
          have d1 : World.cell? (w4) ⟨w.heap.size + 1, 1, none⟩ = some _ := (H3.out.blk 1 rfl).cell 1
          have d2 : World.cell? (w4) ⟨w.heap.size + 1, 2, none⟩ = some _ := (H3.out.blk 1 rfl).cell 2
          have d3 : World.cell? (w4) ⟨w.heap.size + 1, 3, none⟩ = some _ := (H3.out.blk 1 rfl).cell 3
          have e0 : World.cell? (w4) ⟨w.heap.size, 0, none⟩ = some _ := (H3.out.blk 2 rfl).cell 0
          obtain ⟨x0, x1⟩ := LXh.out.turns H3.out.t
          refine flo_read _ rfl (fun K hK => ?_)
          go_simp
          first | (refine hK _ ?_) | (refine ⟨fun W hS => ?_, hK _ ?_⟩; · (subst hS; try go_simp))
          clear hK K
          refine flo_read _ rfl (fun K hK => ?_)
          go_simp
          first | (refine hK _ ?_) | (refine ⟨fun W hS => ?_, hK _ ?_⟩; · (subst hS; try go_simp))
          clear hK K
          refine flo_read _ rfl (fun K hK => ?_)
          go_simp
          first | (refine hK _ ?_) | (refine ⟨fun W hS => ?_, hK _ ?_⟩; · (subst hS; try go_simp))
          clear hK K
          refine flo_read _ rfl (fun K hK => ?_)
          go_simp
          first | (refine hK _ ?_) | (refine ⟨fun W hS => ?_, hK _ ?_⟩; · (subst hS; try go_simp))
          clear hK K
          refine flo_read _ rfl (fun K hK => ?_)
          go_simp
          first | (refine hK _ ?_) | (refine ⟨fun W hS => ?_, hK _ ?_⟩; · (subst hS; try go_simp))
          clear hK K
          refine flo_read _ rfl (fun K hK => ?_)
          go_simp
          first | (refine hK _ ?_) | (refine ⟨fun W hS => ?_, hK _ ?_⟩; · (subst hS; try go_simp))
          clear hK K
          refine flo_read _ rfl (fun K hK => ?_)
          go_simp
          first | (refine hK _ ?_) | (refine ⟨fun W hS => ?_, hK _ ?_⟩; · (subst hS; try go_simp))
          clear hK K
          refine flo_read _ rfl (fun K hK => ?_)
          go_simp
          first | (refine hK _ ?_) | (refine ⟨fun W hS => ?_, hK _ ?_⟩; · (subst hS; try go_simp))
          clear hK K
          refine flo_read _ rfl (fun K hK => ?_)
          go_simp
          first | (refine hK _ ?_) | (refine ⟨fun W hS => ?_, hK _ ?_⟩; · (subst hS; try go_simp))
          clear hK K
          refine flo_read _ rfl (fun K hK => ?_)
          go_simp
          first | (refine hK _ ?_) | (refine ⟨fun W hS => ?_, hK _ ?_⟩; · (subst hS; try go_simp))
          clear hK K
          refine flo_read _ rfl (fun K hK => ?_)
          go_simp
          first | (refine hK _ ?_) | (refine ⟨fun W hS => ?_, hK _ ?_⟩; · (subst hS; try go_simp))
          clear hK K
          refine flo_read _ rfl (fun K hK => ?_)
          go_simp
          first | (refine hK _ ?_) | (refine ⟨fun W hS => ?_, hK _ ?_⟩; · (subst hS; try go_simp))
          clear hK K
          refine flo_read _ rfl (fun K hK => ?_)
          go_simp
          first | (refine hK _ ?_) | (refine ⟨fun W hS => ?_, hK _ ?_⟩; · (subst hS; try go_simp))
          clear hK K
          refine flo_read _ rfl (fun K hK => ?_)
          go_simp
          first | (refine hK _ ?_) | (refine ⟨fun W hS => ?_, hK _ ?_⟩; · (subst hS; try go_simp))
          clear hK K
          refine flo_read _ rfl (fun K hK => ?_)
          go_simp
          first | (refine hK _ ?_) | (refine ⟨fun W hS => ?_, hK _ ?_⟩; · (subst hS; try go_simp))
          clear hK K
          refine flo_read _ rfl (fun K hK => ?_)
          go_simp
          first | (refine hK _ ?_) | (refine ⟨fun W hS => ?_, hK _ ?_⟩; · (subst hS; try go_simp))
          clear hK K
          refine flo_read _ rfl (fun K hK => ?_)
          go_simp
          first | (refine hK _ ?_) | (refine ⟨fun W hS => ?_, hK _ ?_⟩; · (subst hS; try go_simp))
          clear hK K
          refine flo_read _ rfl (fun K hK => ?_)
          go_simp
          first | (refine hK _ ?_) | (refine ⟨fun W hS => ?_, hK _ ?_⟩; · (subst hS; try go_simp))
          clear hK K
          refine flo_read _ rfl (fun K hK => ?_)
          go_simp
          first | (refine hK _ ?_) | (refine ⟨fun W hS => ?_, hK _ ?_⟩; · (subst hS; try go_simp))
          clear hK K
          refine flo_read _ rfl (fun K hK => ?_)
          go_simp
          first | (refine hK _ ?_) | (refine ⟨fun W hS => ?_, hK _ ?_⟩; · (subst hS; try go_simp))
          clear hK K
          refine flo_read _ rfl (fun K hK => ?_)
          go_simp
          first | (refine hK _ ?_) | (refine ⟨fun W hS => ?_, hK _ ?_⟩; · (subst hS; try go_simp))
          clear hK K
          refine flo_read _ rfl (fun K hK => ?_)
          go_simp
          first | (refine hK _ ?_) | (refine ⟨fun W hS => ?_, hK _ ?_⟩; · (subst hS; try go_simp))
          clear hK K
          refine flo_read _ rfl (fun K hK => ?_)
          go_simp
          first | (refine hK _ ?_) | (refine ⟨fun W hS => ?_, hK _ ?_⟩; · (subst hS; try go_simp))
          clear hK K
          refine flo_read _ rfl (fun K hK => ?_)
          go_simp
          first | (refine hK _ ?_) | (refine ⟨fun W hS => ?_, hK _ ?_⟩; · (subst hS; try go_simp))
          clear hK K
          refine flo_read _ rfl (fun K hK => ?_)
          go_simp
          first | (refine hK _ ?_) | (refine ⟨fun W hS => ?_, hK _ ?_⟩; · (subst hS; try go_simp))
          clear hK K
          refine flo_end ?_
          go_wp2_with fail
          go_ret
          exact ⟨rfl, H3.out.t⟩
        | true =>
          rw [Bool.true_and]
          have g3 : (r.avail != q.2) = false := by simpa [bne] using ha
          clear ha
          go_enter Try.func25, Try.ntmps25
          go_wp2_with fail
          go_at_call 26
          refine Calls.mono (hR.out) ?_
          rintro e w1 ⟨p, rfl, hp, t1⟩
          obtain ⟨ad, c', hv, LX⟩ := rts_at hrh.out hp
          injection hv with e1 e2 e3
          subst e1 e3
          have hpl : p < rates.length := (List.getElem?_eq_some_iff.1 hp).1
          have LXh := Lib.hid LX
          clear LX hp e2
          have H1 := Lib.hid (Hh.out.turns t1)
          have a1 : World.cell? (w1) ⟨w.heap.size + 1 + 1, 1, none⟩ = some _ := (H1.out.blk 0 rfl).cell 1
          go_wp2_with fail
          go_at_call 22
          refine Calls.mono (I1.out _) ?_
          rintro e w2 ⟨rfl, t2⟩
          go_wp2_with fail
          go_at_call 48
          refine Calls.mono (I2.out _) ?_
          rintro e w3 ⟨rfl, t3⟩
          have H3 := Lib.hid ((H1.out.turns (t2.trans t3)).drew)
          clear a1 t1 t2 t3 H1
          go_wp2_with fail
          go_wp2_with fail
          refine wp_region_flo [(0, true), (1, true), (2, true), (3, true), (4, true), (5, true), (6, true), (7, true), (8, true), (9, true), (10, true), (11, true), (12, true), (13, true), (14, true), (15, true), (16, true), (17, true), (18, true), (19, true), (20, true), (21, true), (22, true), (23, true), (24, true)] (fun W => W = w3.drew) (by kernel_rfl) rfl (by kernel_rfl) (by intro c d v a w h; cases d <;> first | (simpa [Exit.then, Exit.inBlock, Act.put] using h) | exact h) (rfl) ?_
          generalize w3.drew = w4 at *
          have a8 : World.cell? (w4) ⟨w.heap.size + 1 + 1, 8, none⟩ = some _ := (H3.out.blk 0 rfl).cell 8
          have d0 : World.cell? (w4) ⟨w.heap.size + 1, 0, none⟩ = some _ := (H3.out.blk 1 rfl).cell 0
          have d1 : World.cell? (w4) ⟨w.heap.size + 1, 1, none⟩ = some _ := (H3.out.blk 1 rfl).cell 1
          have d2 : World.cell? (w4) ⟨w.heap.size + 1, 2, none⟩ = some _ := (H3.out.blk 1 rfl).cell 2
          have d3 : World.cell? (w4) ⟨w.heap.size + 1, 3, none⟩ = some _ := (H3.out.blk 1 rfl).cell 3
          have e0 : World.cell? (w4) ⟨w.heap.size, 0, none⟩ = some _ := (H3.out.blk 2 rfl).cell 0
          obtain ⟨x0, x1⟩ := LXh.out.turns H3.out.t
          refine flo_read _ rfl (fun K hK => ?_)
          go_simp
          first | (refine hK _ ?_) | (refine ⟨fun W hS => ?_, hK _ ?_⟩; · (subst hS; try go_simp))
          clear hK K
          refine flo_read _ rfl (fun K hK => ?_)
          go_simp
          first | (refine hK _ ?_) | (refine ⟨fun W hS => ?_, hK _ ?_⟩; · (subst hS; try go_simp))
          clear hK K
          refine flo_read _ rfl (fun K hK => ?_)
          go_simp
          first | (refine hK _ ?_) | (refine ⟨fun W hS => ?_, hK _ ?_⟩; · (subst hS; try go_simp))
          clear hK K
          refine flo_read _ rfl (fun K hK => ?_)
          go_simp
          first | (refine hK _ ?_) | (refine ⟨fun W hS => ?_, hK _ ?_⟩; · (subst hS; try go_simp))
          clear hK K
          refine flo_read _ rfl (fun K hK => ?_)
          go_simp
          first | (refine hK _ ?_) | (refine ⟨fun W hS => ?_, hK _ ?_⟩; · (subst hS; try go_simp))
          clear hK K
          refine flo_read _ rfl (fun K hK => ?_)
          go_simp
          first | (refine hK _ ?_) | (refine ⟨fun W hS => ?_, hK _ ?_⟩; · (subst hS; try go_simp))
          clear hK K
          refine flo_read _ rfl (fun K hK => ?_)
          go_simp
          first | (refine hK _ ?_) | (refine ⟨fun W hS => ?_, hK _ ?_⟩; · (subst hS; try go_simp))
          clear hK K
          refine flo_read _ rfl (fun K hK => ?_)
          go_simp
          first | (refine hK _ ?_) | (refine ⟨fun W hS => ?_, hK _ ?_⟩; · (subst hS; try go_simp))
          clear hK K
          refine flo_read _ rfl (fun K hK => ?_)
          go_simp
          first | (refine hK _ ?_) | (refine ⟨fun W hS => ?_, hK _ ?_⟩; · (subst hS; try go_simp))
          clear hK K
          refine flo_read _ rfl (fun K hK => ?_)
          go_simp
          first | (refine hK _ ?_) | (refine ⟨fun W hS => ?_, hK _ ?_⟩; · (subst hS; try go_simp))
          clear hK K
          refine flo_read _ rfl (fun K hK => ?_)
          go_simp
          first | (refine hK _ ?_) | (refine ⟨fun W hS => ?_, hK _ ?_⟩; · (subst hS; try go_simp))
          clear hK K
          refine flo_read _ rfl (fun K hK => ?_)
          go_simp
          first | (refine hK _ ?_) | (refine ⟨fun W hS => ?_, hK _ ?_⟩; · (subst hS; try go_simp))
          clear hK K
          refine flo_read _ rfl (fun K hK => ?_)
          go_simp
          first | (refine hK _ ?_) | (refine ⟨fun W hS => ?_, hK _ ?_⟩; · (subst hS; try go_simp))
          clear hK K
          refine flo_read _ rfl (fun K hK => ?_)
          go_simp
          first | (refine hK _ ?_) | (refine ⟨fun W hS => ?_, hK _ ?_⟩; · (subst hS; try go_simp))
          clear hK K
          refine flo_read _ rfl (fun K hK => ?_)
          go_simp
          first | (refine hK _ ?_) | (refine ⟨fun W hS => ?_, hK _ ?_⟩; · (subst hS; try go_simp))
          clear hK K
          refine flo_read _ rfl (fun K hK => ?_)
          go_simp
          first | (refine hK _ ?_) | (refine ⟨fun W hS => ?_, hK _ ?_⟩; · (subst hS; try go_simp))
          clear hK K
          refine flo_read _ rfl (fun K hK => ?_)
          go_simp
          first | (refine hK _ ?_) | (refine ⟨fun W hS => ?_, hK _ ?_⟩; · (subst hS; try go_simp))
          clear hK K
          refine flo_read _ rfl (fun K hK => ?_)
          go_simp
          first | (refine hK _ ?_) | (refine ⟨fun W hS => ?_, hK _ ?_⟩; · (subst hS; try go_simp))
          clear hK K
          refine flo_read _ rfl (fun K hK => ?_)
          go_simp
          first | (refine hK _ ?_) | (refine ⟨fun W hS => ?_, hK _ ?_⟩; · (subst hS; try go_simp))
          clear hK K
          refine flo_read _ rfl (fun K hK => ?_)
          go_simp
          first | (refine hK _ ?_) | (refine ⟨fun W hS => ?_, hK _ ?_⟩; · (subst hS; try go_simp))
          clear hK K
          refine flo_read _ rfl (fun K hK => ?_)
          go_simp
          first | (refine hK _ ?_) | (refine ⟨fun W hS => ?_, hK _ ?_⟩; · (subst hS; try go_simp))
          clear hK K
          refine flo_read _ rfl (fun K hK => ?_)
          go_simp
          first | (refine hK _ ?_) | (refine ⟨fun W hS => ?_, hK _ ?_⟩; · (subst hS; try go_simp))
          clear hK K
          refine flo_read _ rfl (fun K hK => ?_)
          go_simp
          first | (refine hK _ ?_) | (refine ⟨fun W hS => ?_, hK _ ?_⟩; · (subst hS; try go_simp))
          clear hK K
          refine flo_read _ rfl (fun K hK => ?_)
          go_simp
          first | (refine hK _ ?_) | (refine ⟨fun W hS => ?_, hK _ ?_⟩; · (subst hS; try go_simp))
          clear hK K
          refine flo_read _ rfl (fun K hK => ?_)
          go_simp
          first | (refine hK _ ?_) | (refine ⟨fun W hS => ?_, hK _ ?_⟩; · (subst hS; try go_simp))
          clear hK K
          refine flo_end ?_
          clear a8 d0 d1 d2 d3 e0 x0 x1
          go_wp2_with fail
          go_wp2_with fail
          refine wp_region_flo [(0, true), (1, true), (2, true), (3, true), (4, true), (5, true), (6, true), (7, true), (8, true), (9, true), (12, true), (13, true), (14, true), (15, true), (16, true), (17, true), (10, false), (11, false), (18, true), (19, true)] (fun W => Turns [] w4.drew W) (by kernel_rfl) rfl (by kernel_rfl) (by intro c d v a w h; cases d <;> first | (simpa [Exit.then, Exit.inBlock, Act.put] using h) | exact h) (Turns.refl _ _) ?_
          have H4 := Lib.hid H3.out.drew
          generalize w4.drew = w5 at *
          have a8 : World.cell? (w5) ⟨w.heap.size + 1 + 1, 8, none⟩ = some _ := (H4.out.blk 0 rfl).cell 8
          have d2 : World.cell? (w5) ⟨w.heap.size + 1, 2, none⟩ = some _ := (H4.out.blk 1 rfl).cell 2
          have e0 : World.cell? (w5) ⟨w.heap.size, 0, none⟩ = some _ := (H4.out.blk 2 rfl).cell 0
          obtain ⟨x0, x1⟩ := LXh.out.turns H4.out.t
          refine flo_read _ rfl (fun K hK => ?_)
          go_simp
          first | (refine hK _ ?_) | (refine ⟨fun W hS => ?_, hK _ ?_⟩; · (have Y1 := hS.old a8; have Z2 := hS.old d2; have E0 := hS.old e0; have X0 := hS.old x0; have X1 := hS.old x1; try go_simp))
          clear hK K
          refine flo_read _ rfl (fun K hK => ?_)
          go_simp
          first | (refine hK _ ?_) | (refine ⟨fun W hS => ?_, hK _ ?_⟩; · (have Y1 := hS.old a8; have Z2 := hS.old d2; have E0 := hS.old e0; have X0 := hS.old x0; have X1 := hS.old x1; try go_simp))
          clear hK K
          refine flo_read _ rfl (fun K hK => ?_)
          go_simp
          first | (refine hK _ ?_) | (refine ⟨fun W hS => ?_, hK _ ?_⟩; · (have Y1 := hS.old a8; have Z2 := hS.old d2; have E0 := hS.old e0; have X0 := hS.old x0; have X1 := hS.old x1; try go_simp))
          clear hK K
          refine flo_read _ rfl (fun K hK => ?_)
          go_simp
          first | (refine hK _ ?_) | (refine ⟨fun W hS => ?_, hK _ ?_⟩; · (have Y1 := hS.old a8; have Z2 := hS.old d2; have E0 := hS.old e0; have X0 := hS.old x0; have X1 := hS.old x1; try go_simp))
          clear hK K
          refine flo_read _ rfl (fun K hK => ?_)
          go_simp
          first | (refine hK _ ?_) | (refine ⟨fun W hS => ?_, hK _ ?_⟩; · (have Y1 := hS.old a8; have Z2 := hS.old d2; have E0 := hS.old e0; have X0 := hS.old x0; have X1 := hS.old x1; try go_simp))
          clear hK K
          refine flo_read _ rfl (fun K hK => ?_)
          go_simp
          first | (refine hK _ ?_) | (refine ⟨fun W hS => ?_, hK _ ?_⟩; · (have Y1 := hS.old a8; have Z2 := hS.old d2; have E0 := hS.old e0; have X0 := hS.old x0; have X1 := hS.old x1; try go_simp))
          clear hK K
          refine flo_read _ rfl (fun K hK => ?_)
          go_simp
          first | (refine hK _ ?_) | (refine ⟨fun W hS => ?_, hK _ ?_⟩; · (have Y1 := hS.old a8; have Z2 := hS.old d2; have E0 := hS.old e0; have X0 := hS.old x0; have X1 := hS.old x1; try go_simp))
          clear hK K
          refine flo_read _ rfl (fun K hK => ?_)
          go_simp
          first | (refine hK _ ?_) | (refine ⟨fun W hS => ?_, hK _ ?_⟩; · (have Y1 := hS.old a8; have Z2 := hS.old d2; have E0 := hS.old e0; have X0 := hS.old x0; have X1 := hS.old x1; try go_simp))
          clear hK K
          refine flo_read _ rfl (fun K hK => ?_)
          go_simp
          first | (refine hK _ ?_) | (refine ⟨fun W hS => ?_, hK _ ?_⟩; · (have Y1 := hS.old a8; have Z2 := hS.old d2; have E0 := hS.old e0; have X0 := hS.old x0; have X1 := hS.old x1; try go_simp))
          clear hK K
          refine flo_read _ rfl (fun K hK => ?_)
          go_simp
          first | (refine hK _ ?_) | (refine ⟨fun W hS => ?_, hK _ ?_⟩; · (have Y1 := hS.old a8; have Z2 := hS.old d2; have E0 := hS.old e0; have X0 := hS.old x0; have X1 := hS.old x1; try go_simp))
          clear hK K
          refine flo_read _ rfl (fun K hK => ?_)
          go_simp
          first | (refine hK _ ?_) | (refine ⟨fun W hS => ?_, hK _ ?_⟩; · (have Y1 := hS.old a8; have Z2 := hS.old d2; have E0 := hS.old e0; have X0 := hS.old x0; have X1 := hS.old x1; try go_simp))
          clear hK K
          refine flo_read _ rfl (fun K hK => ?_)
          go_simp
          first | (refine hK _ ?_) | (refine ⟨fun W hS => ?_, hK _ ?_⟩; · (have Y1 := hS.old a8; have Z2 := hS.old d2; have E0 := hS.old e0; have X0 := hS.old x0; have X1 := hS.old x1; try go_simp))
          clear hK K
          refine flo_read _ rfl (fun K hK => ?_)
          go_simp
          first | (refine hK _ ?_) | (refine ⟨fun W hS => ?_, hK _ ?_⟩; · (have Y1 := hS.old a8; have Z2 := hS.old d2; have E0 := hS.old e0; have X0 := hS.old x0; have X1 := hS.old x1; try go_simp))
          clear hK K
          refine flo_read _ rfl (fun K hK => ?_)
          go_simp
          first | (refine hK _ ?_) | (refine ⟨fun W hS => ?_, hK _ ?_⟩; · (have Y1 := hS.old a8; have Z2 := hS.old d2; have E0 := hS.old e0; have X0 := hS.old x0; have X1 := hS.old x1; try go_simp))
          clear hK K
          refine flo_read _ rfl (fun K hK => ?_)
          go_simp
          first | (refine hK _ ?_) | (refine ⟨fun W hS => ?_, hK _ ?_⟩; · (have Y1 := hS.old a8; have Z2 := hS.old d2; have E0 := hS.old e0; have X0 := hS.old x0; have X1 := hS.old x1; try go_simp))
          clear hK K
          refine flo_read _ rfl (fun K hK => ?_)
          go_simp
          first | (refine hK _ ?_) | (refine ⟨fun W hS => ?_, hK _ ?_⟩; · (have Y1 := hS.old a8; have Z2 := hS.old d2; have E0 := hS.old e0; have X0 := hS.old x0; have X1 := hS.old x1; try go_simp))
          clear hK K
          clear a8 d2 e0 x0 x1
          refine flo_alone _ rfl ?_
          go_wp2_with fail
          go_at_call 48
          refine Calls.mono (I3.out _) ?_
          rintro e w6 ⟨rfl, t6⟩
          go_wp2_with fail
          refine ⟨fun W => Turns [] w6 W, fun W h => t6.trans h, Turns.refl _ _, ?_⟩
          refine flo_alone _ rfl ?_
          go_wp2_with fail
          go_at_call 23
          refine Calls.mono (I4.out _) ?_
          rintro e w7 ⟨rfl, t7⟩
          go_wp2_with fail
          refine ⟨fun W => Turns [] w7 W, fun W h => t7.trans h, Turns.refl _ _, ?_⟩
          refine flo_read _ rfl (fun K hK => ?_)
          go_simp
          first | (refine hK _ ?_) | (refine ⟨fun W hS => ?_, hK _ ?_⟩; · (skip; try go_simp))
          clear hK K
          refine flo_read _ rfl (fun K hK => ?_)
          go_simp
          first | (refine hK _ ?_) | (refine ⟨fun W hS => ?_, hK _ ?_⟩; · (skip; try go_simp))
          clear hK K
          refine flo_end ?_
          go_wp2_with fail
          go_ret
          exact ⟨rfl, H4.out.t.trans (t6.trans t7)⟩
end Go.Proofs.Ytphhfdlhkginkaa.Bp
