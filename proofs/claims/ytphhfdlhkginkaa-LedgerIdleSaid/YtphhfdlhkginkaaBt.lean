/- The document's Mint. -/
import Derived.Test.YtphhfdlhkginkaaBs
import Derived.Test.YtphhfdlhkginkaaBh
import Derived.Test.YtphhfdlhkginkaaBr
set_option linter.unusedVariables false
set_option linter.unusedSimpArgs false
set_option maxRecDepth 100000
namespace Go.Proofs.Ytphhfdlhkginkaa.Bt
open Go.RowKit Go.MapKept Hm Hs Hr Hb Hf Hg Hx Hy Hv Hz Hu Fa Ff Fq Ba Bb Bc Bd Bh Bi Bj Bk Bf Cf Cn Sm Sat Mu Mv Ca Cb Bn Bp Bs Br
theorem ix_neg (R : List Row) (key : Int) : decide (ixD R key < 0) = !isAt R key := by
  unfold ixD
  cases isAt R key
  · rfl
  · simp
set_option maxHeartbeats 8000000 in
theorem rmint_is (G : List Nat) (w : World) (start key now : Int) (v : Value) (R : List Row) (c : Cfg) (hs : RTS G w v R) (hG : ∀ k ∈ G, k < w.heap.size) (hok : Ok R) (hr : RdS 2 w c.rv (rts c.rates)) : Calls Try.prog 33 #[.agg #[.int .i64 start, v], .int .i64 key, .int .i64 now, c.v] w fun e w' => ∃ v', e = .returned (.tuple #[.agg #[.int .i64 start, v'], .int .i64 (mintR start R key now (cfg c)).2]) ∧ RTS G w' v' (mintR start R key now (cfg c)).1 ∧ Turns [] w w' := by
  have h := hs.rt
  have hGh := Lib.hid hG
  obtain ⟨A, cc, rfl, hlc, hcm⟩ := h.form
  have hRl := hok.len
  have hR1 := Lib.hid (fun W q (t : Turns [] w W) h => drate_some W c key q (hr.mv (fun a u => t.old)) h)
  have hR2 := Lib.hid (fun W (t : Turns [] w W) h => drate_none W c key (hr.mv (fun a u => t.old)) h)
  have hA := Lib.hid (fun W (t : Turns [] w W) => rat_is W start key (.slice A R.length cc) R (h.turns t) hok.rise)
  have hS := Lib.hid (fun F W (t : Turns [] w W) (hF : ∀ k ∈ F, w.heap.size ≤ k) (hF2 : ∀ k ∈ F ++ G, k < W.heap.size) => rsweep_is (F ++ G) W start now (.slice A R.length cc) R c (RTS.more hs t hF) (by omega) (hr.mv (fun a u => t.old)) hF2)
  obtain ⟨Ar, cr, hrv, hlr, hcr⟩ := hr.form
  rw [rts_len] at hrv hlr
  obtain ⟨V, hV⟩ : ∃ V : Ending → World → Prop, V = fun e w' => ∃ v', e = .returned (.tuple #[.agg #[.int .i64 start, v'], .int .i64 (mintR start R key now (cfg c)).2]) ∧ RTS G w' v' (mintR start R key now (cfg c)).1 ∧ Turns [] w w' := ⟨_, rfl⟩
  rw [← hV]
  have hVh : Hid (∀ w' v' R' n, mintR start R key now (cfg c) = (R', n) → RTS G w' v' R' → Turns [] w w' → V (.returned (.tuple #[.agg #[.int .i64 start, v'], .int .i64 n])) w') := Lib.hid (fun w' v' R' n h1 h2 h3 => by rw [hV, h1]; exact ⟨v', rfl, h2, h3⟩)
  obtain ⟨n, skew, ttl, valid, loss, hear, keys, queue, rv, rates⟩ := c
  simp only at hrv hlr hR1 hR2 hr hS
  subst hrv
  unfold Cfg.v at hR1 hR2 hS ⊢
  simp only at hR1 hR2 hS ⊢
  have H := (((Sep.start w).alloc #[.int .i64 start, .slice A R.length cc] 24).alloc #[.int .i64 n, .int .i64 skew, .int .i64 ttl, .int .i64 valid, .int .i64 loss, .int .i64 hear, .int .i64 keys, .int .i64 queue, .slice Ar rates.length cr] 27).alloc #[.int .i64 0, .slice none 0 0] 24
  rw [World.size_alloc, World.size_alloc] at H
  have Hh := Lib.hid H
  have hh := Lib.hid hs
  have hokh := Lib.hid hok
  have hrh := Lib.hid hr
  obtain ⟨C, hC⟩ : ∃ C : Cfg, C = ⟨n, skew, ttl, valid, loss, hear, keys, queue, .slice Ar rates.length cr, rates⟩ := ⟨_, rfl⟩
  rw [← hC] at hR1 hR2 hVh hS
  have hrt : C.rates = rates := by rw [hC]
  try rw [hrt] at hR1
  have hkk : (cfg C).keys = keys := by rw [hC]; rfl
  have hkkh := Lib.hid hkk
  clear h hr H hC hok hV hkk hrt hs hG
  have c0 : World.cell? (((w.alloc (.cells #[.int .i64 start, .slice A R.length cc] 24)).alloc (.cells #[.int .i64 n, .int .i64 skew, .int .i64 ttl, .int .i64 valid, .int .i64 loss, .int .i64 hear, .int .i64 keys, .int .i64 queue, .slice Ar rates.length cr] 27)).alloc (.cells #[.int .i64 0, .slice none 0 0] 24)) ⟨w.heap.size + 1, 0, none⟩ = some _ := (Hh.out.blk 1 rfl).cell 0
  have c1 : World.cell? (((w.alloc (.cells #[.int .i64 start, .slice A R.length cc] 24)).alloc (.cells #[.int .i64 n, .int .i64 skew, .int .i64 ttl, .int .i64 valid, .int .i64 loss, .int .i64 hear, .int .i64 keys, .int .i64 queue, .slice Ar rates.length cr] 27)).alloc (.cells #[.int .i64 0, .slice none 0 0] 24)) ⟨w.heap.size + 1, 1, none⟩ = some _ := (Hh.out.blk 1 rfl).cell 1
  have c2 : World.cell? (((w.alloc (.cells #[.int .i64 start, .slice A R.length cc] 24)).alloc (.cells #[.int .i64 n, .int .i64 skew, .int .i64 ttl, .int .i64 valid, .int .i64 loss, .int .i64 hear, .int .i64 keys, .int .i64 queue, .slice Ar rates.length cr] 27)).alloc (.cells #[.int .i64 0, .slice none 0 0] 24)) ⟨w.heap.size + 1, 2, none⟩ = some _ := (Hh.out.blk 1 rfl).cell 2
  have c3 : World.cell? (((w.alloc (.cells #[.int .i64 start, .slice A R.length cc] 24)).alloc (.cells #[.int .i64 n, .int .i64 skew, .int .i64 ttl, .int .i64 valid, .int .i64 loss, .int .i64 hear, .int .i64 keys, .int .i64 queue, .slice Ar rates.length cr] 27)).alloc (.cells #[.int .i64 0, .slice none 0 0] 24)) ⟨w.heap.size + 1, 3, none⟩ = some _ := (Hh.out.blk 1 rfl).cell 3
  have c4 : World.cell? (((w.alloc (.cells #[.int .i64 start, .slice A R.length cc] 24)).alloc (.cells #[.int .i64 n, .int .i64 skew, .int .i64 ttl, .int .i64 valid, .int .i64 loss, .int .i64 hear, .int .i64 keys, .int .i64 queue, .slice Ar rates.length cr] 27)).alloc (.cells #[.int .i64 0, .slice none 0 0] 24)) ⟨w.heap.size + 1, 4, none⟩ = some _ := (Hh.out.blk 1 rfl).cell 4
  have c5 : World.cell? (((w.alloc (.cells #[.int .i64 start, .slice A R.length cc] 24)).alloc (.cells #[.int .i64 n, .int .i64 skew, .int .i64 ttl, .int .i64 valid, .int .i64 loss, .int .i64 hear, .int .i64 keys, .int .i64 queue, .slice Ar rates.length cr] 27)).alloc (.cells #[.int .i64 0, .slice none 0 0] 24)) ⟨w.heap.size + 1, 5, none⟩ = some _ := (Hh.out.blk 1 rfl).cell 5
  have c6 : World.cell? (((w.alloc (.cells #[.int .i64 start, .slice A R.length cc] 24)).alloc (.cells #[.int .i64 n, .int .i64 skew, .int .i64 ttl, .int .i64 valid, .int .i64 loss, .int .i64 hear, .int .i64 keys, .int .i64 queue, .slice Ar rates.length cr] 27)).alloc (.cells #[.int .i64 0, .slice none 0 0] 24)) ⟨w.heap.size + 1, 6, none⟩ = some _ := (Hh.out.blk 1 rfl).cell 6
  have c7 : World.cell? (((w.alloc (.cells #[.int .i64 start, .slice A R.length cc] 24)).alloc (.cells #[.int .i64 n, .int .i64 skew, .int .i64 ttl, .int .i64 valid, .int .i64 loss, .int .i64 hear, .int .i64 keys, .int .i64 queue, .slice Ar rates.length cr] 27)).alloc (.cells #[.int .i64 0, .slice none 0 0] 24)) ⟨w.heap.size + 1, 7, none⟩ = some _ := (Hh.out.blk 1 rfl).cell 7
  have c8 : World.cell? (((w.alloc (.cells #[.int .i64 start, .slice A R.length cc] 24)).alloc (.cells #[.int .i64 n, .int .i64 skew, .int .i64 ttl, .int .i64 valid, .int .i64 loss, .int .i64 hear, .int .i64 keys, .int .i64 queue, .slice Ar rates.length cr] 27)).alloc (.cells #[.int .i64 0, .slice none 0 0] 24)) ⟨w.heap.size + 1, 8, none⟩ = some _ := (Hh.out.blk 1 rfl).cell 8
  cases hq : rateR (cfg C) key with
  | none =>
    have hR := Lib.hid (hR2.out _ Hh.out.t hq)
    have hm := Lib.hid (mint_none (start := start) (now := now) (R := R) hq)
    clear hR1 hR2 hq hA hS
    go_enter Try.func33, Try.ntmps33
    go_wp2_with fail
    go_at_call 26
    refine Calls.mono (hR.out) ?_
    rintro e w1 ⟨rfl, t1⟩
    have H1 := Hh.out.turns t1
    clear c0 c1 c2 c3 c4 c5 c6 c7 c8 Hh t1
    have a0 : World.cell? (w1) ⟨w.heap.size, 0, none⟩ = some _ := (H1.blk 2 rfl).cell 0
    have a1 : World.cell? (w1) ⟨w.heap.size, 1, none⟩ = some _ := (H1.blk 2 rfl).cell 1
    have z0 : World.cell? (w1) ⟨w.heap.size + 1 + 1, 0, none⟩ = some _ := (H1.blk 0 rfl).cell 0
    have zf0 : World.frozen? (w1) ⟨w.heap.size + 1 + 1, 0, none⟩ = false := (H1.blk 0 rfl).frozen 0
    have z1 : World.cell? (w1) ⟨w.heap.size + 1 + 1, 1, none⟩ = some _ := (H1.blk 0 rfl).cell 1
    have zf1 : World.frozen? (w1) ⟨w.heap.size + 1 + 1, 1, none⟩ = false := (H1.blk 0 rfl).frozen 1
    have H2 := (H1.set 0 rfl 0 (.int .i64 start)).set 0 rfl 1 (.slice A R.length cc)
    have hB := H2.blk 0 rfl
    have hX := hVh.out _ (.slice A R.length cc) R 4 hm.out (hh.out.turns H2.t) H2.t
    clear H1 H2 hVh hh hrh hokh hm
    go_wp2_with fail
    refine bodyPost_ret (res_list (rs := [.cell 8 24, .tmp 9]) rfl (by simp) (.cell (w.heap.size + 1 + 1) _ _ _ rfl hB Try.underlying24 rfl (by kernel_rfl) (.tmp .nil))) rfl ?_
    exact hX
  | some q =>
    have hR := Lib.hid (hR1.out _ q Hh.out.t hq)
    clear hR1 hR2
    have hqh := Lib.hid hq
    clear hq
    have hix := Lib.hid (ix_neg R key)
    cases hat : isAt R key with
    | true =>
      have hBok := hokh
      have hb := Lib.hid (base_at (start := start) (now := now) (c := cfg C) hat)
      rw [hat] at hix
      clear hat hS
      go_enter Try.func33, Try.ntmps33
      go_wp2_with fail
      go_at_call 26
      refine Calls.mono (hR.out) ?_
      rintro e w1 ⟨p, rfl, hp, t1⟩
      obtain ⟨adr, cr', hvr, LX⟩ := rts_at hrh.out hp
      injection hvr with e1 e2 e3
      subst e1 e3
      have hpl : p < rates.length := (List.getElem?_eq_some_iff.1 hp).1
      have LXh := Lib.hid LX
      clear LX hp e2
      have H1 := Lib.hid ((Hh.out.turns t1).alloc #[.int .i64 start, .slice A R.length cc] 24)
      have a0 : World.cell? (w1) ⟨w.heap.size, 0, none⟩ = some _ := ((Hh.out.turns t1).blk 2 rfl).cell 0
      have a1 : World.cell? (w1) ⟨w.heap.size, 1, none⟩ = some _ := ((Hh.out.turns t1).blk 2 rfl).cell 1
      have e0 : World.cell? (w1.alloc (.cells #[.int .i64 start, .slice A R.length cc] 24)) ⟨w.heap.size, 0, none⟩ = some _ := (H1.out.blk 3 rfl).cell 0
      have e1 : World.cell? (w1.alloc (.cells #[.int .i64 start, .slice A R.length cc] 24)) ⟨w.heap.size, 1, none⟩ = some _ := (H1.out.blk 3 rfl).cell 1
      clear c0 c1 c2 c3 c4 c5 c6 c7 c8 Hh t1
      go_wp2_with fail
      go_at_call 38
      refine Calls.mono (hA.out _ H1.out.t) ?_
      rintro e w2 ⟨rfl, t2⟩
      have H2 := Lib.hid (H1.out.turns t2)
      generalize hb9 : w1.heap.size = b9 at *
      have gix := hix.out
      generalize ixD R key = ix at *
      clear H1 t2 a0 a1 e0 e1 hA hR
      have a0 : World.cell? (w2) ⟨w.heap.size, 0, none⟩ = some _ := (H2.out.blk 3 rfl).cell 0
      have a1 : World.cell? (w2) ⟨w.heap.size, 1, none⟩ = some _ := (H2.out.blk 3 rfl).cell 1
      have c0 : World.cell? (w2) ⟨w.heap.size + 1, 0, none⟩ = some _ := (H2.out.blk 2 rfl).cell 0
      have c1 : World.cell? (w2) ⟨w.heap.size + 1, 1, none⟩ = some _ := (H2.out.blk 2 rfl).cell 1
      have c2 : World.cell? (w2) ⟨w.heap.size + 1, 2, none⟩ = some _ := (H2.out.blk 2 rfl).cell 2
      have c3 : World.cell? (w2) ⟨w.heap.size + 1, 3, none⟩ = some _ := (H2.out.blk 2 rfl).cell 3
      have c4 : World.cell? (w2) ⟨w.heap.size + 1, 4, none⟩ = some _ := (H2.out.blk 2 rfl).cell 4
      have c5 : World.cell? (w2) ⟨w.heap.size + 1, 5, none⟩ = some _ := (H2.out.blk 2 rfl).cell 5
      have c6 : World.cell? (w2) ⟨w.heap.size + 1, 6, none⟩ = some _ := (H2.out.blk 2 rfl).cell 6
      have c7 : World.cell? (w2) ⟨w.heap.size + 1, 7, none⟩ = some _ := (H2.out.blk 2 rfl).cell 7
      have c8 : World.cell? (w2) ⟨w.heap.size + 1, 8, none⟩ = some _ := (H2.out.blk 2 rfl).cell 8
      go_wp2_with fail
      have HD := Lib.hid H2.out.drew
      have hRT : Hid (RTS ([w.heap.size + 1 + 1] ++ G) w2.drew (.slice A R.length cc) (R)) := Lib.hid (RTS.more hh.out H2.out.t.drew (by intro k hk; rw [List.mem_singleton.1 hk]; omega))
      go_wp2_with fail
      refine wp_region_flo2 [(0, true, [9]), (1, true, [10]), (2, true, [10]), (3, true, [10]), (4, true, [9, 10]), (5, true, [9, 10]), (6, true, [9, 10]), (7, true, [9, 10]), (8, true, [10]), (9, false, []), (10, false, []), (11, false, []), (12, true, [])] (fun j W => j ≠ 11 → Turns [] w2.drew W) (by kernel_rfl) rfl (by kernel_rfl) (by intro c d v a w h; cases d <;> first | (simpa [Exit.then, Exit.inBlock, Act.put] using h) | exact h) ?_
      generalize w2.drew = w3 at *
      have x0 : World.cell? (w3) ⟨b9, 0, none⟩ = some _ := (HD.out.blk 0 rfl).cell 0
      have x1 : World.cell? (w3) ⟨b9, 1, none⟩ = some _ := (HD.out.blk 0 rfl).cell 1
      have y8 : World.cell? (w3) ⟨w.heap.size + 1, 8, none⟩ = some _ := (HD.out.blk 2 rfl).cell 8
      obtain ⟨u0, u1⟩ := LXh.out.turns HD.out.t
      have Lk := Lib.hid (rlook_is ([w.heap.size + 1 + 1] ++ G) w3 w3 start key now q _ (R) hRT.out (Turns.refl _ _) hBok.out.rise (by have := (rwAt_ok (start := start) hBok.out key).len; omega))
      refine flo2_read _ rfl (fun W => Turns [] w3 W) (Turns.refl _ _) (fun j hj W k => k (by simp at hj; omega)) (fun K hK => ?_)
      go_simp
      first | (refine hK _ ?_) | (refine ⟨fun W hS => ?_, hK _ ?_⟩; · (have X0 := hS.old x0; have X1 := hS.old x1; have Y8 := hS.old y8; have U0 := hS.old u0; have U1 := hS.old u1; try go_simp))
      clear hK K
      refine flo2_read _ rfl (fun W => Turns [] w3 W) (Turns.refl _ _) (fun j hj W k => k (by simp at hj; omega)) (fun K hK => ?_)
      go_simp
      first | (refine hK _ ?_) | (refine ⟨fun W hS => ?_, hK _ ?_⟩; · (have X0 := hS.old x0; have X1 := hS.old x1; have Y8 := hS.old y8; have U0 := hS.old u0; have U1 := hS.old u1; try go_simp))
      clear hK K
      refine flo2_read _ rfl (fun W => Turns [] w3 W) (Turns.refl _ _) (fun j hj W k => k (by simp at hj; omega)) (fun K hK => ?_)
      go_simp
      first | (refine hK _ ?_) | (refine ⟨fun W hS => ?_, hK _ ?_⟩; · (have X0 := hS.old x0; have X1 := hS.old x1; have Y8 := hS.old y8; have U0 := hS.old u0; have U1 := hS.old u1; try go_simp))
      clear hK K
      refine flo2_read _ rfl (fun W => Turns [] w3 W) (Turns.refl _ _) (fun j hj W k => k (by simp at hj; omega)) (fun K hK => ?_)
      go_simp
      first | (refine hK _ ?_) | (refine ⟨fun W hS => ?_, hK _ ?_⟩; · (have X0 := hS.old x0; have X1 := hS.old x1; have Y8 := hS.old y8; have U0 := hS.old u0; have U1 := hS.old u1; try go_simp))
      clear hK K
      refine flo2_read _ rfl (fun W => Turns [] w3 W) (Turns.refl _ _) (fun j hj W k => k (by simp at hj; omega)) (fun K hK => ?_)
      go_simp
      first | (refine hK _ ?_) | (refine ⟨fun W hS => ?_, hK _ ?_⟩; · (have X0 := hS.old x0; have X1 := hS.old x1; have Y8 := hS.old y8; have U0 := hS.old u0; have U1 := hS.old u1; try go_simp))
      clear hK K
      refine flo2_read _ rfl (fun W => Turns [] w3 W) (Turns.refl _ _) (fun j hj W k => k (by simp at hj; omega)) (fun K hK => ?_)
      go_simp
      first | (refine hK _ ?_) | (refine ⟨fun W hS => ?_, hK _ ?_⟩; · (have X0 := hS.old x0; have X1 := hS.old x1; have Y8 := hS.old y8; have U0 := hS.old u0; have U1 := hS.old u1; try go_simp))
      clear hK K
      refine flo2_read _ rfl (fun W => Turns [] w3 W) (Turns.refl _ _) (fun j hj W k => k (by simp at hj; omega)) (fun K hK => ?_)
      go_simp
      first | (refine hK _ ?_) | (refine ⟨fun W hS => ?_, hK _ ?_⟩; · (have X0 := hS.old x0; have X1 := hS.old x1; have Y8 := hS.old y8; have U0 := hS.old u0; have U1 := hS.old u1; try go_simp))
      clear hK K
      refine flo2_read _ rfl (fun W => Turns [] w3 W) (Turns.refl _ _) (fun j hj W k => k (by simp at hj; omega)) (fun K hK => ?_)
      go_simp
      first | (refine hK _ ?_) | (refine ⟨fun W hS => ?_, hK _ ?_⟩; · (have X0 := hS.old x0; have X1 := hS.old x1; have Y8 := hS.old y8; have U0 := hS.old u0; have U1 := hS.old u1; try go_simp))
      clear hK K
      refine flo2_read _ rfl (fun W => Turns [] w3 W) (Turns.refl _ _) (fun j hj W k => k (by simp at hj; omega)) (fun K hK => ?_)
      go_simp
      first | (refine hK _ ?_) | (refine ⟨fun W hS => ?_, hK _ ?_⟩; · (have X0 := hS.old x0; have X1 := hS.old x1; have Y8 := hS.old y8; have U0 := hS.old u0; have U1 := hS.old u1; try go_simp))
      clear hK K
      clear x0 x1 y8 u0 u1
      refine flo2_alone _ rfl ?_
      go_wp2_with fail
      go_at_call 15
      refine Calls.mono (Lk.out) ?_
      rintro e w4 ⟨x, rfl, hx, t4⟩
      have Wi := Lib.hid (set_is_ ([w.heap.size + 1 + 1] ++ G) w4 start _ (R) x _ (hRT.out.turns t4) (hx.turns t4) (gl (Blk.lt ((HD.out.turns t4).blk 1 rfl)) (HD.out.turns t4).t hGh.out) (by have := hBok.out.len; omega) hBok.out.rise)
      have t4h := Lib.hid t4
      clear hx Lk
      go_wp2_with fail
      refine ⟨fun _ => t4, _, fun _ _ h => h, ?_⟩
      clear t4
      refine flo2_alone _ rfl ?_
      go_wp2_with fail
      go_at_call 63
      refine Calls.mono (Wi.out) ?_
      rintro e w5 ⟨v', rfl, hT, t5⟩
      obtain ⟨A', c', hv', _⟩ := hT.rt.form
      obtain ⟨L', hL'⟩ : ∃ L', (withR (R) (lookR start (R) key now q)).length = L' := ⟨_, rfl⟩
      rw [hL'] at hv'
      subst hv'
      clear hL'
      have T5 := t4h.out.trans t5
      go_wp2_with fail
      refine ⟨fun _ => T5, _, fun _ _ h => h, ?_⟩
      have H5 := HD.out.turns T5
      clear Wi t5 T5 t4h
      have z0 : World.cell? (w5) ⟨w.heap.size + 1 + 1, 0, none⟩ = some _ := (H5.blk 1 rfl).cell 0
      have zf0 : World.frozen? (w5) ⟨w.heap.size + 1 + 1, 0, none⟩ = false := (H5.blk 1 rfl).frozen 0
      have z1 : World.cell? (w5) ⟨w.heap.size + 1 + 1, 1, none⟩ = some _ := (H5.blk 1 rfl).cell 1
      have zf1 : World.frozen? (w5) ⟨w.heap.size + 1 + 1, 1, none⟩ = false := (H5.blk 1 rfl).frozen 1
      refine flo2_alone _ rfl ?_
      go_wp2_with fail
      refine ⟨by simp, _, fun _ _ h => h, ?_⟩
      first
        | (refine flo2_read _ rfl (fun _ => True) trivial (fun _ _ _ _ => trivial) (fun K hK => ?_); go_simp; first | (refine hK _ ?_) | (refine ⟨fun W _ => ?_, hK _ ?_⟩; · (go_simp)) | (refine ⟨fun W => ?_, hK _ ?_⟩; · (go_simp)))
        | (refine flo2_read _ rfl (fun W => W = _) rfl (by simp) (fun K hK => ?_); go_simp; first | (refine hK _ ?_) | (refine ⟨fun W hS => ?_, hK _ ?_⟩; · (subst hS; go_simp)) | (refine ⟨?_, hK _ ?_⟩; · (go_simp)))
      clear hK K
      refine flo2_end ?_
      have H6 := (H5.set 1 rfl 0 (.int .i64 start)).set 1 rfl 1 (.slice A' L' c')
      have hB := H6.blk 1 rfl
      have T6 := ((Turns.refl [w.heap.size + 1 + 1] w5).setCell (p := ⟨w.heap.size + 1 + 1, 0, none⟩) (by simp) (.int .i64 start)).setCell (p := ⟨w.heap.size + 1 + 1, 1, none⟩) (by simp) (.slice A' L' c')
      have hX := hVh.out _ (.slice A' L' c') _ 0 (mint_good hqh.out hb.out) (RTS.less hT T6) H6.t
      clear H5 H6 T6 hRT HD z0 z1 zf0 zf1
      go_wp2_with fail
      refine bodyPost_ret (res_list (rs := [.cell 8 24, .tmp 9]) rfl (by simp) (.cell (w.heap.size + 1 + 1) _ _ _ rfl hB Try.underlying24 rfl (by kernel_rfl) (.tmp .nil))) rfl ?_
      exact hX
    | false =>
      rw [hat] at hix
      by_cases hroom : (R.length : Int) ≥ keys
      · have g1 : decide ((R.length : Int) ≥ keys) = true := decide_eq_true hroom
        have hb0 := base_swept (start := start) (now := now) (c := cfg C) hat (by rw [hkkh.out]; exact hroom)
        rw [hkkh.out] at hb0
        have hb0h := Lib.hid hb0
        clear hat hb0 hroom
        go_enter Try.func33, Try.ntmps33
        go_wp2_with fail
        go_at_call 26
        refine Calls.mono (hR.out) ?_
        rintro e w1 ⟨p, rfl, hp, t1⟩
        obtain ⟨adr, cr', hvr, LX⟩ := rts_at hrh.out hp
        injection hvr with e1 e2 e3
        subst e1 e3
        have hpl : p < rates.length := (List.getElem?_eq_some_iff.1 hp).1
        have LXh := Lib.hid LX
        clear LX hp e2
        have H1 := Lib.hid ((Hh.out.turns t1).alloc #[.int .i64 start, .slice A R.length cc] 24)
        have a0 : World.cell? (w1) ⟨w.heap.size, 0, none⟩ = some _ := ((Hh.out.turns t1).blk 2 rfl).cell 0
        have a1 : World.cell? (w1) ⟨w.heap.size, 1, none⟩ = some _ := ((Hh.out.turns t1).blk 2 rfl).cell 1
        have e0 : World.cell? (w1.alloc (.cells #[.int .i64 start, .slice A R.length cc] 24)) ⟨w.heap.size, 0, none⟩ = some _ := (H1.out.blk 3 rfl).cell 0
        have e1 : World.cell? (w1.alloc (.cells #[.int .i64 start, .slice A R.length cc] 24)) ⟨w.heap.size, 1, none⟩ = some _ := (H1.out.blk 3 rfl).cell 1
        clear c0 c1 c2 c3 c4 c5 c6 c7 c8 Hh t1
        go_wp2_with fail
        go_at_call 38
        refine Calls.mono (hA.out _ H1.out.t) ?_
        rintro e w2 ⟨rfl, t2⟩
        have H2 := Lib.hid (H1.out.turns t2)
        generalize hb9 : w1.heap.size = b9 at *
        have gix := hix.out
        generalize ixD R key = ix at *
        clear H1 t2 a0 a1 e0 e1 hA hR
        have a0 : World.cell? (w2) ⟨w.heap.size, 0, none⟩ = some _ := (H2.out.blk 3 rfl).cell 0
        have a1 : World.cell? (w2) ⟨w.heap.size, 1, none⟩ = some _ := (H2.out.blk 3 rfl).cell 1
        have c0 : World.cell? (w2) ⟨w.heap.size + 1, 0, none⟩ = some _ := (H2.out.blk 2 rfl).cell 0
        have c1 : World.cell? (w2) ⟨w.heap.size + 1, 1, none⟩ = some _ := (H2.out.blk 2 rfl).cell 1
        have c2 : World.cell? (w2) ⟨w.heap.size + 1, 2, none⟩ = some _ := (H2.out.blk 2 rfl).cell 2
        have c3 : World.cell? (w2) ⟨w.heap.size + 1, 3, none⟩ = some _ := (H2.out.blk 2 rfl).cell 3
        have c4 : World.cell? (w2) ⟨w.heap.size + 1, 4, none⟩ = some _ := (H2.out.blk 2 rfl).cell 4
        have c5 : World.cell? (w2) ⟨w.heap.size + 1, 5, none⟩ = some _ := (H2.out.blk 2 rfl).cell 5
        have c6 : World.cell? (w2) ⟨w.heap.size + 1, 6, none⟩ = some _ := (H2.out.blk 2 rfl).cell 6
        have c7 : World.cell? (w2) ⟨w.heap.size + 1, 7, none⟩ = some _ := (H2.out.blk 2 rfl).cell 7
        have c8 : World.cell? (w2) ⟨w.heap.size + 1, 8, none⟩ = some _ := (H2.out.blk 2 rfl).cell 8
        have hb9n : Hid (w.heap.size ≤ b9 ∧ b9 < w2.heap.size) := Lib.hid ⟨by
          rcases H2.out.mine b9 (mem_fps.2 ⟨_, List.mem_cons_self, by simp [tBlk]⟩) with h1 | h1
          · cases h1
          · exact h1, Blk.lt (H2.out.blk 0 rfl)⟩
        have hSw := Lib.hid (hS.out [w.heap.size + 1 + 1, b9] w2 H2.out.t (by intro k hk; have := hb9n.out; simp at hk; omega) (by intro k hk; have := hb9n.out; have := Blk.lt (H2.out.blk 1 rfl); rcases List.mem_append.1 hk with hk | hk; (simp at hk; omega); (have := hGh.out k hk; have := H2.out.t.size; omega)))
        clear hS
        go_wp2_with fail
        go_at_call 24
        refine Calls.mono (hSw.out) ?_
        rintro e w4 ⟨v', rfl, hT, t4⟩
        have hBok := Lib.hid (sweep_ok (start := start) (c := cfg C) (now := now) hokh.out)
        obtain ⟨A5, d5, hv', _⟩ := hT.rt.form
        obtain ⟨B, hB0⟩ : ∃ B, sweepR start (cfg C) now R = B := ⟨_, rfl⟩
        rw [hB0] at hb0h hBok hT hv'
        subst hv'
        have H4 := Lib.hid (H2.out.turns t4)
        have hTh := Lib.hid hT
        clear hSw hB0 a0 a1 c0 c1 c2 c3 c4 c5 c6 c7 c8 hT t4
        have x0 : World.cell? (w4) ⟨b9, 0, none⟩ = some _ := (H4.out.blk 0 rfl).cell 0
        have xf0 : World.frozen? (w4) ⟨b9, 0, none⟩ = false := (H4.out.blk 0 rfl).frozen 0
        have x1 : World.cell? (w4) ⟨b9, 1, none⟩ = some _ := (H4.out.blk 0 rfl).cell 1
        have xf1 : World.frozen? (w4) ⟨b9, 1, none⟩ = false := (H4.out.blk 0 rfl).frozen 1
        have H5 := Lib.hid ((H4.out.set 0 rfl 0 (.int .i64 start)).set 0 rfl 1 (.slice A5 B.length d5))
        have T5 : Turns [b9] w4 _ := ((Turns.refl [b9] w4).setCell (p := ⟨b9, 0, none⟩) (by simp) (.int .i64 start)).setCell (p := ⟨b9, 1, none⟩) (by simp) (.slice A5 B.length d5)
        have T5h := Lib.hid T5
        clear T5
        go_upto_region 7 with fail
        generalize (w4.setCell ⟨b9, 0, none⟩ (.int .i64 start)).setCell ⟨b9, 1, none⟩ (.slice A5 B.length d5) = w5 at *
        clear x0 x1 xf0 xf1 H4
        have hRS : Hid (RTS ([w.heap.size + 1 + 1] ++ G) w5 (.slice A5 B.length d5) B) := Lib.hid (by
          obtain ⟨XX, hXX⟩ := hTh.out
          exact ⟨XX, fun W t => hXX W ((T5h.out.mono (by simp)).trans (t.mono (by
            intro k hk
            rcases List.mem_append.1 hk with hk | hk
            · rw [List.mem_singleton.1 hk]; simp
            · exact List.mem_append_right _ hk)))⟩)
        have H6 := H5
        clear H5 hTh T5h
        have x0 : World.cell? (w5) ⟨b9, 0, none⟩ = some _ := (H6.out.blk 0 rfl).cell 0
        have x1 : World.cell? (w5) ⟨b9, 1, none⟩ = some _ := (H6.out.blk 0 rfl).cell 1
        have a0 : World.cell? (w5) ⟨w.heap.size, 0, none⟩ = some _ := (H6.out.blk 3 rfl).cell 0
        have a1 : World.cell? (w5) ⟨w.heap.size, 1, none⟩ = some _ := (H6.out.blk 3 rfl).cell 1
        have c6 : World.cell? (w5) ⟨w.heap.size + 1, 6, none⟩ = some _ := (H6.out.blk 2 rfl).cell 6
        by_cases hfull : (B.length : Int) ≥ keys
        · have g2 : decide ((B.length : Int) ≥ keys) = true := decide_eq_true hfull
          have hb := hb0h.out
          rw [if_pos hfull] at hb
          have hm := Lib.hid (mint_full hqh.out hb)
          clear hfull hb
          have z0 : World.cell? (w5) ⟨w.heap.size + 1 + 1, 0, none⟩ = some _ := (H6.out.blk 1 rfl).cell 0
          have zf0 : World.frozen? (w5) ⟨w.heap.size + 1 + 1, 0, none⟩ = false := (H6.out.blk 1 rfl).frozen 0
          have z1 : World.cell? (w5) ⟨w.heap.size + 1 + 1, 1, none⟩ = some _ := (H6.out.blk 1 rfl).cell 1
          have zf1 : World.frozen? (w5) ⟨w.heap.size + 1 + 1, 1, none⟩ = false := (H6.out.blk 1 rfl).frozen 1
          have H7 := (H6.out.set 1 rfl 0 (.int .i64 start)).set 1 rfl 1 (.slice A R.length cc)
          have hB := H7.blk 1 rfl
          have hX := hVh.out _ (.slice A R.length cc) R 3 hm.out (hh.out.turns H7.t) H7.t
          clear H7 H6 hVh hh hrh hokh hm hRS hBok
          go_wp2_with fail
          refine bodyPost_ret (res_list (rs := [.cell 8 24, .tmp 9]) rfl (by simp) (.cell (w.heap.size + 1 + 1) _ _ _ rfl hB Try.underlying24 rfl (by kernel_rfl) (.tmp .nil))) rfl ?_
          exact hX
        · have g2 : decide ((B.length : Int) ≥ keys) = false := decide_eq_false hfull
          have hb := hb0h.out
          rw [if_neg hfull] at hb
          have hbh := Lib.hid hb
          clear hfull hb
          have hb := hbh
          clear hbh
          go_wp2_with fail
          have HD := Lib.hid H6.out.drew
          have hRT : Hid (RTS ([w.heap.size + 1 + 1] ++ G) w5.drew (.slice A5 B.length d5) (B)) := Lib.hid (hRS.out.turns ((Turns.refl [] w5).drew))
          go_wp2_with fail
          refine wp_region_flo2 [(0, true, [9]), (1, true, [10]), (2, true, [10]), (3, true, [10]), (4, true, [9, 10]), (5, true, [9, 10]), (6, true, [9, 10]), (7, true, [9, 10]), (8, true, [10]), (9, false, []), (10, false, []), (11, false, []), (12, true, [])] (fun j W => j ≠ 11 → Turns [] w5.drew W) (by kernel_rfl) rfl (by kernel_rfl) (by intro c d v a w h; cases d <;> first | (simpa [Exit.then, Exit.inBlock, Act.put] using h) | exact h) ?_
          generalize w5.drew = w3 at *
          have x0 : World.cell? (w3) ⟨b9, 0, none⟩ = some _ := (HD.out.blk 0 rfl).cell 0
          have x1 : World.cell? (w3) ⟨b9, 1, none⟩ = some _ := (HD.out.blk 0 rfl).cell 1
          have y8 : World.cell? (w3) ⟨w.heap.size + 1, 8, none⟩ = some _ := (HD.out.blk 2 rfl).cell 8
          obtain ⟨u0, u1⟩ := LXh.out.turns HD.out.t
          have Lk := Lib.hid (rlook_is ([w.heap.size + 1 + 1] ++ G) w3 w3 start key now q _ (B) hRT.out (Turns.refl _ _) hBok.out.rise (by have := (rwAt_ok (start := start) hBok.out key).len; omega))
          refine flo2_read _ rfl (fun W => Turns [] w3 W) (Turns.refl _ _) (fun j hj W k => k (by simp at hj; omega)) (fun K hK => ?_)
          go_simp
          first | (refine hK _ ?_) | (refine ⟨fun W hS => ?_, hK _ ?_⟩; · (have X0 := hS.old x0; have X1 := hS.old x1; have Y8 := hS.old y8; have U0 := hS.old u0; have U1 := hS.old u1; try go_simp))
          clear hK K
          refine flo2_read _ rfl (fun W => Turns [] w3 W) (Turns.refl _ _) (fun j hj W k => k (by simp at hj; omega)) (fun K hK => ?_)
          go_simp
          first | (refine hK _ ?_) | (refine ⟨fun W hS => ?_, hK _ ?_⟩; · (have X0 := hS.old x0; have X1 := hS.old x1; have Y8 := hS.old y8; have U0 := hS.old u0; have U1 := hS.old u1; try go_simp))
          clear hK K
          refine flo2_read _ rfl (fun W => Turns [] w3 W) (Turns.refl _ _) (fun j hj W k => k (by simp at hj; omega)) (fun K hK => ?_)
          go_simp
          first | (refine hK _ ?_) | (refine ⟨fun W hS => ?_, hK _ ?_⟩; · (have X0 := hS.old x0; have X1 := hS.old x1; have Y8 := hS.old y8; have U0 := hS.old u0; have U1 := hS.old u1; try go_simp))
          clear hK K
          refine flo2_read _ rfl (fun W => Turns [] w3 W) (Turns.refl _ _) (fun j hj W k => k (by simp at hj; omega)) (fun K hK => ?_)
          go_simp
          first | (refine hK _ ?_) | (refine ⟨fun W hS => ?_, hK _ ?_⟩; · (have X0 := hS.old x0; have X1 := hS.old x1; have Y8 := hS.old y8; have U0 := hS.old u0; have U1 := hS.old u1; try go_simp))
          clear hK K
          refine flo2_read _ rfl (fun W => Turns [] w3 W) (Turns.refl _ _) (fun j hj W k => k (by simp at hj; omega)) (fun K hK => ?_)
          go_simp
          first | (refine hK _ ?_) | (refine ⟨fun W hS => ?_, hK _ ?_⟩; · (have X0 := hS.old x0; have X1 := hS.old x1; have Y8 := hS.old y8; have U0 := hS.old u0; have U1 := hS.old u1; try go_simp))
          clear hK K
          refine flo2_read _ rfl (fun W => Turns [] w3 W) (Turns.refl _ _) (fun j hj W k => k (by simp at hj; omega)) (fun K hK => ?_)
          go_simp
          first | (refine hK _ ?_) | (refine ⟨fun W hS => ?_, hK _ ?_⟩; · (have X0 := hS.old x0; have X1 := hS.old x1; have Y8 := hS.old y8; have U0 := hS.old u0; have U1 := hS.old u1; try go_simp))
          clear hK K
          refine flo2_read _ rfl (fun W => Turns [] w3 W) (Turns.refl _ _) (fun j hj W k => k (by simp at hj; omega)) (fun K hK => ?_)
          go_simp
          first | (refine hK _ ?_) | (refine ⟨fun W hS => ?_, hK _ ?_⟩; · (have X0 := hS.old x0; have X1 := hS.old x1; have Y8 := hS.old y8; have U0 := hS.old u0; have U1 := hS.old u1; try go_simp))
          clear hK K
          refine flo2_read _ rfl (fun W => Turns [] w3 W) (Turns.refl _ _) (fun j hj W k => k (by simp at hj; omega)) (fun K hK => ?_)
          go_simp
          first | (refine hK _ ?_) | (refine ⟨fun W hS => ?_, hK _ ?_⟩; · (have X0 := hS.old x0; have X1 := hS.old x1; have Y8 := hS.old y8; have U0 := hS.old u0; have U1 := hS.old u1; try go_simp))
          clear hK K
          refine flo2_read _ rfl (fun W => Turns [] w3 W) (Turns.refl _ _) (fun j hj W k => k (by simp at hj; omega)) (fun K hK => ?_)
          go_simp
          first | (refine hK _ ?_) | (refine ⟨fun W hS => ?_, hK _ ?_⟩; · (have X0 := hS.old x0; have X1 := hS.old x1; have Y8 := hS.old y8; have U0 := hS.old u0; have U1 := hS.old u1; try go_simp))
          clear hK K
          clear x0 x1 y8 u0 u1
          refine flo2_alone _ rfl ?_
          go_wp2_with fail
          go_at_call 15
          refine Calls.mono (Lk.out) ?_
          rintro e w4 ⟨x, rfl, hx, t4⟩
          have Wi := Lib.hid (set_is_ ([w.heap.size + 1 + 1] ++ G) w4 start _ (B) x _ (hRT.out.turns t4) (hx.turns t4) (gl (Blk.lt ((HD.out.turns t4).blk 1 rfl)) (HD.out.turns t4).t hGh.out) (by have := hBok.out.len; omega) hBok.out.rise)
          have t4h := Lib.hid t4
          clear hx Lk
          go_wp2_with fail
          refine ⟨fun _ => t4, _, fun _ _ h => h, ?_⟩
          clear t4
          refine flo2_alone _ rfl ?_
          go_wp2_with fail
          go_at_call 63
          refine Calls.mono (Wi.out) ?_
          rintro e w5 ⟨v', rfl, hT, t5⟩
          obtain ⟨A', c', hv', _⟩ := hT.rt.form
          obtain ⟨L', hL'⟩ : ∃ L', (withR (B) (lookR start (B) key now q)).length = L' := ⟨_, rfl⟩
          rw [hL'] at hv'
          subst hv'
          clear hL'
          have T5 := t4h.out.trans t5
          go_wp2_with fail
          refine ⟨fun _ => T5, _, fun _ _ h => h, ?_⟩
          have H5 := HD.out.turns T5
          clear Wi t5 T5 t4h
          have z0 : World.cell? (w5) ⟨w.heap.size + 1 + 1, 0, none⟩ = some _ := (H5.blk 1 rfl).cell 0
          have zf0 : World.frozen? (w5) ⟨w.heap.size + 1 + 1, 0, none⟩ = false := (H5.blk 1 rfl).frozen 0
          have z1 : World.cell? (w5) ⟨w.heap.size + 1 + 1, 1, none⟩ = some _ := (H5.blk 1 rfl).cell 1
          have zf1 : World.frozen? (w5) ⟨w.heap.size + 1 + 1, 1, none⟩ = false := (H5.blk 1 rfl).frozen 1
          refine flo2_alone _ rfl ?_
          go_wp2_with fail
          refine ⟨by simp, _, fun _ _ h => h, ?_⟩
          first
            | (refine flo2_read _ rfl (fun _ => True) trivial (fun _ _ _ _ => trivial) (fun K hK => ?_); go_simp; first | (refine hK _ ?_) | (refine ⟨fun W _ => ?_, hK _ ?_⟩; · (go_simp)) | (refine ⟨fun W => ?_, hK _ ?_⟩; · (go_simp)))
            | (refine flo2_read _ rfl (fun W => W = _) rfl (by simp) (fun K hK => ?_); go_simp; first | (refine hK _ ?_) | (refine ⟨fun W hS => ?_, hK _ ?_⟩; · (subst hS; go_simp)) | (refine ⟨?_, hK _ ?_⟩; · (go_simp)))
          clear hK K
          refine flo2_end ?_
          have H6 := (H5.set 1 rfl 0 (.int .i64 start)).set 1 rfl 1 (.slice A' L' c')
          have hB := H6.blk 1 rfl
          have T6 := ((Turns.refl [w.heap.size + 1 + 1] w5).setCell (p := ⟨w.heap.size + 1 + 1, 0, none⟩) (by simp) (.int .i64 start)).setCell (p := ⟨w.heap.size + 1 + 1, 1, none⟩) (by simp) (.slice A' L' c')
          have hX := hVh.out _ (.slice A' L' c') _ 0 (mint_good hqh.out hb.out) (RTS.less hT T6) H6.t
          clear H5 H6 T6 hRT HD z0 z1 zf0 zf1
          go_wp2_with fail
          refine bodyPost_ret (res_list (rs := [.cell 8 24, .tmp 9]) rfl (by simp) (.cell (w.heap.size + 1 + 1) _ _ _ rfl hB Try.underlying24 rfl (by kernel_rfl) (.tmp .nil))) rfl ?_
          exact hX
      · have g1 : decide ((R.length : Int) ≥ keys) = false := decide_eq_false hroom
        have hb := Lib.hid (base_room (start := start) (now := now) (key := key) (R := R) (c := cfg C) (by rw [hkkh.out]; exact hroom))
        have hBok := hokh
        clear hat hroom hS
        go_enter Try.func33, Try.ntmps33
        go_wp2_with fail
        go_at_call 26
        refine Calls.mono (hR.out) ?_
        rintro e w1 ⟨p, rfl, hp, t1⟩
        obtain ⟨adr, cr', hvr, LX⟩ := rts_at hrh.out hp
        injection hvr with e1 e2 e3
        subst e1 e3
        have hpl : p < rates.length := (List.getElem?_eq_some_iff.1 hp).1
        have LXh := Lib.hid LX
        clear LX hp e2
        have H1 := Lib.hid ((Hh.out.turns t1).alloc #[.int .i64 start, .slice A R.length cc] 24)
        have a0 : World.cell? (w1) ⟨w.heap.size, 0, none⟩ = some _ := ((Hh.out.turns t1).blk 2 rfl).cell 0
        have a1 : World.cell? (w1) ⟨w.heap.size, 1, none⟩ = some _ := ((Hh.out.turns t1).blk 2 rfl).cell 1
        have e0 : World.cell? (w1.alloc (.cells #[.int .i64 start, .slice A R.length cc] 24)) ⟨w.heap.size, 0, none⟩ = some _ := (H1.out.blk 3 rfl).cell 0
        have e1 : World.cell? (w1.alloc (.cells #[.int .i64 start, .slice A R.length cc] 24)) ⟨w.heap.size, 1, none⟩ = some _ := (H1.out.blk 3 rfl).cell 1
        clear c0 c1 c2 c3 c4 c5 c6 c7 c8 Hh t1
        go_wp2_with fail
        go_at_call 38
        refine Calls.mono (hA.out _ H1.out.t) ?_
        rintro e w2 ⟨rfl, t2⟩
        have H2 := Lib.hid (H1.out.turns t2)
        generalize hb9 : w1.heap.size = b9 at *
        have gix := hix.out
        generalize ixD R key = ix at *
        clear H1 t2 a0 a1 e0 e1 hA hR
        have a0 : World.cell? (w2) ⟨w.heap.size, 0, none⟩ = some _ := (H2.out.blk 3 rfl).cell 0
        have a1 : World.cell? (w2) ⟨w.heap.size, 1, none⟩ = some _ := (H2.out.blk 3 rfl).cell 1
        have c0 : World.cell? (w2) ⟨w.heap.size + 1, 0, none⟩ = some _ := (H2.out.blk 2 rfl).cell 0
        have c1 : World.cell? (w2) ⟨w.heap.size + 1, 1, none⟩ = some _ := (H2.out.blk 2 rfl).cell 1
        have c2 : World.cell? (w2) ⟨w.heap.size + 1, 2, none⟩ = some _ := (H2.out.blk 2 rfl).cell 2
        have c3 : World.cell? (w2) ⟨w.heap.size + 1, 3, none⟩ = some _ := (H2.out.blk 2 rfl).cell 3
        have c4 : World.cell? (w2) ⟨w.heap.size + 1, 4, none⟩ = some _ := (H2.out.blk 2 rfl).cell 4
        have c5 : World.cell? (w2) ⟨w.heap.size + 1, 5, none⟩ = some _ := (H2.out.blk 2 rfl).cell 5
        have c6 : World.cell? (w2) ⟨w.heap.size + 1, 6, none⟩ = some _ := (H2.out.blk 2 rfl).cell 6
        have c7 : World.cell? (w2) ⟨w.heap.size + 1, 7, none⟩ = some _ := (H2.out.blk 2 rfl).cell 7
        have c8 : World.cell? (w2) ⟨w.heap.size + 1, 8, none⟩ = some _ := (H2.out.blk 2 rfl).cell 8
        go_wp2_with fail
        have HD := Lib.hid H2.out.drew
        have hRT : Hid (RTS ([w.heap.size + 1 + 1] ++ G) w2.drew (.slice A R.length cc) (R)) := Lib.hid (RTS.more hh.out H2.out.t.drew (by intro k hk; rw [List.mem_singleton.1 hk]; omega))
        go_wp2_with fail
        refine wp_region_flo2 [(0, true, [9]), (1, true, [10]), (2, true, [10]), (3, true, [10]), (4, true, [9, 10]), (5, true, [9, 10]), (6, true, [9, 10]), (7, true, [9, 10]), (8, true, [10]), (9, false, []), (10, false, []), (11, false, []), (12, true, [])] (fun j W => j ≠ 11 → Turns [] w2.drew W) (by kernel_rfl) rfl (by kernel_rfl) (by intro c d v a w h; cases d <;> first | (simpa [Exit.then, Exit.inBlock, Act.put] using h) | exact h) ?_
        generalize w2.drew = w3 at *
        have x0 : World.cell? (w3) ⟨b9, 0, none⟩ = some _ := (HD.out.blk 0 rfl).cell 0
        have x1 : World.cell? (w3) ⟨b9, 1, none⟩ = some _ := (HD.out.blk 0 rfl).cell 1
        have y8 : World.cell? (w3) ⟨w.heap.size + 1, 8, none⟩ = some _ := (HD.out.blk 2 rfl).cell 8
        obtain ⟨u0, u1⟩ := LXh.out.turns HD.out.t
        have Lk := Lib.hid (rlook_is ([w.heap.size + 1 + 1] ++ G) w3 w3 start key now q _ (R) hRT.out (Turns.refl _ _) hBok.out.rise (by have := (rwAt_ok (start := start) hBok.out key).len; omega))
        refine flo2_read _ rfl (fun W => Turns [] w3 W) (Turns.refl _ _) (fun j hj W k => k (by simp at hj; omega)) (fun K hK => ?_)
        go_simp
        first | (refine hK _ ?_) | (refine ⟨fun W hS => ?_, hK _ ?_⟩; · (have X0 := hS.old x0; have X1 := hS.old x1; have Y8 := hS.old y8; have U0 := hS.old u0; have U1 := hS.old u1; try go_simp))
        clear hK K
        refine flo2_read _ rfl (fun W => Turns [] w3 W) (Turns.refl _ _) (fun j hj W k => k (by simp at hj; omega)) (fun K hK => ?_)
        go_simp
        first | (refine hK _ ?_) | (refine ⟨fun W hS => ?_, hK _ ?_⟩; · (have X0 := hS.old x0; have X1 := hS.old x1; have Y8 := hS.old y8; have U0 := hS.old u0; have U1 := hS.old u1; try go_simp))
        clear hK K
        refine flo2_read _ rfl (fun W => Turns [] w3 W) (Turns.refl _ _) (fun j hj W k => k (by simp at hj; omega)) (fun K hK => ?_)
        go_simp
        first | (refine hK _ ?_) | (refine ⟨fun W hS => ?_, hK _ ?_⟩; · (have X0 := hS.old x0; have X1 := hS.old x1; have Y8 := hS.old y8; have U0 := hS.old u0; have U1 := hS.old u1; try go_simp))
        clear hK K
        refine flo2_read _ rfl (fun W => Turns [] w3 W) (Turns.refl _ _) (fun j hj W k => k (by simp at hj; omega)) (fun K hK => ?_)
        go_simp
        first | (refine hK _ ?_) | (refine ⟨fun W hS => ?_, hK _ ?_⟩; · (have X0 := hS.old x0; have X1 := hS.old x1; have Y8 := hS.old y8; have U0 := hS.old u0; have U1 := hS.old u1; try go_simp))
        clear hK K
        refine flo2_read _ rfl (fun W => Turns [] w3 W) (Turns.refl _ _) (fun j hj W k => k (by simp at hj; omega)) (fun K hK => ?_)
        go_simp
        first | (refine hK _ ?_) | (refine ⟨fun W hS => ?_, hK _ ?_⟩; · (have X0 := hS.old x0; have X1 := hS.old x1; have Y8 := hS.old y8; have U0 := hS.old u0; have U1 := hS.old u1; try go_simp))
        clear hK K
        refine flo2_read _ rfl (fun W => Turns [] w3 W) (Turns.refl _ _) (fun j hj W k => k (by simp at hj; omega)) (fun K hK => ?_)
        go_simp
        first | (refine hK _ ?_) | (refine ⟨fun W hS => ?_, hK _ ?_⟩; · (have X0 := hS.old x0; have X1 := hS.old x1; have Y8 := hS.old y8; have U0 := hS.old u0; have U1 := hS.old u1; try go_simp))
        clear hK K
        refine flo2_read _ rfl (fun W => Turns [] w3 W) (Turns.refl _ _) (fun j hj W k => k (by simp at hj; omega)) (fun K hK => ?_)
        go_simp
        first | (refine hK _ ?_) | (refine ⟨fun W hS => ?_, hK _ ?_⟩; · (have X0 := hS.old x0; have X1 := hS.old x1; have Y8 := hS.old y8; have U0 := hS.old u0; have U1 := hS.old u1; try go_simp))
        clear hK K
        refine flo2_read _ rfl (fun W => Turns [] w3 W) (Turns.refl _ _) (fun j hj W k => k (by simp at hj; omega)) (fun K hK => ?_)
        go_simp
        first | (refine hK _ ?_) | (refine ⟨fun W hS => ?_, hK _ ?_⟩; · (have X0 := hS.old x0; have X1 := hS.old x1; have Y8 := hS.old y8; have U0 := hS.old u0; have U1 := hS.old u1; try go_simp))
        clear hK K
        refine flo2_read _ rfl (fun W => Turns [] w3 W) (Turns.refl _ _) (fun j hj W k => k (by simp at hj; omega)) (fun K hK => ?_)
        go_simp
        first | (refine hK _ ?_) | (refine ⟨fun W hS => ?_, hK _ ?_⟩; · (have X0 := hS.old x0; have X1 := hS.old x1; have Y8 := hS.old y8; have U0 := hS.old u0; have U1 := hS.old u1; try go_simp))
        clear hK K
        clear x0 x1 y8 u0 u1
        refine flo2_alone _ rfl ?_
        go_wp2_with fail
        go_at_call 15
        refine Calls.mono (Lk.out) ?_
        rintro e w4 ⟨x, rfl, hx, t4⟩
        have Wi := Lib.hid (set_is_ ([w.heap.size + 1 + 1] ++ G) w4 start _ (R) x _ (hRT.out.turns t4) (hx.turns t4) (gl (Blk.lt ((HD.out.turns t4).blk 1 rfl)) (HD.out.turns t4).t hGh.out) (by have := hBok.out.len; omega) hBok.out.rise)
        have t4h := Lib.hid t4
        clear hx Lk
        go_wp2_with fail
        refine ⟨fun _ => t4, _, fun _ _ h => h, ?_⟩
        clear t4
        refine flo2_alone _ rfl ?_
        go_wp2_with fail
        go_at_call 63
        refine Calls.mono (Wi.out) ?_
        rintro e w5 ⟨v', rfl, hT, t5⟩
        obtain ⟨A', c', hv', _⟩ := hT.rt.form
        obtain ⟨L', hL'⟩ : ∃ L', (withR (R) (lookR start (R) key now q)).length = L' := ⟨_, rfl⟩
        rw [hL'] at hv'
        subst hv'
        clear hL'
        have T5 := t4h.out.trans t5
        go_wp2_with fail
        refine ⟨fun _ => T5, _, fun _ _ h => h, ?_⟩
        have H5 := HD.out.turns T5
        clear Wi t5 T5 t4h
        have z0 : World.cell? (w5) ⟨w.heap.size + 1 + 1, 0, none⟩ = some _ := (H5.blk 1 rfl).cell 0
        have zf0 : World.frozen? (w5) ⟨w.heap.size + 1 + 1, 0, none⟩ = false := (H5.blk 1 rfl).frozen 0
        have z1 : World.cell? (w5) ⟨w.heap.size + 1 + 1, 1, none⟩ = some _ := (H5.blk 1 rfl).cell 1
        have zf1 : World.frozen? (w5) ⟨w.heap.size + 1 + 1, 1, none⟩ = false := (H5.blk 1 rfl).frozen 1
        refine flo2_alone _ rfl ?_
        go_wp2_with fail
        refine ⟨by simp, _, fun _ _ h => h, ?_⟩
        first
          | (refine flo2_read _ rfl (fun _ => True) trivial (fun _ _ _ _ => trivial) (fun K hK => ?_); go_simp; first | (refine hK _ ?_) | (refine ⟨fun W _ => ?_, hK _ ?_⟩; · (go_simp)) | (refine ⟨fun W => ?_, hK _ ?_⟩; · (go_simp)))
          | (refine flo2_read _ rfl (fun W => W = _) rfl (by simp) (fun K hK => ?_); go_simp; first | (refine hK _ ?_) | (refine ⟨fun W hS => ?_, hK _ ?_⟩; · (subst hS; go_simp)) | (refine ⟨?_, hK _ ?_⟩; · (go_simp)))
        clear hK K
        refine flo2_end ?_
        have H6 := (H5.set 1 rfl 0 (.int .i64 start)).set 1 rfl 1 (.slice A' L' c')
        have hB := H6.blk 1 rfl
        have T6 := ((Turns.refl [w.heap.size + 1 + 1] w5).setCell (p := ⟨w.heap.size + 1 + 1, 0, none⟩) (by simp) (.int .i64 start)).setCell (p := ⟨w.heap.size + 1 + 1, 1, none⟩) (by simp) (.slice A' L' c')
        have hX := hVh.out _ (.slice A' L' c') _ 0 (mint_good hqh.out hb.out) (RTS.less hT T6) H6.t
        clear H5 H6 T6 hRT HD z0 z1 zf0 zf1
        go_wp2_with fail
        refine bodyPost_ret (res_list (rs := [.cell 8 24, .tmp 9]) rfl (by simp) (.cell (w.heap.size + 1 + 1) _ _ _ rfl hB Try.underlying24 rfl (by kernel_rfl) (.tmp .nil))) rfl ?_
        exact hX
end Go.Proofs.Ytphhfdlhkginkaa.Bt
