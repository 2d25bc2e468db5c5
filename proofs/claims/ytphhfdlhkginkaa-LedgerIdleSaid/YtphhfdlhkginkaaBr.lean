/- The ledger's Mint. -/
import Derived.Test.YtphhfdlhkginkaaBq
set_option linter.unusedVariables false
set_option linter.unusedSimpArgs false
set_option maxRecDepth 100000
namespace Go.Proofs.Ytphhfdlhkginkaa.Br
open Go.RowKit Go.MapKept Go.Shelf Hm Hs Hr Hb Hf Hg Hx Hy Hv Hz Hu Fa Ff Fq Ba Bb Bc Bg Bi Bj Bo Cf Cn Sm Sat Mu Mv Ca Cb Bn Ia Bq
/-- a table and a number, of which the table lies in a block -/
theorem mint_none {start now key : Int} {R : List Row} {c : Ba.Cf} (h : rateR c key = none) : mintR start R key now c = (R, 4) := by unfold mintR; rw [h]
theorem mint_full {start now key : Int} {R : List Row} {c : Ba.Cf} {q : Int × Int} (h : rateR c key = some q) (hb : baseR start R key now c = none) : mintR start R key now c = (R, 3) := by unfold mintR; rw [h]; simp only; rw [hb]
theorem mint_good {start now key : Int} {R B : List Row} {c : Ba.Cf} {q : Int × Int} (h : rateR c key = some q) (hb : baseR start R key now c = some B) : mintR start R key now c = (withR B (lookR start B key now q), 0) := by unfold mintR; rw [h]; simp only; rw [hb]
theorem base_at {start now key : Int} {R : List Row} {c : Ba.Cf} (h : isAt R key = true) : baseR start R key now c = some R := by unfold baseR; rw [h, if_neg (by simp)]
theorem base_room {start now key : Int} {R : List Row} {c : Ba.Cf} (h : ¬ (R.length : Int) ≥ c.keys) : baseR start R key now c = some R := by unfold baseR; rw [if_neg (fun k => h k.2)]
theorem base_swept {start now key : Int} {R : List Row} {c : Ba.Cf} (h : isAt R key = false) (h2 : (R.length : Int) ≥ c.keys) : baseR start R key now c = if ((sweepR start c now R).length : Int) ≥ c.keys then none else some (sweepR start c now R) := by unfold baseR; rw [if_pos ⟨h, h2⟩]
set_option maxHeartbeats 8000000 in
theorem mint_is (G : List Nat) (w : World) (start key now : Int) (v : Value) (R : List Row) (c : Cfg) (hs : RTS G w v R) (hG : ∀ k ∈ G, k < w.heap.size) (hok : Ok R) (hr : RdS 2 w c.rv (rts c.rates)) : Calls Try.prog 30 #[.agg #[.int .i64 start, v], .int .i64 key, .int .i64 now, c.v] w fun e w' => ∃ v', e = .returned (.tuple #[.agg #[.int .i64 start, v'], .int .i64 (mintR start R key now (cfg c)).2]) ∧ RTS G w' v' (mintR start R key now (cfg c)).1 ∧ Turns [] w w' := by
  have h := hs.rt
  have hGh := Lib.hid hG
  obtain ⟨A, cc, rfl, hlc, hcm⟩ := h.form
  have hR1 := Lib.hid (fun W q (t : Turns [] w W) h => rate_some W c key q (hr.mv (fun a u => t.old)) h)
  have hR2 := Lib.hid (fun W (t : Turns [] w W) h => rate_none W c key (hr.mv (fun a u => t.old)) h)
  have hA := Lib.hid (fun W (t : Turns [] w W) => at_is W start key (.slice A R.length cc) R (h.turns t))
  have hM1 := Lib.hid (fun W x r bt bn bc (t : Turns [] w W) (hx : RowIs W x r) => mint1_is W start now _ R x r c bt bn bc (h.turns t) hx (hr.mv (fun a u => t.old)))
  obtain ⟨Ar, cr, hrv, hlr, hcr⟩ := hr.form
  rw [rts_len] at hrv hlr
  obtain ⟨V, hV⟩ : ∃ V : Ending → World → Prop, V = fun e w' => ∃ v', e = .returned (.tuple #[.agg #[.int .i64 start, v'], .int .i64 (mintR start R key now (cfg c)).2]) ∧ RTS G w' v' (mintR start R key now (cfg c)).1 ∧ Turns [] w w' := ⟨_, rfl⟩
  rw [← hV]
  have hVh : Hid (∀ w' v' R' n, mintR start R key now (cfg c) = (R', n) → RTS G w' v' R' → Turns [] w w' → V (.returned (.tuple #[.agg #[.int .i64 start, v'], .int .i64 n])) w') := Lib.hid (fun w' v' R' n h1 h2 h3 => by rw [hV, h1]; exact ⟨v', rfl, h2, h3⟩)
  obtain ⟨n, skew, ttl, valid, loss, hear, keys, queue, rv, rates⟩ := c
  simp only at hrv hlr hR1 hR2 hM1 hr
  subst hrv
  unfold Cfg.v at hR1 hR2 ⊢
  unfold cfc at hM1
  simp only at hR1 hR2 hM1 ⊢
  have hRl := hok.len
  have H := ((((Sep.start w).alloc #[.int .i64 start, .slice A R.length cc] 24).alloc #[.int .i64 now] 3).alloc #[.int .i64 n, .int .i64 skew, .int .i64 ttl, .int .i64 valid, .int .i64 loss, .int .i64 hear, .int .i64 keys, .int .i64 queue, .slice Ar rates.length cr] 27).alloc #[.int .i64 0, .slice none 0 0] 24
  rw [World.size_alloc, World.size_alloc, World.size_alloc] at H
  have Hh := Lib.hid H
  have hh := Lib.hid hs
  have hokh := Lib.hid hok
  have hrh := Lib.hid hr
  obtain ⟨C, hC⟩ : ∃ C : Cfg, C = ⟨n, skew, ttl, valid, loss, hear, keys, queue, .slice Ar rates.length cr, rates⟩ := ⟨_, rfl⟩
  rw [← hC] at hR1 hR2 hVh hM1
  have hkk : (cfg C).keys = keys := by rw [hC]; rfl
  have hkkh := Lib.hid hkk
  clear h hr H hC hok hV hkk hs hG
  have c0 : World.cell? ((((w.alloc (.cells #[.int .i64 start, .slice A R.length cc] 24)).alloc (.cells #[.int .i64 now] 3)).alloc (.cells #[.int .i64 n, .int .i64 skew, .int .i64 ttl, .int .i64 valid, .int .i64 loss, .int .i64 hear, .int .i64 keys, .int .i64 queue, .slice Ar rates.length cr] 27)).alloc (.cells #[.int .i64 0, .slice none 0 0] 24)) ⟨w.heap.size + 1 + 1, 0, none⟩ = some _ := (Hh.out.blk 1 rfl).cell 0
  have c1 : World.cell? ((((w.alloc (.cells #[.int .i64 start, .slice A R.length cc] 24)).alloc (.cells #[.int .i64 now] 3)).alloc (.cells #[.int .i64 n, .int .i64 skew, .int .i64 ttl, .int .i64 valid, .int .i64 loss, .int .i64 hear, .int .i64 keys, .int .i64 queue, .slice Ar rates.length cr] 27)).alloc (.cells #[.int .i64 0, .slice none 0 0] 24)) ⟨w.heap.size + 1 + 1, 1, none⟩ = some _ := (Hh.out.blk 1 rfl).cell 1
  have c2 : World.cell? ((((w.alloc (.cells #[.int .i64 start, .slice A R.length cc] 24)).alloc (.cells #[.int .i64 now] 3)).alloc (.cells #[.int .i64 n, .int .i64 skew, .int .i64 ttl, .int .i64 valid, .int .i64 loss, .int .i64 hear, .int .i64 keys, .int .i64 queue, .slice Ar rates.length cr] 27)).alloc (.cells #[.int .i64 0, .slice none 0 0] 24)) ⟨w.heap.size + 1 + 1, 2, none⟩ = some _ := (Hh.out.blk 1 rfl).cell 2
  have c3 : World.cell? ((((w.alloc (.cells #[.int .i64 start, .slice A R.length cc] 24)).alloc (.cells #[.int .i64 now] 3)).alloc (.cells #[.int .i64 n, .int .i64 skew, .int .i64 ttl, .int .i64 valid, .int .i64 loss, .int .i64 hear, .int .i64 keys, .int .i64 queue, .slice Ar rates.length cr] 27)).alloc (.cells #[.int .i64 0, .slice none 0 0] 24)) ⟨w.heap.size + 1 + 1, 3, none⟩ = some _ := (Hh.out.blk 1 rfl).cell 3
  have c4 : World.cell? ((((w.alloc (.cells #[.int .i64 start, .slice A R.length cc] 24)).alloc (.cells #[.int .i64 now] 3)).alloc (.cells #[.int .i64 n, .int .i64 skew, .int .i64 ttl, .int .i64 valid, .int .i64 loss, .int .i64 hear, .int .i64 keys, .int .i64 queue, .slice Ar rates.length cr] 27)).alloc (.cells #[.int .i64 0, .slice none 0 0] 24)) ⟨w.heap.size + 1 + 1, 4, none⟩ = some _ := (Hh.out.blk 1 rfl).cell 4
  have c5 : World.cell? ((((w.alloc (.cells #[.int .i64 start, .slice A R.length cc] 24)).alloc (.cells #[.int .i64 now] 3)).alloc (.cells #[.int .i64 n, .int .i64 skew, .int .i64 ttl, .int .i64 valid, .int .i64 loss, .int .i64 hear, .int .i64 keys, .int .i64 queue, .slice Ar rates.length cr] 27)).alloc (.cells #[.int .i64 0, .slice none 0 0] 24)) ⟨w.heap.size + 1 + 1, 5, none⟩ = some _ := (Hh.out.blk 1 rfl).cell 5
  have c6 : World.cell? ((((w.alloc (.cells #[.int .i64 start, .slice A R.length cc] 24)).alloc (.cells #[.int .i64 now] 3)).alloc (.cells #[.int .i64 n, .int .i64 skew, .int .i64 ttl, .int .i64 valid, .int .i64 loss, .int .i64 hear, .int .i64 keys, .int .i64 queue, .slice Ar rates.length cr] 27)).alloc (.cells #[.int .i64 0, .slice none 0 0] 24)) ⟨w.heap.size + 1 + 1, 6, none⟩ = some _ := (Hh.out.blk 1 rfl).cell 6
  have c7 : World.cell? ((((w.alloc (.cells #[.int .i64 start, .slice A R.length cc] 24)).alloc (.cells #[.int .i64 now] 3)).alloc (.cells #[.int .i64 n, .int .i64 skew, .int .i64 ttl, .int .i64 valid, .int .i64 loss, .int .i64 hear, .int .i64 keys, .int .i64 queue, .slice Ar rates.length cr] 27)).alloc (.cells #[.int .i64 0, .slice none 0 0] 24)) ⟨w.heap.size + 1 + 1, 7, none⟩ = some _ := (Hh.out.blk 1 rfl).cell 7
  have c8 : World.cell? ((((w.alloc (.cells #[.int .i64 start, .slice A R.length cc] 24)).alloc (.cells #[.int .i64 now] 3)).alloc (.cells #[.int .i64 n, .int .i64 skew, .int .i64 ttl, .int .i64 valid, .int .i64 loss, .int .i64 hear, .int .i64 keys, .int .i64 queue, .slice Ar rates.length cr] 27)).alloc (.cells #[.int .i64 0, .slice none 0 0] 24)) ⟨w.heap.size + 1 + 1, 8, none⟩ = some _ := (Hh.out.blk 1 rfl).cell 8
  cases hq : rateR (cfg C) key with
  | none =>
    have hR := Lib.hid (hR2.out _ Hh.out.t hq)
    have hm := Lib.hid (mint_none (start := start) (now := now) (R := R) hq)
    clear hR1 hR2 hq hA hM1
    go_enter Try.func30, Try.ntmps30
    go_wp2_with fail
    go_at_call 54
    refine Calls.mono (hR.out) ?_
    rintro e w1 ⟨rfl, t1⟩
    have H1 := (Hh.out.turns t1).alloc #[.int .i64 0, .int .i64 0] 44
    clear c0 c1 c2 c3 c4 c5 c6 c7 c8 Hh t1
    have a0 : World.cell? (w1.alloc (.cells #[.int .i64 0, .int .i64 0] 44)) ⟨w.heap.size, 0, none⟩ = some _ := (H1.blk 4 rfl).cell 0
    have a1 : World.cell? (w1.alloc (.cells #[.int .i64 0, .int .i64 0] 44)) ⟨w.heap.size, 1, none⟩ = some _ := (H1.blk 4 rfl).cell 1
    have z0 : World.cell? (w1.alloc (.cells #[.int .i64 0, .int .i64 0] 44)) ⟨w.heap.size + 1 + 1 + 1, 0, none⟩ = some _ := (H1.blk 1 rfl).cell 0
    have zf0 : World.frozen? (w1.alloc (.cells #[.int .i64 0, .int .i64 0] 44)) ⟨w.heap.size + 1 + 1 + 1, 0, none⟩ = false := (H1.blk 1 rfl).frozen 0
    have z1 : World.cell? (w1.alloc (.cells #[.int .i64 0, .int .i64 0] 44)) ⟨w.heap.size + 1 + 1 + 1, 1, none⟩ = some _ := (H1.blk 1 rfl).cell 1
    have zf1 : World.frozen? (w1.alloc (.cells #[.int .i64 0, .int .i64 0] 44)) ⟨w.heap.size + 1 + 1 + 1, 1, none⟩ = false := (H1.blk 1 rfl).frozen 1
    have H2 := (H1.set 1 rfl 0 (.int .i64 start)).set 1 rfl 1 (.slice A R.length cc)
    have hB := H2.blk 1 rfl
    have hX := hVh.out _ (.slice A R.length cc) R 4 hm.out (hh.out.turns H2.t) H2.t
    clear H1 H2 hVh hh hrh hokh hm
    go_wp2_with fail
    refine bodyPost_ret (res_list (rs := [.cell 8 24, .tmp 9]) rfl (by simp) (.cell (w.heap.size + 1 + 1 + 1) _ _ _ rfl hB Try.underlying24 rfl (by kernel_rfl) (.tmp .nil))) rfl ?_
    exact hX
  | some q =>
    have hR := Lib.hid (hR1.out _ q Hh.out.t hq)
    clear hR1 hR2
    have hqh := Lib.hid hq
    clear hq
    cases hat : isAt R key with
    | true =>
      have hBok := hokh
      have hb := Lib.hid (base_at (start := start) (now := now) (c := cfg C) hat)
      rw [hat] at hA
      clear hat
      go_enter Try.func30, Try.ntmps30
      go_wp2_with fail
      go_at_call 54
      refine Calls.mono (hR.out) ?_
      rintro e w1 ⟨rfl, t1⟩
      have H1 := Lib.hid (((Hh.out.turns t1).alloc #[.int .i64 q.1, .int .i64 q.2] 44).alloc #[.int .i64 start, .slice A R.length cc] 24)
      rw [World.size_alloc] at H1
      have a0 : World.cell? (w1.alloc (.cells #[.int .i64 q.1, .int .i64 q.2] 44)) ⟨w.heap.size, 0, none⟩ = some _ := (((Hh.out.turns t1).alloc #[.int .i64 q.1, .int .i64 q.2] 44).blk 4 rfl).cell 0
      have a1 : World.cell? (w1.alloc (.cells #[.int .i64 q.1, .int .i64 q.2] 44)) ⟨w.heap.size, 1, none⟩ = some _ := (((Hh.out.turns t1).alloc #[.int .i64 q.1, .int .i64 q.2] 44).blk 4 rfl).cell 1
      have e0 : World.cell? ((w1.alloc (.cells #[.int .i64 q.1, .int .i64 q.2] 44)).alloc (.cells #[.int .i64 start, .slice A R.length cc] 24)) ⟨w.heap.size, 0, none⟩ = some _ := (H1.out.blk 5 rfl).cell 0
      have e1 : World.cell? ((w1.alloc (.cells #[.int .i64 q.1, .int .i64 q.2] 44)).alloc (.cells #[.int .i64 start, .slice A R.length cc] 24)) ⟨w.heap.size, 1, none⟩ = some _ := (H1.out.blk 5 rfl).cell 1
      clear c0 c1 c2 c3 c4 c5 c6 c7 c8 Hh t1
      go_wp2_with fail
      go_at_call 37
      refine Calls.mono (hA.out _ H1.out.t) ?_
      rintro e w2 ⟨rfl, t2⟩
      have H2 := Lib.hid (H1.out.turns t2)
      generalize hb9 : w1.heap.size = b9 at *
      clear H1 t2 a0 a1 e0 e1 hA hR
      have a0 : World.cell? (w2) ⟨w.heap.size, 0, none⟩ = some _ := (H2.out.blk 5 rfl).cell 0
      have a1 : World.cell? (w2) ⟨w.heap.size, 1, none⟩ = some _ := (H2.out.blk 5 rfl).cell 1
      have c6 : World.cell? (w2) ⟨w.heap.size + 1 + 1, 6, none⟩ = some _ := (H2.out.blk 3 rfl).cell 6
      go_wp2_with fail
      have HD := Lib.hid H2.out.drew
      have hRT : Hid (RTS ([w.heap.size + 1 + 1 + 1] ++ G) w2.drew (.slice A R.length cc) (R)) := Lib.hid (RTS.more hh.out H2.out.t.drew (by intro k hk; rw [List.mem_singleton.1 hk]; omega))
      go_wp2_with fail
      refine wp_region_flo2 [(0, true, [5]), (1, true, [6]), (2, true, [6]), (3, true, [6]), (4, true, [6]), (5, false, []), (6, false, []), (7, false, []), (8, true, [])] (fun j W => j ≠ 7 → Turns [] w2.drew W) (by kernel_rfl) rfl (by kernel_rfl) (by intro c d v a w h; cases d <;> first | (simpa [Exit.then, Exit.inBlock, Act.put] using h) | exact h) ?_
      generalize w2.drew = w3 at *
      skip
      have x0 : World.cell? (w3) ⟨b9 + 1, 0, none⟩ = some _ := (HD.out.blk 0 rfl).cell 0
      have x1 : World.cell? (w3) ⟨b9 + 1, 1, none⟩ = some _ := (HD.out.blk 0 rfl).cell 1
      have y0 : World.cell? (w3) ⟨b9, 0, none⟩ = some _ := (HD.out.blk 1 rfl).cell 0
      have y1 : World.cell? (w3) ⟨b9, 1, none⟩ = some _ := (HD.out.blk 1 rfl).cell 1
      have n0 : World.cell? (w3) ⟨w.heap.size + 1, 0, none⟩ = some _ := (HD.out.blk 4 rfl).cell 0
      have Lk := Lib.hid (look_is ([w.heap.size + 1 + 1 + 1] ++ G) w3 w3 start key now q _ (R) hRT.out (Turns.refl _ _) (by have := (rwAt_ok (start := start) hBok.out key).len; omega))
      refine flo2_read _ rfl (fun W => Turns [] w3 W) (Turns.refl _ _) (fun j hj W k => k (by simp at hj; omega)) (fun K hK => ?_)
      go_simp
      first | (refine hK _ ?_) | (refine ⟨fun W hS => ?_, hK _ ?_⟩; · (have X0 := hS.old x0; have X1 := hS.old x1; have Y0 := hS.old y0; have Y1 := hS.old y1; have N0 := hS.old n0; try go_simp))
      clear hK K
      refine flo2_read _ rfl (fun W => Turns [] w3 W) (Turns.refl _ _) (fun j hj W k => k (by simp at hj; omega)) (fun K hK => ?_)
      go_simp
      first | (refine hK _ ?_) | (refine ⟨fun W hS => ?_, hK _ ?_⟩; · (have X0 := hS.old x0; have X1 := hS.old x1; have Y0 := hS.old y0; have Y1 := hS.old y1; have N0 := hS.old n0; try go_simp))
      clear hK K
      refine flo2_read _ rfl (fun W => Turns [] w3 W) (Turns.refl _ _) (fun j hj W k => k (by simp at hj; omega)) (fun K hK => ?_)
      go_simp
      first | (refine hK _ ?_) | (refine ⟨fun W hS => ?_, hK _ ?_⟩; · (have X0 := hS.old x0; have X1 := hS.old x1; have Y0 := hS.old y0; have Y1 := hS.old y1; have N0 := hS.old n0; try go_simp))
      clear hK K
      refine flo2_read _ rfl (fun W => Turns [] w3 W) (Turns.refl _ _) (fun j hj W k => k (by simp at hj; omega)) (fun K hK => ?_)
      go_simp
      first | (refine hK _ ?_) | (refine ⟨fun W hS => ?_, hK _ ?_⟩; · (have X0 := hS.old x0; have X1 := hS.old x1; have Y0 := hS.old y0; have Y1 := hS.old y1; have N0 := hS.old n0; try go_simp))
      clear hK K
      refine flo2_read _ rfl (fun W => Turns [] w3 W) (Turns.refl _ _) (fun j hj W k => k (by simp at hj; omega)) (fun K hK => ?_)
      go_simp
      first | (refine hK _ ?_) | (refine ⟨fun W hS => ?_, hK _ ?_⟩; · (have X0 := hS.old x0; have X1 := hS.old x1; have Y0 := hS.old y0; have Y1 := hS.old y1; have N0 := hS.old n0; try go_simp))
      clear hK K
      clear x0 x1 y0 y1 n0
      refine flo2_alone _ rfl ?_
      go_wp2_with fail
      go_at_call 14
      refine Calls.mono (Lk.out) ?_
      rintro e w4 ⟨x, rfl, hx, t4⟩
      have Wi := Lib.hid (with_is ([w.heap.size + 1 + 1 + 1] ++ G) w4 start _ (R) x _ (hRT.out.turns t4) (hx.turns t4) (gl (Blk.lt ((HD.out.turns t4).blk 2 rfl)) (HD.out.turns t4).t hGh.out) (by have := hBok.out.len; omega))
      have t4h := Lib.hid t4
      clear hx Lk
      go_wp2_with fail
      refine ⟨fun _ => t4, _, fun _ _ h => h, ?_⟩
      clear t4
      refine flo2_alone _ rfl ?_
      go_wp2_with fail
      go_at_call 59
      refine Calls.mono (Wi.out) ?_
      rintro e w5 ⟨v', rfl, hT, t5⟩
      obtain ⟨A', c', hv', _⟩ := hT.rt.form
      obtain ⟨L', hL'⟩ : ∃ L', (withR (R) (lookR start (R) key now q)).length = L' := ⟨_, rfl⟩
      rw [hL'] at hv'
      subst hv'
      clear hL'
      have T5 := t4h.out.trans t5
      go_wp2_with fail
      refine ⟨fun _ => T5, _, fun _ _ h => h, ?_⟩
      have H5 := HD.out.turns T5
      clear Wi t5 T5 t4h
      have z0 : World.cell? (w5) ⟨w.heap.size + 1 + 1 + 1, 0, none⟩ = some _ := (H5.blk 2 rfl).cell 0
      have zf0 : World.frozen? (w5) ⟨w.heap.size + 1 + 1 + 1, 0, none⟩ = false := (H5.blk 2 rfl).frozen 0
      have z1 : World.cell? (w5) ⟨w.heap.size + 1 + 1 + 1, 1, none⟩ = some _ := (H5.blk 2 rfl).cell 1
      have zf1 : World.frozen? (w5) ⟨w.heap.size + 1 + 1 + 1, 1, none⟩ = false := (H5.blk 2 rfl).frozen 1
      refine flo2_alone _ rfl ?_
      go_wp2_with fail
      refine ⟨by simp, _, fun _ _ h => h, ?_⟩
      first
        | (refine flo2_read _ rfl (fun _ => True) trivial (fun _ _ _ _ => trivial) (fun K hK => ?_); go_simp; first | (refine hK _ ?_) | (refine ⟨fun W _ => ?_, hK _ ?_⟩; · (go_simp)) | (refine ⟨fun W => ?_, hK _ ?_⟩; · (go_simp)))
        | (refine flo2_read _ rfl (fun W => W = _) rfl (by simp) (fun K hK => ?_); go_simp; first | (refine hK _ ?_) | (refine ⟨fun W hS => ?_, hK _ ?_⟩; · (subst hS; go_simp)) | (refine ⟨?_, hK _ ?_⟩; · (go_simp)))
      clear hK K
      refine flo2_end ?_
      have H6 := (H5.set 2 rfl 0 (.int .i64 start)).set 2 rfl 1 (.slice A' L' c')
      have hB := H6.blk 2 rfl
      have T6 := ((Turns.refl [w.heap.size + 1 + 1 + 1] w5).setCell (p := ⟨w.heap.size + 1 + 1 + 1, 0, none⟩) (by simp) (.int .i64 start)).setCell (p := ⟨w.heap.size + 1 + 1 + 1, 1, none⟩) (by simp) (.slice A' L' c')
      have hX := hVh.out _ (.slice A' L' c') _ 0 (mint_good hqh.out hb.out) (RTS.less hT T6) H6.t
      clear H5 H6 T6 hRT HD z0 z1 zf0 zf1
      go_wp2_with fail
      refine bodyPost_ret (res_list (rs := [.cell 8 24, .tmp 9]) rfl (by simp) (.cell (w.heap.size + 1 + 1 + 1) _ _ _ rfl hB Try.underlying24 rfl (by kernel_rfl) (.tmp .nil))) rfl ?_
      exact hX
    | false =>
      by_cases hroom : (R.length : Int) ≥ keys
      · have g1 : decide ((R.length : Int) ≥ keys) = true := decide_eq_true hroom
        have hb0 := base_swept (start := start) (now := now) (c := cfg C) hat (by rw [hkkh.out]; exact hroom)
        rw [hkkh.out] at hb0
        have hb0h := Lib.hid hb0
        rw [hat] at hA
        clear hat hb0 hroom
        obtain ⟨Xs, hXG⟩ := hh.out
        obtain ⟨hX1, hX2⟩ := hXG w (Turns.refl _ _)
        have hXl := hX2.1
        go_enter Try.func30, Try.ntmps30
        go_wp2_with fail
        go_at_call 54
        refine Calls.mono (hR.out) ?_
        rintro e w1 ⟨rfl, t1⟩
        have H1 := Lib.hid (((Hh.out.turns t1).alloc #[.int .i64 q.1, .int .i64 q.2] 44).alloc #[.int .i64 start, .slice A R.length cc] 24)
        rw [World.size_alloc] at H1
        have a0 : World.cell? (w1.alloc (.cells #[.int .i64 q.1, .int .i64 q.2] 44)) ⟨w.heap.size, 0, none⟩ = some _ := (((Hh.out.turns t1).alloc #[.int .i64 q.1, .int .i64 q.2] 44).blk 4 rfl).cell 0
        have a1 : World.cell? (w1.alloc (.cells #[.int .i64 q.1, .int .i64 q.2] 44)) ⟨w.heap.size, 1, none⟩ = some _ := (((Hh.out.turns t1).alloc #[.int .i64 q.1, .int .i64 q.2] 44).blk 4 rfl).cell 1
        have e0 : World.cell? ((w1.alloc (.cells #[.int .i64 q.1, .int .i64 q.2] 44)).alloc (.cells #[.int .i64 start, .slice A R.length cc] 24)) ⟨w.heap.size, 0, none⟩ = some _ := (H1.out.blk 5 rfl).cell 0
        have e1 : World.cell? ((w1.alloc (.cells #[.int .i64 q.1, .int .i64 q.2] 44)).alloc (.cells #[.int .i64 start, .slice A R.length cc] 24)) ⟨w.heap.size, 1, none⟩ = some _ := (H1.out.blk 5 rfl).cell 1
        clear c0 c1 c2 c3 c4 c5 c6 c7 c8 Hh t1
        go_wp2_with fail
        go_at_call 37
        refine Calls.mono (hA.out _ H1.out.t) ?_
        rintro e w2 ⟨rfl, t2⟩
        have H2 := Lib.hid (H1.out.turns t2)
        generalize hb9 : w1.heap.size = b9 at *
        clear H1 t2 a0 a1 e0 e1 hA hR
        have a0 : World.cell? (w2) ⟨w.heap.size, 0, none⟩ = some _ := (H2.out.blk 5 rfl).cell 0
        have a1 : World.cell? (w2) ⟨w.heap.size, 1, none⟩ = some _ := (H2.out.blk 5 rfl).cell 1
        have c6 : World.cell? (w2) ⟨w.heap.size + 1 + 1, 6, none⟩ = some _ := (H2.out.blk 3 rfl).cell 6
        have K1 := Lib.hid (cloneRow_is w2 (.slice A R.length cc) Xs (hX1.mv (fun a u => H2.out.t.old)) (by omega) (rows_one hX2))
        go_wp2_with fail
        go_at_call 56
        refine Calls.mono (K1.out) ?_
        rintro e w3 ⟨u, rfl, o3, t3, hb3⟩
        have S3 := (Sep.start w2).newSlice t3 o3 hb3
        have hT := Lib.hid (deleteR_is w2 w3 u Xs (fun x => idleR start (cfg C) now (rwRow x)) 57 #[.pointer (some ⟨w.heap.size, 0, none⟩), .pointer (some ⟨w.heap.size + 1, 0, none⟩), .pointer (some ⟨w.heap.size + 1 + 1, 0, none⟩)] (enters_of Try.func57 (by kernel_rfl) rfl) S3 (by omega) (rows_sl hX2) (by
          intro W x hx t
          obtain ⟨j, hj⟩ := List.getElem?_of_mem hx
          obtain ⟨r, hr⟩ : ∃ r, R[j]? = some r := ⟨_, List.getElem?_eq_getElem (by rw [← hXl]; exact (List.getElem?_eq_some_iff.1 hj).1)⟩
          have hxr := hX2.2 j x r hj hr
          have TW := H2.out.t.trans t
          have := hM1.out W x r w.heap.size (w.heap.size + 1) (w.heap.size + 1 + 1) TW (hxr.turns TW) ((H2.out.blk 5 rfl).turns t (by simp)) ((H2.out.blk 4 rfl).turns t (by simp)) ((H2.out.blk 3 rfl).turns t (by simp))
          have e := idle_rw hxr start now (cfg C)
          simp only [e, List.append_toArray, List.cons_append, List.nil_append]
          exact this))
        have hrows := Lib.hid (fun W (t : Turns G w W) => rows_filter (hXG W t).2 (pX := fun x => !idleR start (cfg C) now (rwRow x)) (pR := fun r => !idleR start (cfg C) now r) (fun x r h => by rw [idle_rw h]))
        clear K1 S3 t3 o3 hb3 hX1 hX2 hXl hXG
        go_wp2_with fail
        go_at_call 55
        refine Calls.mono (hT.out) ?_
        rintro e w4 ⟨u, rfl, S4⟩
        obtain ⟨A5, c5, hu, _⟩ := formM (S4.own 0 rfl)
        rw [(hrows.out w (Turns.refl _ _)).1] at hu
        have hsw : R.filter (fun r => !idleR start (cfg C) now r) = sweepR start (cfg C) now R := rfl
        rw [hsw] at hu hrows
        subst hu
        have hBok := Lib.hid (sweep_ok (start := start) (c := cfg C) (now := now) hokh.out)
        obtain ⟨B, hB0⟩ : ∃ B, sweepR start (cfg C) now R = B := ⟨_, rfl⟩
        rw [hB0] at hb0h hBok hrows S4 ⊢
        have H4 := Lib.hid (Hx.Sep.upon (a := []) H2.out S4)
        have hz3 := Blk.lt (H2.out.blk 2 rfl)
        have hmine := Lib.hid (fun k hk => mine_own S4 0 rfl k hk)
        clear hT S4 hsw hB0 a0 a1 c6 hM1
        have x0 : World.cell? (w4) ⟨b9 + 1, 0, none⟩ = some _ := (H4.out.blk 1 rfl).cell 0
        have x1 : World.cell? (w4) ⟨b9 + 1, 1, none⟩ = some _ := (H4.out.blk 1 rfl).cell 1
        have xf1 : World.frozen? (w4) ⟨b9 + 1, 1, none⟩ = false := (H4.out.blk 1 rfl).frozen 1
        have a0 : World.cell? (w4) ⟨w.heap.size, 0, none⟩ = some _ := (H4.out.blk 6 rfl).cell 0
        have a1 : World.cell? (w4) ⟨w.heap.size, 1, none⟩ = some _ := (H4.out.blk 6 rfl).cell 1
        have c6 : World.cell? (w4) ⟨w.heap.size + 1 + 1, 6, none⟩ = some _ := (H4.out.blk 4 rfl).cell 6
        have H5 := Lib.hid (H4.out.set 1 rfl 1 (.slice A5 B.length c5))
        go_upto_region 8 with fail
        generalize w4.setCell ⟨b9 + 1, 1, none⟩ (.slice A5 B.length c5) = w5 at *
        clear x0 x1 xf1 H4 a0 a1 c6
        have hRS : Hid (∀ W, Turns ([w.heap.size + 1 + 1 + 1] ++ G) w5 W → RdS 4 W (.slice A5 B.length c5) ((Xs.filter (fun x => !idleR start (cfg C) now (rwRow x))).map Rw.cells) ∧ RowsIs W (Xs.filter (fun x => !idleR start (cfg C) now (rwRow x))) B) := Lib.hid (fun W t => ⟨((H5.out.own 0 rfl).turns t (fun k hk hkG => by
          rcases hmine.out k hk with h1 | h1
          · cases h1
          · rcases List.mem_append.1 hkG with hkG | hkG
            · rw [List.mem_singleton.1 hkG] at h1; omega
            · have := hGh.out k hkG
              have := H2.out.t.size
              omega)).reads, hrows.out W ((H5.out.t.mono (by simp)).then t (by
                intro k hk
                rcases List.mem_append.1 hk with hk | hk
                · rw [List.mem_singleton.1 hk]; right; omega
                · exact .inl hk))⟩)
        have H6 := Lib.hid (H5.out.keep [1, 2, 3, 4, 5, 6])
        clear H5
        have x0 : World.cell? (w5) ⟨b9 + 1, 0, none⟩ = some _ := (H6.out.blk 0 rfl).cell 0
        have x1 : World.cell? (w5) ⟨b9 + 1, 1, none⟩ = some _ := (H6.out.blk 0 rfl).cell 1
        have a0 : World.cell? (w5) ⟨w.heap.size, 0, none⟩ = some _ := (H6.out.blk 5 rfl).cell 0
        have a1 : World.cell? (w5) ⟨w.heap.size, 1, none⟩ = some _ := (H6.out.blk 5 rfl).cell 1
        have c6 : World.cell? (w5) ⟨w.heap.size + 1 + 1, 6, none⟩ = some _ := (H6.out.blk 3 rfl).cell 6
        by_cases hfull : (B.length : Int) ≥ keys
        · have g2 : decide ((B.length : Int) ≥ keys) = true := decide_eq_true hfull
          have hb := hb0h.out
          rw [if_pos hfull] at hb
          have hm := Lib.hid (mint_full hqh.out hb)
          clear hfull hb
          have z0 : World.cell? (w5) ⟨w.heap.size + 1 + 1 + 1, 0, none⟩ = some _ := (H6.out.blk 2 rfl).cell 0
          have zf0 : World.frozen? (w5) ⟨w.heap.size + 1 + 1 + 1, 0, none⟩ = false := (H6.out.blk 2 rfl).frozen 0
          have z1 : World.cell? (w5) ⟨w.heap.size + 1 + 1 + 1, 1, none⟩ = some _ := (H6.out.blk 2 rfl).cell 1
          have zf1 : World.frozen? (w5) ⟨w.heap.size + 1 + 1 + 1, 1, none⟩ = false := (H6.out.blk 2 rfl).frozen 1
          have H7 := (H6.out.set 2 rfl 0 (.int .i64 start)).set 2 rfl 1 (.slice A R.length cc)
          have hB := H7.blk 2 rfl
          have hX := hVh.out _ (.slice A R.length cc) R 3 hm.out (hh.out.turns H7.t) H7.t
          clear H7 H6 hVh hh hrh hokh hm hRS hmine hrows hBok hz3
          go_wp2_with fail
          refine bodyPost_ret (res_list (rs := [.cell 8 24, .tmp 9]) rfl (by simp) (.cell (w.heap.size + 1 + 1 + 1) _ _ _ rfl hB Try.underlying24 rfl (by kernel_rfl) (.tmp .nil))) rfl ?_
          exact hX
        · have g2 : decide ((B.length : Int) ≥ keys) = false := decide_eq_false hfull
          have hb := hb0h.out
          rw [if_neg hfull] at hb
          have hbh := Lib.hid hb
          clear hfull hb hz3
          have hb := hbh
          clear hbh
          go_wp2_with fail
          have HD := Lib.hid H6.out.drew
          have hRT : Hid (RTS ([w.heap.size + 1 + 1 + 1] ++ G) w5.drew (.slice A5 B.length c5) (B)) := Lib.hid (⟨_, fun W t => hRS.out W (((Turns.refl ([w.heap.size + 1 + 1 + 1] ++ G) w5).drew).trans t)⟩)
          go_wp2_with fail
          refine wp_region_flo2 [(0, true, [5]), (1, true, [6]), (2, true, [6]), (3, true, [6]), (4, true, [6]), (5, false, []), (6, false, []), (7, false, []), (8, true, [])] (fun j W => j ≠ 7 → Turns [] w5.drew W) (by kernel_rfl) rfl (by kernel_rfl) (by intro c d v a w h; cases d <;> first | (simpa [Exit.then, Exit.inBlock, Act.put] using h) | exact h) ?_
          generalize w5.drew = w3 at *
          skip
          have x0 : World.cell? (w3) ⟨b9 + 1, 0, none⟩ = some _ := (HD.out.blk 0 rfl).cell 0
          have x1 : World.cell? (w3) ⟨b9 + 1, 1, none⟩ = some _ := (HD.out.blk 0 rfl).cell 1
          have y0 : World.cell? (w3) ⟨b9, 0, none⟩ = some _ := (HD.out.blk 1 rfl).cell 0
          have y1 : World.cell? (w3) ⟨b9, 1, none⟩ = some _ := (HD.out.blk 1 rfl).cell 1
          have n0 : World.cell? (w3) ⟨w.heap.size + 1, 0, none⟩ = some _ := (HD.out.blk 4 rfl).cell 0
          have Lk := Lib.hid (look_is ([w.heap.size + 1 + 1 + 1] ++ G) w3 w3 start key now q _ (B) hRT.out (Turns.refl _ _) (by have := (rwAt_ok (start := start) hBok.out key).len; omega))
          refine flo2_read _ rfl (fun W => Turns [] w3 W) (Turns.refl _ _) (fun j hj W k => k (by simp at hj; omega)) (fun K hK => ?_)
          go_simp
          first | (refine hK _ ?_) | (refine ⟨fun W hS => ?_, hK _ ?_⟩; · (have X0 := hS.old x0; have X1 := hS.old x1; have Y0 := hS.old y0; have Y1 := hS.old y1; have N0 := hS.old n0; try go_simp))
          clear hK K
          refine flo2_read _ rfl (fun W => Turns [] w3 W) (Turns.refl _ _) (fun j hj W k => k (by simp at hj; omega)) (fun K hK => ?_)
          go_simp
          first | (refine hK _ ?_) | (refine ⟨fun W hS => ?_, hK _ ?_⟩; · (have X0 := hS.old x0; have X1 := hS.old x1; have Y0 := hS.old y0; have Y1 := hS.old y1; have N0 := hS.old n0; try go_simp))
          clear hK K
          refine flo2_read _ rfl (fun W => Turns [] w3 W) (Turns.refl _ _) (fun j hj W k => k (by simp at hj; omega)) (fun K hK => ?_)
          go_simp
          first | (refine hK _ ?_) | (refine ⟨fun W hS => ?_, hK _ ?_⟩; · (have X0 := hS.old x0; have X1 := hS.old x1; have Y0 := hS.old y0; have Y1 := hS.old y1; have N0 := hS.old n0; try go_simp))
          clear hK K
          refine flo2_read _ rfl (fun W => Turns [] w3 W) (Turns.refl _ _) (fun j hj W k => k (by simp at hj; omega)) (fun K hK => ?_)
          go_simp
          first | (refine hK _ ?_) | (refine ⟨fun W hS => ?_, hK _ ?_⟩; · (have X0 := hS.old x0; have X1 := hS.old x1; have Y0 := hS.old y0; have Y1 := hS.old y1; have N0 := hS.old n0; try go_simp))
          clear hK K
          refine flo2_read _ rfl (fun W => Turns [] w3 W) (Turns.refl _ _) (fun j hj W k => k (by simp at hj; omega)) (fun K hK => ?_)
          go_simp
          first | (refine hK _ ?_) | (refine ⟨fun W hS => ?_, hK _ ?_⟩; · (have X0 := hS.old x0; have X1 := hS.old x1; have Y0 := hS.old y0; have Y1 := hS.old y1; have N0 := hS.old n0; try go_simp))
          clear hK K
          clear x0 x1 y0 y1 n0
          refine flo2_alone _ rfl ?_
          go_wp2_with fail
          go_at_call 14
          refine Calls.mono (Lk.out) ?_
          rintro e w4 ⟨x, rfl, hx, t4⟩
          have Wi := Lib.hid (with_is ([w.heap.size + 1 + 1 + 1] ++ G) w4 start _ (B) x _ (hRT.out.turns t4) (hx.turns t4) (gl (Blk.lt ((HD.out.turns t4).blk 2 rfl)) (HD.out.turns t4).t hGh.out) (by have := hBok.out.len; omega))
          have t4h := Lib.hid t4
          clear hx Lk
          go_wp2_with fail
          refine ⟨fun _ => t4, _, fun _ _ h => h, ?_⟩
          clear t4
          refine flo2_alone _ rfl ?_
          go_wp2_with fail
          go_at_call 59
          refine Calls.mono (Wi.out) ?_
          rintro e w5 ⟨v', rfl, hT, t5⟩
          obtain ⟨A', c', hv', _⟩ := hT.rt.form
          obtain ⟨L', hL'⟩ : ∃ L', (withR (B) (lookR start (B) key now q)).length = L' := ⟨_, rfl⟩
          rw [hL'] at hv'
          subst hv'
          clear hL'
          have T5 := t4h.out.trans t5
          go_wp2_with fail
          refine ⟨fun _ => T5, _, fun _ _ h => h, ?_⟩
          have H5 := HD.out.turns T5
          clear Wi t5 T5 t4h
          have z0 : World.cell? (w5) ⟨w.heap.size + 1 + 1 + 1, 0, none⟩ = some _ := (H5.blk 2 rfl).cell 0
          have zf0 : World.frozen? (w5) ⟨w.heap.size + 1 + 1 + 1, 0, none⟩ = false := (H5.blk 2 rfl).frozen 0
          have z1 : World.cell? (w5) ⟨w.heap.size + 1 + 1 + 1, 1, none⟩ = some _ := (H5.blk 2 rfl).cell 1
          have zf1 : World.frozen? (w5) ⟨w.heap.size + 1 + 1 + 1, 1, none⟩ = false := (H5.blk 2 rfl).frozen 1
          refine flo2_alone _ rfl ?_
          go_wp2_with fail
          refine ⟨by simp, _, fun _ _ h => h, ?_⟩
          first
            | (refine flo2_read _ rfl (fun _ => True) trivial (fun _ _ _ _ => trivial) (fun K hK => ?_); go_simp; first | (refine hK _ ?_) | (refine ⟨fun W _ => ?_, hK _ ?_⟩; · (go_simp)) | (refine ⟨fun W => ?_, hK _ ?_⟩; · (go_simp)))
            | (refine flo2_read _ rfl (fun W => W = _) rfl (by simp) (fun K hK => ?_); go_simp; first | (refine hK _ ?_) | (refine ⟨fun W hS => ?_, hK _ ?_⟩; · (subst hS; go_simp)) | (refine ⟨?_, hK _ ?_⟩; · (go_simp)))
          clear hK K
          refine flo2_end ?_
          have H6 := (H5.set 2 rfl 0 (.int .i64 start)).set 2 rfl 1 (.slice A' L' c')
          have hB := H6.blk 2 rfl
          have T6 := ((Turns.refl [w.heap.size + 1 + 1 + 1] w5).setCell (p := ⟨w.heap.size + 1 + 1 + 1, 0, none⟩) (by simp) (.int .i64 start)).setCell (p := ⟨w.heap.size + 1 + 1 + 1, 1, none⟩) (by simp) (.slice A' L' c')
          have hX := hVh.out _ (.slice A' L' c') _ 0 (mint_good hqh.out hb.out) (RTS.less hT T6) H6.t
          clear H5 H6 T6 hRT HD z0 z1 zf0 zf1
          go_wp2_with fail
          refine bodyPost_ret (res_list (rs := [.cell 8 24, .tmp 9]) rfl (by simp) (.cell (w.heap.size + 1 + 1 + 1) _ _ _ rfl hB Try.underlying24 rfl (by kernel_rfl) (.tmp .nil))) rfl ?_
          exact hX
      · have g1 : decide ((R.length : Int) ≥ keys) = false := decide_eq_false hroom
        have hb := Lib.hid (base_room (start := start) (now := now) (key := key) (R := R) (c := cfg C) (by rw [hkkh.out]; exact hroom))
        have hBok := hokh
        rw [hat] at hA
        clear hat hroom
        go_enter Try.func30, Try.ntmps30
        go_wp2_with fail
        go_at_call 54
        refine Calls.mono (hR.out) ?_
        rintro e w1 ⟨rfl, t1⟩
        have H1 := Lib.hid (((Hh.out.turns t1).alloc #[.int .i64 q.1, .int .i64 q.2] 44).alloc #[.int .i64 start, .slice A R.length cc] 24)
        rw [World.size_alloc] at H1
        have a0 : World.cell? (w1.alloc (.cells #[.int .i64 q.1, .int .i64 q.2] 44)) ⟨w.heap.size, 0, none⟩ = some _ := (((Hh.out.turns t1).alloc #[.int .i64 q.1, .int .i64 q.2] 44).blk 4 rfl).cell 0
        have a1 : World.cell? (w1.alloc (.cells #[.int .i64 q.1, .int .i64 q.2] 44)) ⟨w.heap.size, 1, none⟩ = some _ := (((Hh.out.turns t1).alloc #[.int .i64 q.1, .int .i64 q.2] 44).blk 4 rfl).cell 1
        have e0 : World.cell? ((w1.alloc (.cells #[.int .i64 q.1, .int .i64 q.2] 44)).alloc (.cells #[.int .i64 start, .slice A R.length cc] 24)) ⟨w.heap.size, 0, none⟩ = some _ := (H1.out.blk 5 rfl).cell 0
        have e1 : World.cell? ((w1.alloc (.cells #[.int .i64 q.1, .int .i64 q.2] 44)).alloc (.cells #[.int .i64 start, .slice A R.length cc] 24)) ⟨w.heap.size, 1, none⟩ = some _ := (H1.out.blk 5 rfl).cell 1
        clear c0 c1 c2 c3 c4 c5 c6 c7 c8 Hh t1
        go_wp2_with fail
        go_at_call 37
        refine Calls.mono (hA.out _ H1.out.t) ?_
        rintro e w2 ⟨rfl, t2⟩
        have H2 := Lib.hid (H1.out.turns t2)
        generalize hb9 : w1.heap.size = b9 at *
        clear H1 t2 a0 a1 e0 e1 hA hR
        have a0 : World.cell? (w2) ⟨w.heap.size, 0, none⟩ = some _ := (H2.out.blk 5 rfl).cell 0
        have a1 : World.cell? (w2) ⟨w.heap.size, 1, none⟩ = some _ := (H2.out.blk 5 rfl).cell 1
        have c6 : World.cell? (w2) ⟨w.heap.size + 1 + 1, 6, none⟩ = some _ := (H2.out.blk 3 rfl).cell 6
        go_wp2_with fail
        have HD := Lib.hid H2.out.drew
        have hRT : Hid (RTS ([w.heap.size + 1 + 1 + 1] ++ G) w2.drew (.slice A R.length cc) (R)) := Lib.hid (RTS.more hh.out H2.out.t.drew (by intro k hk; rw [List.mem_singleton.1 hk]; omega))
        go_wp2_with fail
        refine wp_region_flo2 [(0, true, [5]), (1, true, [6]), (2, true, [6]), (3, true, [6]), (4, true, [6]), (5, false, []), (6, false, []), (7, false, []), (8, true, [])] (fun j W => j ≠ 7 → Turns [] w2.drew W) (by kernel_rfl) rfl (by kernel_rfl) (by intro c d v a w h; cases d <;> first | (simpa [Exit.then, Exit.inBlock, Act.put] using h) | exact h) ?_
        generalize w2.drew = w3 at *
        skip
        have x0 : World.cell? (w3) ⟨b9 + 1, 0, none⟩ = some _ := (HD.out.blk 0 rfl).cell 0
        have x1 : World.cell? (w3) ⟨b9 + 1, 1, none⟩ = some _ := (HD.out.blk 0 rfl).cell 1
        have y0 : World.cell? (w3) ⟨b9, 0, none⟩ = some _ := (HD.out.blk 1 rfl).cell 0
        have y1 : World.cell? (w3) ⟨b9, 1, none⟩ = some _ := (HD.out.blk 1 rfl).cell 1
        have n0 : World.cell? (w3) ⟨w.heap.size + 1, 0, none⟩ = some _ := (HD.out.blk 4 rfl).cell 0
        have Lk := Lib.hid (look_is ([w.heap.size + 1 + 1 + 1] ++ G) w3 w3 start key now q _ (R) hRT.out (Turns.refl _ _) (by have := (rwAt_ok (start := start) hBok.out key).len; omega))
        refine flo2_read _ rfl (fun W => Turns [] w3 W) (Turns.refl _ _) (fun j hj W k => k (by simp at hj; omega)) (fun K hK => ?_)
        go_simp
        first | (refine hK _ ?_) | (refine ⟨fun W hS => ?_, hK _ ?_⟩; · (have X0 := hS.old x0; have X1 := hS.old x1; have Y0 := hS.old y0; have Y1 := hS.old y1; have N0 := hS.old n0; try go_simp))
        clear hK K
        refine flo2_read _ rfl (fun W => Turns [] w3 W) (Turns.refl _ _) (fun j hj W k => k (by simp at hj; omega)) (fun K hK => ?_)
        go_simp
        first | (refine hK _ ?_) | (refine ⟨fun W hS => ?_, hK _ ?_⟩; · (have X0 := hS.old x0; have X1 := hS.old x1; have Y0 := hS.old y0; have Y1 := hS.old y1; have N0 := hS.old n0; try go_simp))
        clear hK K
        refine flo2_read _ rfl (fun W => Turns [] w3 W) (Turns.refl _ _) (fun j hj W k => k (by simp at hj; omega)) (fun K hK => ?_)
        go_simp
        first | (refine hK _ ?_) | (refine ⟨fun W hS => ?_, hK _ ?_⟩; · (have X0 := hS.old x0; have X1 := hS.old x1; have Y0 := hS.old y0; have Y1 := hS.old y1; have N0 := hS.old n0; try go_simp))
        clear hK K
        refine flo2_read _ rfl (fun W => Turns [] w3 W) (Turns.refl _ _) (fun j hj W k => k (by simp at hj; omega)) (fun K hK => ?_)
        go_simp
        first | (refine hK _ ?_) | (refine ⟨fun W hS => ?_, hK _ ?_⟩; · (have X0 := hS.old x0; have X1 := hS.old x1; have Y0 := hS.old y0; have Y1 := hS.old y1; have N0 := hS.old n0; try go_simp))
        clear hK K
        refine flo2_read _ rfl (fun W => Turns [] w3 W) (Turns.refl _ _) (fun j hj W k => k (by simp at hj; omega)) (fun K hK => ?_)
        go_simp
        first | (refine hK _ ?_) | (refine ⟨fun W hS => ?_, hK _ ?_⟩; · (have X0 := hS.old x0; have X1 := hS.old x1; have Y0 := hS.old y0; have Y1 := hS.old y1; have N0 := hS.old n0; try go_simp))
        clear hK K
        clear x0 x1 y0 y1 n0
        refine flo2_alone _ rfl ?_
        go_wp2_with fail
        go_at_call 14
        refine Calls.mono (Lk.out) ?_
        rintro e w4 ⟨x, rfl, hx, t4⟩
        have Wi := Lib.hid (with_is ([w.heap.size + 1 + 1 + 1] ++ G) w4 start _ (R) x _ (hRT.out.turns t4) (hx.turns t4) (gl (Blk.lt ((HD.out.turns t4).blk 2 rfl)) (HD.out.turns t4).t hGh.out) (by have := hBok.out.len; omega))
        have t4h := Lib.hid t4
        clear hx Lk
        go_wp2_with fail
        refine ⟨fun _ => t4, _, fun _ _ h => h, ?_⟩
        clear t4
        refine flo2_alone _ rfl ?_
        go_wp2_with fail
        go_at_call 59
        refine Calls.mono (Wi.out) ?_
        rintro e w5 ⟨v', rfl, hT, t5⟩
        obtain ⟨A', c', hv', _⟩ := hT.rt.form
        obtain ⟨L', hL'⟩ : ∃ L', (withR (R) (lookR start (R) key now q)).length = L' := ⟨_, rfl⟩
        rw [hL'] at hv'
        subst hv'
        clear hL'
        have T5 := t4h.out.trans t5
        go_wp2_with fail
        refine ⟨fun _ => T5, _, fun _ _ h => h, ?_⟩
        have H5 := HD.out.turns T5
        clear Wi t5 T5 t4h
        have z0 : World.cell? (w5) ⟨w.heap.size + 1 + 1 + 1, 0, none⟩ = some _ := (H5.blk 2 rfl).cell 0
        have zf0 : World.frozen? (w5) ⟨w.heap.size + 1 + 1 + 1, 0, none⟩ = false := (H5.blk 2 rfl).frozen 0
        have z1 : World.cell? (w5) ⟨w.heap.size + 1 + 1 + 1, 1, none⟩ = some _ := (H5.blk 2 rfl).cell 1
        have zf1 : World.frozen? (w5) ⟨w.heap.size + 1 + 1 + 1, 1, none⟩ = false := (H5.blk 2 rfl).frozen 1
        refine flo2_alone _ rfl ?_
        go_wp2_with fail
        refine ⟨by simp, _, fun _ _ h => h, ?_⟩
        first
          | (refine flo2_read _ rfl (fun _ => True) trivial (fun _ _ _ _ => trivial) (fun K hK => ?_); go_simp; first | (refine hK _ ?_) | (refine ⟨fun W _ => ?_, hK _ ?_⟩; · (go_simp)) | (refine ⟨fun W => ?_, hK _ ?_⟩; · (go_simp)))
          | (refine flo2_read _ rfl (fun W => W = _) rfl (by simp) (fun K hK => ?_); go_simp; first | (refine hK _ ?_) | (refine ⟨fun W hS => ?_, hK _ ?_⟩; · (subst hS; go_simp)) | (refine ⟨?_, hK _ ?_⟩; · (go_simp)))
        clear hK K
        refine flo2_end ?_
        have H6 := (H5.set 2 rfl 0 (.int .i64 start)).set 2 rfl 1 (.slice A' L' c')
        have hB := H6.blk 2 rfl
        have T6 := ((Turns.refl [w.heap.size + 1 + 1 + 1] w5).setCell (p := ⟨w.heap.size + 1 + 1 + 1, 0, none⟩) (by simp) (.int .i64 start)).setCell (p := ⟨w.heap.size + 1 + 1 + 1, 1, none⟩) (by simp) (.slice A' L' c')
        have hX := hVh.out _ (.slice A' L' c') _ 0 (mint_good hqh.out hb.out) (RTS.less hT T6) H6.t
        clear H5 H6 T6 hRT HD z0 z1 zf0 zf1
        go_wp2_with fail
        refine bodyPost_ret (res_list (rs := [.cell 8 24, .tmp 9]) rfl (by simp) (.cell (w.heap.size + 1 + 1 + 1) _ _ _ rfl hB Try.underlying24 rfl (by kernel_rfl) (.tmp .nil))) rfl ?_
        exact hX
end Go.Proofs.Ytphhfdlhkginkaa.Br
