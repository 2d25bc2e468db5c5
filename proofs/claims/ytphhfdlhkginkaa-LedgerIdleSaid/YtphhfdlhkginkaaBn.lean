/- Rates; the ledger's idle. -/
import Derived.Test.YtphhfdlhkginkaaCb
import Derived.Test.YtphhfdlhkginkaaBc
import Derived.Test.YtphhfdlhkginkaaWh
set_option linter.unusedVariables false
set_option linter.unusedSimpArgs false
set_option maxRecDepth 100000
namespace Go.Proofs.Ytphhfdlhkginkaa.Bn
open Go.RowKit Go.MapKept Hm Hs Hr Hb Hf Hx Hy Hv Fa Ff Ba Bc Cf Cn Sm Sat Mu Mv Ca Cb
def cfg (c : Cfg) : Ba.Cf := ⟨c.skew, c.keys, c.rates⟩
theorem rateR_some {c : Cfg} {k : Int} {q : Int × Int} (h : rateR (cfg c) k = some q) : (0 ≤ k ∧ k < 524288) ∧ c.rates[(k / 65536).toNat]? = some q := by
  unfold rateR cfg at h
  split at h
  · exact ⟨by assumption, h⟩
  · cases h
theorem rateR_none {c : Cfg} {k : Int} (h : rateR (cfg c) k = none) : ¬ hasRate k c.rates.length := by
  rintro ⟨h1, h2⟩
  unfold rateR cfg at h
  rw [if_pos h1] at h
  rw [List.getElem?_eq_none_iff] at h
  simp only at h
  omega
theorem rate_some (w : World) (c : Cfg) (k : Int) (q : Int × Int) (hr : RdS 2 w c.rv (rts c.rates)) (h : rateR (cfg c) k = some q) : Calls Try.prog 54 #[c.v, .int .i64 k] w fun e w' => e = .returned (.tuple #[.agg #[.int .i64 q.1, .int .i64 q.2], .bool true]) ∧ Turns [] w w' := by
  obtain ⟨h1, h2⟩ := rateR_some h
  exact rate_yes w c k q hr h1 h2
theorem rate_none (w : World) (c : Cfg) (k : Int) (hr : RdS 2 w c.rv (rts c.rates)) (h : rateR (cfg c) k = none) : Calls Try.prog 54 #[c.v, .int .i64 k] w fun e w' => e = .returned (.tuple #[.agg #[.int .i64 0, .int .i64 0], .bool false]) ∧ Turns [] w w' := by
  obtain ⟨A, cap, hA, _⟩ := hr.form
  rw [rts_len] at hA
  exact rate_no w c k A cap hA (rateR_none h)
theorem drate_some (w : World) (c : Cfg) (k : Int) (q : Int × Int) (hr : RdS 2 w c.rv (rts c.rates)) (h : rateR (cfg c) k = some q) : Calls Try.prog 26 #[c.v, .int .i64 k] w fun e w' => ∃ p : Nat, e = .returned (.int .i64 p) ∧ c.rates[p]? = some q ∧ Turns [] w w' := by
  obtain ⟨A, cap, hA, _⟩ := hr.form
  rw [rts_len] at hA
  obtain ⟨h1, h2⟩ := rateR_some h
  obtain ⟨p, hp⟩ : ∃ p : Nat, k / 65536 = p := ⟨(k / 65536).toNat, by omega⟩
  rw [hp, Int.toNat_natCast] at h2
  refine (drate_yes w c k p A cap hA h1 hp (List.getElem?_eq_some_iff.1 h2).1).mono ?_
  rintro e w' ⟨rfl, t⟩
  exact ⟨p, rfl, h2, t⟩
theorem drate_none (w : World) (c : Cfg) (k : Int) (hr : RdS 2 w c.rv (rts c.rates)) (h : rateR (cfg c) k = none) : Calls Try.prog 26 #[c.v, .int .i64 k] w fun e w' => e = .returned (.int .i64 (-1)) ∧ Turns [] w w' := by
  obtain ⟨A, cap, hA, _⟩ := hr.form
  rw [rts_len] at hA
  exact drate_no w c k A cap hA (rateR_none h)
theorem mul_two (s : Int) : mul 2 s = two s s := by
  unfold mul two
  rw [show fit 2 = 2 from by decide]
  have := fit_bd s
  omega
theorem idle_no {start now : Int} {c : Ba.Cf} {r : Row} (h : rateR c r.key = none) : idleR start c now r = false := by unfold idleR; rw [h]
theorem idle_yes {start now : Int} {c : Ba.Cf} {r : Row} {q : Int × Int} (h : rateR c r.key = some q) : idleR start c now r = (decide (sub now (two c.skew c.skew) ≥ r.mark) && (((r.out.length : Int) == 0) && ((r.avail == q.2) && decide (mul q.1 (sub r.mark start) ≥ q.2)))) := by unfold idleR; rw [h]
set_option maxHeartbeats 8000000 in
theorem idle_is (w : World) (start now : Int) (v : Value) (R : List Row) (x : Rw) (r : Row) (c : Cfg) (h : RT w v R) (hx : RowIs w x r) (hr : RdS 2 w c.rv (rts c.rates)) : Calls Try.prog 58 #[.agg #[.int .i64 start, v], x.v, .int .i64 now, c.v] w fun e w' => e = .returned (.bool (idleR start (cfg c) now r)) ∧ Turns [] w w' := by
  obtain ⟨Ao, co, rfl, ho⟩ := row_form hx
  obtain ⟨A, cc, rfl, hlc, hcm⟩ := h.form
  have hR1 := Lib.hid (fun W q (t : Turns [] w W) h => rate_some W c r.key q (hr.mv (fun a u => t.old)) h)
  have hR2 := Lib.hid (fun W (t : Turns [] w W) h => rate_none W c r.key (hr.mv (fun a u => t.old)) h)
  obtain ⟨Ar, cr, hrv, hlr, hcr⟩ := hr.form
  rw [rts_len] at hrv hlr
  obtain ⟨n, skew, ttl, valid, loss, hear, keys, queue, rv, rates⟩ := c
  simp only at hrv hlr hR1 hR2
  subst hrv
  unfold Cfg.v at hR1 hR2 ⊢
  simp only at hR1 hR2 ⊢
  unfold Rw.v
  simp only
  have H := (((Sep.start w).alloc #[.int .i64 start, .slice A R.length cc] 24).alloc #[.int .i64 r.key, .int .i64 r.avail, .int .i64 r.mark, .slice Ao r.out.length co] 38).alloc #[.int .i64 n, .int .i64 skew, .int .i64 ttl, .int .i64 valid, .int .i64 loss, .int .i64 hear, .int .i64 keys, .int .i64 queue, .slice Ar rates.length cr] 27
  rw [World.size_alloc, World.size_alloc] at H
  have Hh := Lib.hid H
  obtain ⟨C, hC⟩ : ∃ C : Cfg, C = ⟨n, skew, ttl, valid, loss, hear, keys, queue, .slice Ar rates.length cr, rates⟩ := ⟨_, rfl⟩
  rw [← hC] at hR1 hR2 ⊢
  have hsk : (cfg C).skew = skew := by rw [hC]; rfl
  clear h hx hr ho H hC
  cases hq : rateR (cfg C) r.key with
  | none =>
    rw [idle_no hq]
    have hR := Lib.hid (hR2.out _ Hh.out.t hq)
    clear hR1 hR2 hq
    go_enter Try.func58, Try.ntmps58
    go_wp2_with fail
    go_at_call 54
    refine Calls.mono (hR.out) ?_
    rintro e w1 ⟨rfl, t1⟩
    have HD := Lib.hid (((Hh.out.turns t1).alloc #[.int .i64 0, .int .i64 0] 44).drew)
    clear t1 Hh
    go_wp2_with fail
    go_wp2_with fail
    refine wp_region_flo [(0, true), (1, true), (2, true), (3, true), (4, true), (7, true), (8, true), (5, false), (6, false), (9, true), (10, true), (11, true), (12, true), (13, true), (14, true), (15, true), (16, true), (17, true), (18, true), (19, true), (20, true), (21, true), (22, true), (23, true), (24, true), (25, true), (26, true), (27, true), (28, true), (29, true), (30, true), (33, true), (34, true), (31, false), (32, false), (35, true), (36, true), (37, true)] (fun W => Turns [] (w1.alloc (.cells #[.int .i64 0, .int .i64 0] 44)).drew W) (by kernel_rfl) rfl (by kernel_rfl) (by intro c d v a w h; cases d <;> first | (simpa [Exit.then, Exit.inBlock, Act.put] using h) | exact h) (Turns.refl _ _) ?_
    generalize hb9 : w1.heap.size = b9 at *
    generalize (w1.alloc (.cells #[.int .i64 0, .int .i64 0] 44)).drew = w2 at *
    have a1 : World.cell? (w2) ⟨w.heap.size + 1 + 1, 1, none⟩ = some _ := (HD.out.blk 1 rfl).cell 1
    have d0 : World.cell? (w2) ⟨w.heap.size + 1, 0, none⟩ = some _ := (HD.out.blk 2 rfl).cell 0
    have d1 : World.cell? (w2) ⟨w.heap.size + 1, 1, none⟩ = some _ := (HD.out.blk 2 rfl).cell 1
    have d2 : World.cell? (w2) ⟨w.heap.size + 1, 2, none⟩ = some _ := (HD.out.blk 2 rfl).cell 2
    have d3 : World.cell? (w2) ⟨w.heap.size + 1, 3, none⟩ = some _ := (HD.out.blk 2 rfl).cell 3
    have e0 : World.cell? (w2) ⟨w.heap.size, 0, none⟩ = some _ := (HD.out.blk 3 rfl).cell 0
    have f0 : World.cell? (w2) ⟨b9, 0, none⟩ = some _ := (HD.out.blk 0 rfl).cell 0
    have f1 : World.cell? (w2) ⟨b9, 1, none⟩ = some _ := (HD.out.blk 0 rfl).cell 1
    refine flo_read _ rfl (fun K hK => ?_)
    go_simp
    first | (refine hK _ ?_) | (refine ⟨fun W hS => ?_, hK _ ?_⟩; · (have Y1 := hS.old a1; have Z1 := hS.old d1; have Z2 := hS.old d2; have Z3 := hS.old d3; have E0 := hS.old e0; have F0 := hS.old f0; have F1 := hS.old f1; try go_simp))
    clear hK K
    refine flo_read _ rfl (fun K hK => ?_)
    go_simp
    first | (refine hK _ ?_) | (refine ⟨fun W hS => ?_, hK _ ?_⟩; · (have Y1 := hS.old a1; have Z1 := hS.old d1; have Z2 := hS.old d2; have Z3 := hS.old d3; have E0 := hS.old e0; have F0 := hS.old f0; have F1 := hS.old f1; try go_simp))
    clear hK K
    refine flo_read _ rfl (fun K hK => ?_)
    go_simp
    first | (refine hK _ ?_) | (refine ⟨fun W hS => ?_, hK _ ?_⟩; · (have Y1 := hS.old a1; have Z1 := hS.old d1; have Z2 := hS.old d2; have Z3 := hS.old d3; have E0 := hS.old e0; have F0 := hS.old f0; have F1 := hS.old f1; try go_simp))
    clear hK K
    refine flo_read _ rfl (fun K hK => ?_)
    go_simp
    first | (refine hK _ ?_) | (refine ⟨fun W hS => ?_, hK _ ?_⟩; · (have Y1 := hS.old a1; have Z1 := hS.old d1; have Z2 := hS.old d2; have Z3 := hS.old d3; have E0 := hS.old e0; have F0 := hS.old f0; have F1 := hS.old f1; try go_simp))
    clear hK K
    refine flo_read _ rfl (fun K hK => ?_)
    go_simp
    first | (refine hK _ ?_) | (refine ⟨fun W hS => ?_, hK _ ?_⟩; · (have Y1 := hS.old a1; have Z1 := hS.old d1; have Z2 := hS.old d2; have Z3 := hS.old d3; have E0 := hS.old e0; have F0 := hS.old f0; have F1 := hS.old f1; try go_simp))
    clear hK K
    refine flo_read _ rfl (fun K hK => ?_)
    go_simp
    first | (refine hK _ ?_) | (refine ⟨fun W hS => ?_, hK _ ?_⟩; · (have Y1 := hS.old a1; have Z1 := hS.old d1; have Z2 := hS.old d2; have Z3 := hS.old d3; have E0 := hS.old e0; have F0 := hS.old f0; have F1 := hS.old f1; try go_simp))
    clear hK K
    refine flo_read _ rfl (fun K hK => ?_)
    go_simp
    first | (refine hK _ ?_) | (refine ⟨fun W hS => ?_, hK _ ?_⟩; · (have Y1 := hS.old a1; have Z1 := hS.old d1; have Z2 := hS.old d2; have Z3 := hS.old d3; have E0 := hS.old e0; have F0 := hS.old f0; have F1 := hS.old f1; try go_simp))
    clear hK K
    refine flo_alone _ rfl ?_
    go_wp2_with fail
    refine ⟨fun W => Turns [] w2 W, fun W h => h, Turns.refl _ _, ?_⟩
    refine flo_alone _ rfl ?_
    go_wp2_with fail
    refine ⟨fun W => Turns [] w2 W, fun W h => h, Turns.refl _ _, ?_⟩
    refine flo_read _ rfl (fun K hK => ?_)
    go_simp
    first | (refine hK _ ?_) | (refine ⟨fun W hS => ?_, hK _ ?_⟩; · (have Y1 := hS.old a1; have Z1 := hS.old d1; have Z2 := hS.old d2; have Z3 := hS.old d3; have E0 := hS.old e0; have F0 := hS.old f0; have F1 := hS.old f1; try go_simp))
    clear hK K
    refine flo_read _ rfl (fun K hK => ?_)
    go_simp
    first | (refine hK _ ?_) | (refine ⟨fun W hS => ?_, hK _ ?_⟩; · (have Y1 := hS.old a1; have Z1 := hS.old d1; have Z2 := hS.old d2; have Z3 := hS.old d3; have E0 := hS.old e0; have F0 := hS.old f0; have F1 := hS.old f1; try go_simp))
    clear hK K
    refine flo_read _ rfl (fun K hK => ?_)
    go_simp
    first | (refine hK _ ?_) | (refine ⟨fun W hS => ?_, hK _ ?_⟩; · (have Y1 := hS.old a1; have Z1 := hS.old d1; have Z2 := hS.old d2; have Z3 := hS.old d3; have E0 := hS.old e0; have F0 := hS.old f0; have F1 := hS.old f1; try go_simp))
    clear hK K
    refine flo_read _ rfl (fun K hK => ?_)
    go_simp
    first | (refine hK _ ?_) | (refine ⟨fun W hS => ?_, hK _ ?_⟩; · (have Y1 := hS.old a1; have Z1 := hS.old d1; have Z2 := hS.old d2; have Z3 := hS.old d3; have E0 := hS.old e0; have F0 := hS.old f0; have F1 := hS.old f1; try go_simp))
    clear hK K
    refine flo_read _ rfl (fun K hK => ?_)
    go_simp
    first | (refine hK _ ?_) | (refine ⟨fun W hS => ?_, hK _ ?_⟩; · (have Y1 := hS.old a1; have Z1 := hS.old d1; have Z2 := hS.old d2; have Z3 := hS.old d3; have E0 := hS.old e0; have F0 := hS.old f0; have F1 := hS.old f1; try go_simp))
    clear hK K
    refine flo_read _ rfl (fun K hK => ?_)
    go_simp
    first | (refine hK _ ?_) | (refine ⟨fun W hS => ?_, hK _ ?_⟩; · (have Y1 := hS.old a1; have Z1 := hS.old d1; have Z2 := hS.old d2; have Z3 := hS.old d3; have E0 := hS.old e0; have F0 := hS.old f0; have F1 := hS.old f1; try go_simp))
    clear hK K
    refine flo_read _ rfl (fun K hK => ?_)
    go_simp
    first | (refine hK _ ?_) | (refine ⟨fun W hS => ?_, hK _ ?_⟩; · (have Y1 := hS.old a1; have Z1 := hS.old d1; have Z2 := hS.old d2; have Z3 := hS.old d3; have E0 := hS.old e0; have F0 := hS.old f0; have F1 := hS.old f1; try go_simp))
    clear hK K
    refine flo_read _ rfl (fun K hK => ?_)
    go_simp
    first | (refine hK _ ?_) | (refine ⟨fun W hS => ?_, hK _ ?_⟩; · (have Y1 := hS.old a1; have Z1 := hS.old d1; have Z2 := hS.old d2; have Z3 := hS.old d3; have E0 := hS.old e0; have F0 := hS.old f0; have F1 := hS.old f1; try go_simp))
    clear hK K
    refine flo_read _ rfl (fun K hK => ?_)
    go_simp
    first | (refine hK _ ?_) | (refine ⟨fun W hS => ?_, hK _ ?_⟩; · (have Y1 := hS.old a1; have Z1 := hS.old d1; have Z2 := hS.old d2; have Z3 := hS.old d3; have E0 := hS.old e0; have F0 := hS.old f0; have F1 := hS.old f1; try go_simp))
    clear hK K
    refine flo_read _ rfl (fun K hK => ?_)
    go_simp
    first | (refine hK _ ?_) | (refine ⟨fun W hS => ?_, hK _ ?_⟩; · (have Y1 := hS.old a1; have Z1 := hS.old d1; have Z2 := hS.old d2; have Z3 := hS.old d3; have E0 := hS.old e0; have F0 := hS.old f0; have F1 := hS.old f1; try go_simp))
    clear hK K
    refine flo_read _ rfl (fun K hK => ?_)
    go_simp
    first | (refine hK _ ?_) | (refine ⟨fun W hS => ?_, hK _ ?_⟩; · (have Y1 := hS.old a1; have Z1 := hS.old d1; have Z2 := hS.old d2; have Z3 := hS.old d3; have E0 := hS.old e0; have F0 := hS.old f0; have F1 := hS.old f1; try go_simp))
    clear hK K
    refine flo_read _ rfl (fun K hK => ?_)
    go_simp
    first | (refine hK _ ?_) | (refine ⟨fun W hS => ?_, hK _ ?_⟩; · (have Y1 := hS.old a1; have Z1 := hS.old d1; have Z2 := hS.old d2; have Z3 := hS.old d3; have E0 := hS.old e0; have F0 := hS.old f0; have F1 := hS.old f1; try go_simp))
    clear hK K
    refine flo_read _ rfl (fun K hK => ?_)
    go_simp
    first | (refine hK _ ?_) | (refine ⟨fun W hS => ?_, hK _ ?_⟩; · (have Y1 := hS.old a1; have Z1 := hS.old d1; have Z2 := hS.old d2; have Z3 := hS.old d3; have E0 := hS.old e0; have F0 := hS.old f0; have F1 := hS.old f1; try go_simp))
    clear hK K
    refine flo_read _ rfl (fun K hK => ?_)
    go_simp
    first | (refine hK _ ?_) | (refine ⟨fun W hS => ?_, hK _ ?_⟩; · (have Y1 := hS.old a1; have Z1 := hS.old d1; have Z2 := hS.old d2; have Z3 := hS.old d3; have E0 := hS.old e0; have F0 := hS.old f0; have F1 := hS.old f1; try go_simp))
    clear hK K
    refine flo_read _ rfl (fun K hK => ?_)
    go_simp
    first | (refine hK _ ?_) | (refine ⟨fun W hS => ?_, hK _ ?_⟩; · (have Y1 := hS.old a1; have Z1 := hS.old d1; have Z2 := hS.old d2; have Z3 := hS.old d3; have E0 := hS.old e0; have F0 := hS.old f0; have F1 := hS.old f1; try go_simp))
    clear hK K
    refine flo_read _ rfl (fun K hK => ?_)
    go_simp
    first | (refine hK _ ?_) | (refine ⟨fun W hS => ?_, hK _ ?_⟩; · (have Y1 := hS.old a1; have Z1 := hS.old d1; have Z2 := hS.old d2; have Z3 := hS.old d3; have E0 := hS.old e0; have F0 := hS.old f0; have F1 := hS.old f1; try go_simp))
    clear hK K
    refine flo_read _ rfl (fun K hK => ?_)
    go_simp
    first | (refine hK _ ?_) | (refine ⟨fun W hS => ?_, hK _ ?_⟩; · (have Y1 := hS.old a1; have Z1 := hS.old d1; have Z2 := hS.old d2; have Z3 := hS.old d3; have E0 := hS.old e0; have F0 := hS.old f0; have F1 := hS.old f1; try go_simp))
    clear hK K
    refine flo_read _ rfl (fun K hK => ?_)
    go_simp
    first | (refine hK _ ?_) | (refine ⟨fun W hS => ?_, hK _ ?_⟩; · (have Y1 := hS.old a1; have Z1 := hS.old d1; have Z2 := hS.old d2; have Z3 := hS.old d3; have E0 := hS.old e0; have F0 := hS.old f0; have F1 := hS.old f1; try go_simp))
    clear hK K
    refine flo_read _ rfl (fun K hK => ?_)
    go_simp
    first | (refine hK _ ?_) | (refine ⟨fun W hS => ?_, hK _ ?_⟩; · (have Y1 := hS.old a1; have Z1 := hS.old d1; have Z2 := hS.old d2; have Z3 := hS.old d3; have E0 := hS.old e0; have F0 := hS.old f0; have F1 := hS.old f1; try go_simp))
    clear hK K
    refine flo_read _ rfl (fun K hK => ?_)
    go_simp
    first | (refine hK _ ?_) | (refine ⟨fun W hS => ?_, hK _ ?_⟩; · (have Y1 := hS.old a1; have Z1 := hS.old d1; have Z2 := hS.old d2; have Z3 := hS.old d3; have E0 := hS.old e0; have F0 := hS.old f0; have F1 := hS.old f1; try go_simp))
    clear hK K
    refine flo_read _ rfl (fun K hK => ?_)
    go_simp
    first | (refine hK _ ?_) | (refine ⟨fun W hS => ?_, hK _ ?_⟩; · (have Y1 := hS.old a1; have Z1 := hS.old d1; have Z2 := hS.old d2; have Z3 := hS.old d3; have E0 := hS.old e0; have F0 := hS.old f0; have F1 := hS.old f1; try go_simp))
    clear hK K
    refine flo_read _ rfl (fun K hK => ?_)
    go_simp
    first | (refine hK _ ?_) | (refine ⟨fun W hS => ?_, hK _ ?_⟩; · (have Y1 := hS.old a1; have Z1 := hS.old d1; have Z2 := hS.old d2; have Z3 := hS.old d3; have E0 := hS.old e0; have F0 := hS.old f0; have F1 := hS.old f1; try go_simp))
    clear hK K
    refine flo_read _ rfl (fun K hK => ?_)
    go_simp
    first | (refine hK _ ?_) | (refine ⟨fun W hS => ?_, hK _ ?_⟩; · (have Y1 := hS.old a1; have Z1 := hS.old d1; have Z2 := hS.old d2; have Z3 := hS.old d3; have E0 := hS.old e0; have F0 := hS.old f0; have F1 := hS.old f1; try go_simp))
    clear hK K
    refine flo_read _ rfl (fun K hK => ?_)
    go_simp
    first | (refine hK _ ?_) | (refine ⟨fun W hS => ?_, hK _ ?_⟩; · (have Y1 := hS.old a1; have Z1 := hS.old d1; have Z2 := hS.old d2; have Z3 := hS.old d3; have E0 := hS.old e0; have F0 := hS.old f0; have F1 := hS.old f1; try go_simp))
    clear hK K
    refine flo_alone _ rfl ?_
    go_wp2_with fail
    refine ⟨fun W => Turns [] w2 W, fun W h => h, Turns.refl _ _, ?_⟩
    refine flo_alone _ rfl ?_
    go_wp2_with fail
    refine ⟨fun W => Turns [] w2 W, fun W h => h, Turns.refl _ _, ?_⟩
    refine flo_read _ rfl (fun K hK => ?_)
    go_simp
    first | (refine hK _ ?_) | (refine ⟨fun W hS => ?_, hK _ ?_⟩; · (have Y1 := hS.old a1; have Z1 := hS.old d1; have Z2 := hS.old d2; have Z3 := hS.old d3; have E0 := hS.old e0; have F0 := hS.old f0; have F1 := hS.old f1; try go_simp))
    clear hK K
    refine flo_read _ rfl (fun K hK => ?_)
    go_simp
    first | (refine hK _ ?_) | (refine ⟨fun W hS => ?_, hK _ ?_⟩; · (have Y1 := hS.old a1; have Z1 := hS.old d1; have Z2 := hS.old d2; have Z3 := hS.old d3; have E0 := hS.old e0; have F0 := hS.old f0; have F1 := hS.old f1; try go_simp))
    clear hK K
    refine flo_read _ rfl (fun K hK => ?_)
    go_simp
    first | (refine hK _ ?_) | (refine ⟨fun W hS => ?_, hK _ ?_⟩; · (have Y1 := hS.old a1; have Z1 := hS.old d1; have Z2 := hS.old d2; have Z3 := hS.old d3; have E0 := hS.old e0; have F0 := hS.old f0; have F1 := hS.old f1; try go_simp))
    clear hK K
    refine flo_end ?_
    go_wp2_with fail
    go_ret
    exact ⟨rfl, HD.out.t⟩
  | some q =>
    rw [idle_yes hq, hsk]
    have hR := Lib.hid (hR1.out _ q Hh.out.t hq)
    rw [← mul_two]
    clear hR1 hR2 hq hsk
    have I1 := Lib.hid (fun w => mul_walk 2 skew w)
    generalize mul 2 skew = s1 at *
    have I2 := Lib.hid (fun w => sub_is now s1 w)
    generalize sub now s1 = s2 at *
    have I3 := Lib.hid (fun w => sub_is r.mark start w)
    generalize sub r.mark start = s3 at *
    have I4 := Lib.hid (fun w => mul_walk q.1 s3 w)
    generalize mul q.1 s3 = s4 at *
    cases g1 : decide (s2 ≥ r.mark) with
    | false =>
      rw [Bool.false_and]
      go_enter Try.func58, Try.ntmps58
      go_wp2_with fail
      go_at_call 54
      refine Calls.mono (hR.out) ?_
      rintro e w1 ⟨rfl, t1⟩
      have HD := Lib.hid (((Hh.out.turns t1).alloc #[.int .i64 q.1, .int .i64 q.2] 44).drew)
      clear t1 Hh
      go_wp2_with fail
      go_wp2_with fail
      refine wp_region_flo [(0, true), (1, true), (2, true), (3, true), (4, true), (7, true), (8, true), (5, false), (6, false), (9, true), (10, true), (11, true), (12, true), (13, true), (14, true), (15, true), (16, true), (17, true), (18, true), (19, true), (20, true), (21, true), (22, true), (23, true), (24, true), (25, true), (26, true), (27, true), (28, true), (29, true), (30, true), (33, true), (34, true), (31, false), (32, false), (35, true), (36, true), (37, true)] (fun W => Turns [] (w1.alloc (.cells #[.int .i64 q.1, .int .i64 q.2] 44)).drew W) (by kernel_rfl) rfl (by kernel_rfl) (by intro c d v a w h; cases d <;> first | (simpa [Exit.then, Exit.inBlock, Act.put] using h) | exact h) (Turns.refl _ _) ?_
      generalize hb9 : w1.heap.size = b9 at *
      generalize (w1.alloc (.cells #[.int .i64 q.1, .int .i64 q.2] 44)).drew = w2 at *
      have a1 : World.cell? (w2) ⟨w.heap.size + 1 + 1, 1, none⟩ = some _ := (HD.out.blk 1 rfl).cell 1
      have d0 : World.cell? (w2) ⟨w.heap.size + 1, 0, none⟩ = some _ := (HD.out.blk 2 rfl).cell 0
      have d1 : World.cell? (w2) ⟨w.heap.size + 1, 1, none⟩ = some _ := (HD.out.blk 2 rfl).cell 1
      have d2 : World.cell? (w2) ⟨w.heap.size + 1, 2, none⟩ = some _ := (HD.out.blk 2 rfl).cell 2
      have d3 : World.cell? (w2) ⟨w.heap.size + 1, 3, none⟩ = some _ := (HD.out.blk 2 rfl).cell 3
      have e0 : World.cell? (w2) ⟨w.heap.size, 0, none⟩ = some _ := (HD.out.blk 3 rfl).cell 0
      have f0 : World.cell? (w2) ⟨b9, 0, none⟩ = some _ := (HD.out.blk 0 rfl).cell 0
      have f1 : World.cell? (w2) ⟨b9, 1, none⟩ = some _ := (HD.out.blk 0 rfl).cell 1
      refine flo_read _ rfl (fun K hK => ?_)
      go_simp
      first | (refine hK _ ?_) | (refine ⟨fun W hS => ?_, hK _ ?_⟩; · (have Y1 := hS.old a1; have Z1 := hS.old d1; have Z2 := hS.old d2; have Z3 := hS.old d3; have E0 := hS.old e0; have F0 := hS.old f0; have F1 := hS.old f1; try go_simp))
      clear hK K
      refine flo_read _ rfl (fun K hK => ?_)
      go_simp
      first | (refine hK _ ?_) | (refine ⟨fun W hS => ?_, hK _ ?_⟩; · (have Y1 := hS.old a1; have Z1 := hS.old d1; have Z2 := hS.old d2; have Z3 := hS.old d3; have E0 := hS.old e0; have F0 := hS.old f0; have F1 := hS.old f1; try go_simp))
      clear hK K
      refine flo_read _ rfl (fun K hK => ?_)
      go_simp
      first | (refine hK _ ?_) | (refine ⟨fun W hS => ?_, hK _ ?_⟩; · (have Y1 := hS.old a1; have Z1 := hS.old d1; have Z2 := hS.old d2; have Z3 := hS.old d3; have E0 := hS.old e0; have F0 := hS.old f0; have F1 := hS.old f1; try go_simp))
      clear hK K
      refine flo_read _ rfl (fun K hK => ?_)
      go_simp
      first | (refine hK _ ?_) | (refine ⟨fun W hS => ?_, hK _ ?_⟩; · (have Y1 := hS.old a1; have Z1 := hS.old d1; have Z2 := hS.old d2; have Z3 := hS.old d3; have E0 := hS.old e0; have F0 := hS.old f0; have F1 := hS.old f1; try go_simp))
      clear hK K
      refine flo_read _ rfl (fun K hK => ?_)
      go_simp
      first | (refine hK _ ?_) | (refine ⟨fun W hS => ?_, hK _ ?_⟩; · (have Y1 := hS.old a1; have Z1 := hS.old d1; have Z2 := hS.old d2; have Z3 := hS.old d3; have E0 := hS.old e0; have F0 := hS.old f0; have F1 := hS.old f1; try go_simp))
      clear hK K
      refine flo_read _ rfl (fun K hK => ?_)
      go_simp
      first | (refine hK _ ?_) | (refine ⟨fun W hS => ?_, hK _ ?_⟩; · (have Y1 := hS.old a1; have Z1 := hS.old d1; have Z2 := hS.old d2; have Z3 := hS.old d3; have E0 := hS.old e0; have F0 := hS.old f0; have F1 := hS.old f1; try go_simp))
      clear hK K
      refine flo_read _ rfl (fun K hK => ?_)
      go_simp
      first | (refine hK _ ?_) | (refine ⟨fun W hS => ?_, hK _ ?_⟩; · (have Y1 := hS.old a1; have Z1 := hS.old d1; have Z2 := hS.old d2; have Z3 := hS.old d3; have E0 := hS.old e0; have F0 := hS.old f0; have F1 := hS.old f1; try go_simp))
      clear hK K
      refine flo_alone _ rfl ?_
      go_wp2_with fail
      go_at_call 40
      refine Calls.mono (I1.out _) ?_
      rintro e w3 ⟨rfl, t3⟩
      go_wp2_with fail
      refine ⟨fun W => Turns [] w3 W, fun W h => t3.trans h, Turns.refl _ _, ?_⟩
      refine flo_alone _ rfl ?_
      go_wp2_with fail
      go_at_call 41
      refine Calls.mono (I2.out _) ?_
      rintro e w4 ⟨rfl, t4⟩
      go_wp2_with fail
      refine ⟨fun W => Turns [] w4 W, fun W h => t4.trans h, Turns.refl _ _, ?_⟩
      have T4 := t3.trans t4
      replace a1 := T4.old a1
      replace d1 := T4.old d1
      replace d2 := T4.old d2
      replace d3 := T4.old d3
      replace e0 := T4.old e0
      replace f0 := T4.old f0
      replace f1 := T4.old f1
      clear t3 t4 d0
      refine flo_read _ rfl (fun K hK => ?_)
      go_simp
      first | (refine hK _ ?_) | (refine ⟨fun W hS => ?_, hK _ ?_⟩; · (have Y1 := hS.old a1; have Z1 := hS.old d1; have Z2 := hS.old d2; have Z3 := hS.old d3; have E0 := hS.old e0; have F0 := hS.old f0; have F1 := hS.old f1; try go_simp))
      clear hK K
      refine flo_read _ rfl (fun K hK => ?_)
      go_simp
      first | (refine hK _ ?_) | (refine ⟨fun W hS => ?_, hK _ ?_⟩; · (have Y1 := hS.old a1; have Z1 := hS.old d1; have Z2 := hS.old d2; have Z3 := hS.old d3; have E0 := hS.old e0; have F0 := hS.old f0; have F1 := hS.old f1; try go_simp))
      clear hK K
      refine flo_read _ rfl (fun K hK => ?_)
      go_simp
      first | (refine hK _ ?_) | (refine ⟨fun W hS => ?_, hK _ ?_⟩; · (have Y1 := hS.old a1; have Z1 := hS.old d1; have Z2 := hS.old d2; have Z3 := hS.old d3; have E0 := hS.old e0; have F0 := hS.old f0; have F1 := hS.old f1; try go_simp))
      clear hK K
      refine flo_read _ rfl (fun K hK => ?_)
      go_simp
      first | (refine hK _ ?_) | (refine ⟨fun W hS => ?_, hK _ ?_⟩; · (have Y1 := hS.old a1; have Z1 := hS.old d1; have Z2 := hS.old d2; have Z3 := hS.old d3; have E0 := hS.old e0; have F0 := hS.old f0; have F1 := hS.old f1; try go_simp))
      clear hK K
      refine flo_read _ rfl (fun K hK => ?_)
      go_simp
      first | (refine hK _ ?_) | (refine ⟨fun W hS => ?_, hK _ ?_⟩; · (have Y1 := hS.old a1; have Z1 := hS.old d1; have Z2 := hS.old d2; have Z3 := hS.old d3; have E0 := hS.old e0; have F0 := hS.old f0; have F1 := hS.old f1; try go_simp))
      clear hK K
      refine flo_read _ rfl (fun K hK => ?_)
      go_simp
      first | (refine hK _ ?_) | (refine ⟨fun W hS => ?_, hK _ ?_⟩; · (have Y1 := hS.old a1; have Z1 := hS.old d1; have Z2 := hS.old d2; have Z3 := hS.old d3; have E0 := hS.old e0; have F0 := hS.old f0; have F1 := hS.old f1; try go_simp))
      clear hK K
      refine flo_read _ rfl (fun K hK => ?_)
      go_simp
      first | (refine hK _ ?_) | (refine ⟨fun W hS => ?_, hK _ ?_⟩; · (have Y1 := hS.old a1; have Z1 := hS.old d1; have Z2 := hS.old d2; have Z3 := hS.old d3; have E0 := hS.old e0; have F0 := hS.old f0; have F1 := hS.old f1; try go_simp))
      clear hK K
      refine flo_read _ rfl (fun K hK => ?_)
      go_simp
      first | (refine hK _ ?_) | (refine ⟨fun W hS => ?_, hK _ ?_⟩; · (have Y1 := hS.old a1; have Z1 := hS.old d1; have Z2 := hS.old d2; have Z3 := hS.old d3; have E0 := hS.old e0; have F0 := hS.old f0; have F1 := hS.old f1; try go_simp))
      clear hK K
      refine flo_read _ rfl (fun K hK => ?_)
      go_simp
      first | (refine hK _ ?_) | (refine ⟨fun W hS => ?_, hK _ ?_⟩; · (have Y1 := hS.old a1; have Z1 := hS.old d1; have Z2 := hS.old d2; have Z3 := hS.old d3; have E0 := hS.old e0; have F0 := hS.old f0; have F1 := hS.old f1; try go_simp))
      clear hK K
      refine flo_read _ rfl (fun K hK => ?_)
      go_simp
      first | (refine hK _ ?_) | (refine ⟨fun W hS => ?_, hK _ ?_⟩; · (have Y1 := hS.old a1; have Z1 := hS.old d1; have Z2 := hS.old d2; have Z3 := hS.old d3; have E0 := hS.old e0; have F0 := hS.old f0; have F1 := hS.old f1; try go_simp))
      clear hK K
      refine flo_read _ rfl (fun K hK => ?_)
      go_simp
      first | (refine hK _ ?_) | (refine ⟨fun W hS => ?_, hK _ ?_⟩; · (have Y1 := hS.old a1; have Z1 := hS.old d1; have Z2 := hS.old d2; have Z3 := hS.old d3; have E0 := hS.old e0; have F0 := hS.old f0; have F1 := hS.old f1; try go_simp))
      clear hK K
      refine flo_read _ rfl (fun K hK => ?_)
      go_simp
      first | (refine hK _ ?_) | (refine ⟨fun W hS => ?_, hK _ ?_⟩; · (have Y1 := hS.old a1; have Z1 := hS.old d1; have Z2 := hS.old d2; have Z3 := hS.old d3; have E0 := hS.old e0; have F0 := hS.old f0; have F1 := hS.old f1; try go_simp))
      clear hK K
      refine flo_read _ rfl (fun K hK => ?_)
      go_simp
      first | (refine hK _ ?_) | (refine ⟨fun W hS => ?_, hK _ ?_⟩; · (have Y1 := hS.old a1; have Z1 := hS.old d1; have Z2 := hS.old d2; have Z3 := hS.old d3; have E0 := hS.old e0; have F0 := hS.old f0; have F1 := hS.old f1; try go_simp))
      clear hK K
      refine flo_read _ rfl (fun K hK => ?_)
      go_simp
      first | (refine hK _ ?_) | (refine ⟨fun W hS => ?_, hK _ ?_⟩; · (have Y1 := hS.old a1; have Z1 := hS.old d1; have Z2 := hS.old d2; have Z3 := hS.old d3; have E0 := hS.old e0; have F0 := hS.old f0; have F1 := hS.old f1; try go_simp))
      clear hK K
      refine flo_read _ rfl (fun K hK => ?_)
      go_simp
      first | (refine hK _ ?_) | (refine ⟨fun W hS => ?_, hK _ ?_⟩; · (have Y1 := hS.old a1; have Z1 := hS.old d1; have Z2 := hS.old d2; have Z3 := hS.old d3; have E0 := hS.old e0; have F0 := hS.old f0; have F1 := hS.old f1; try go_simp))
      clear hK K
      refine flo_read _ rfl (fun K hK => ?_)
      go_simp
      first | (refine hK _ ?_) | (refine ⟨fun W hS => ?_, hK _ ?_⟩; · (have Y1 := hS.old a1; have Z1 := hS.old d1; have Z2 := hS.old d2; have Z3 := hS.old d3; have E0 := hS.old e0; have F0 := hS.old f0; have F1 := hS.old f1; try go_simp))
      clear hK K
      refine flo_read _ rfl (fun K hK => ?_)
      go_simp
      first | (refine hK _ ?_) | (refine ⟨fun W hS => ?_, hK _ ?_⟩; · (have Y1 := hS.old a1; have Z1 := hS.old d1; have Z2 := hS.old d2; have Z3 := hS.old d3; have E0 := hS.old e0; have F0 := hS.old f0; have F1 := hS.old f1; try go_simp))
      clear hK K
      refine flo_read _ rfl (fun K hK => ?_)
      go_simp
      first | (refine hK _ ?_) | (refine ⟨fun W hS => ?_, hK _ ?_⟩; · (have Y1 := hS.old a1; have Z1 := hS.old d1; have Z2 := hS.old d2; have Z3 := hS.old d3; have E0 := hS.old e0; have F0 := hS.old f0; have F1 := hS.old f1; try go_simp))
      clear hK K
      refine flo_read _ rfl (fun K hK => ?_)
      go_simp
      first | (refine hK _ ?_) | (refine ⟨fun W hS => ?_, hK _ ?_⟩; · (have Y1 := hS.old a1; have Z1 := hS.old d1; have Z2 := hS.old d2; have Z3 := hS.old d3; have E0 := hS.old e0; have F0 := hS.old f0; have F1 := hS.old f1; try go_simp))
      clear hK K
      refine flo_read _ rfl (fun K hK => ?_)
      go_simp
      first | (refine hK _ ?_) | (refine ⟨fun W hS => ?_, hK _ ?_⟩; · (have Y1 := hS.old a1; have Z1 := hS.old d1; have Z2 := hS.old d2; have Z3 := hS.old d3; have E0 := hS.old e0; have F0 := hS.old f0; have F1 := hS.old f1; try go_simp))
      clear hK K
      refine flo_read _ rfl (fun K hK => ?_)
      go_simp
      first | (refine hK _ ?_) | (refine ⟨fun W hS => ?_, hK _ ?_⟩; · (have Y1 := hS.old a1; have Z1 := hS.old d1; have Z2 := hS.old d2; have Z3 := hS.old d3; have E0 := hS.old e0; have F0 := hS.old f0; have F1 := hS.old f1; try go_simp))
      clear hK K
      refine flo_read _ rfl (fun K hK => ?_)
      go_simp
      first | (refine hK _ ?_) | (refine ⟨fun W hS => ?_, hK _ ?_⟩; · (have Y1 := hS.old a1; have Z1 := hS.old d1; have Z2 := hS.old d2; have Z3 := hS.old d3; have E0 := hS.old e0; have F0 := hS.old f0; have F1 := hS.old f1; try go_simp))
      clear hK K
      refine flo_read _ rfl (fun K hK => ?_)
      go_simp
      first | (refine hK _ ?_) | (refine ⟨fun W hS => ?_, hK _ ?_⟩; · (have Y1 := hS.old a1; have Z1 := hS.old d1; have Z2 := hS.old d2; have Z3 := hS.old d3; have E0 := hS.old e0; have F0 := hS.old f0; have F1 := hS.old f1; try go_simp))
      clear hK K
      refine flo_read _ rfl (fun K hK => ?_)
      go_simp
      first | (refine hK _ ?_) | (refine ⟨fun W hS => ?_, hK _ ?_⟩; · (have Y1 := hS.old a1; have Z1 := hS.old d1; have Z2 := hS.old d2; have Z3 := hS.old d3; have E0 := hS.old e0; have F0 := hS.old f0; have F1 := hS.old f1; try go_simp))
      clear hK K
      refine flo_alone _ rfl ?_
      go_wp2_with fail
      refine ⟨fun W => Turns [] w4 W, fun W h => h, Turns.refl _ _, ?_⟩
      refine flo_alone _ rfl ?_
      go_wp2_with fail
      refine ⟨fun W => Turns [] w4 W, fun W h => h, Turns.refl _ _, ?_⟩
      refine flo_read _ rfl (fun K hK => ?_)
      go_simp
      first | (refine hK _ ?_) | (refine ⟨fun W hS => ?_, hK _ ?_⟩; · (have Y1 := hS.old a1; have Z1 := hS.old d1; have Z2 := hS.old d2; have Z3 := hS.old d3; have E0 := hS.old e0; have F0 := hS.old f0; have F1 := hS.old f1; try go_simp))
      clear hK K
      refine flo_read _ rfl (fun K hK => ?_)
      go_simp
      first | (refine hK _ ?_) | (refine ⟨fun W hS => ?_, hK _ ?_⟩; · (have Y1 := hS.old a1; have Z1 := hS.old d1; have Z2 := hS.old d2; have Z3 := hS.old d3; have E0 := hS.old e0; have F0 := hS.old f0; have F1 := hS.old f1; try go_simp))
      clear hK K
      refine flo_read _ rfl (fun K hK => ?_)
      go_simp
      first | (refine hK _ ?_) | (refine ⟨fun W hS => ?_, hK _ ?_⟩; · (have Y1 := hS.old a1; have Z1 := hS.old d1; have Z2 := hS.old d2; have Z3 := hS.old d3; have E0 := hS.old e0; have F0 := hS.old f0; have F1 := hS.old f1; try go_simp))
      clear hK K
      refine flo_end ?_
      go_wp2_with fail
      go_ret
      exact ⟨rfl, HD.out.t.trans T4⟩
    | true =>
      rw [Bool.true_and]
      cases g2 : ((r.out.length : Int) == 0) with
      | false =>
        rw [Bool.false_and]
        go_enter Try.func58, Try.ntmps58
        go_wp2_with fail
        go_at_call 54
        refine Calls.mono (hR.out) ?_
        rintro e w1 ⟨rfl, t1⟩
        have HD := Lib.hid (((Hh.out.turns t1).alloc #[.int .i64 q.1, .int .i64 q.2] 44).drew)
        clear t1 Hh
        go_wp2_with fail
        go_wp2_with fail
        refine wp_region_flo [(0, true), (1, true), (2, true), (3, true), (4, true), (7, true), (8, true), (5, false), (6, false), (9, true), (10, true), (11, true), (12, true), (13, true), (14, true), (15, true), (16, true), (17, true), (18, true), (19, true), (20, true), (21, true), (22, true), (23, true), (24, true), (25, true), (26, true), (27, true), (28, true), (29, true), (30, true), (33, true), (34, true), (31, false), (32, false), (35, true), (36, true), (37, true)] (fun W => Turns [] (w1.alloc (.cells #[.int .i64 q.1, .int .i64 q.2] 44)).drew W) (by kernel_rfl) rfl (by kernel_rfl) (by intro c d v a w h; cases d <;> first | (simpa [Exit.then, Exit.inBlock, Act.put] using h) | exact h) (Turns.refl _ _) ?_
        generalize hb9 : w1.heap.size = b9 at *
        generalize (w1.alloc (.cells #[.int .i64 q.1, .int .i64 q.2] 44)).drew = w2 at *
        have a1 : World.cell? (w2) ⟨w.heap.size + 1 + 1, 1, none⟩ = some _ := (HD.out.blk 1 rfl).cell 1
        have d0 : World.cell? (w2) ⟨w.heap.size + 1, 0, none⟩ = some _ := (HD.out.blk 2 rfl).cell 0
        have d1 : World.cell? (w2) ⟨w.heap.size + 1, 1, none⟩ = some _ := (HD.out.blk 2 rfl).cell 1
        have d2 : World.cell? (w2) ⟨w.heap.size + 1, 2, none⟩ = some _ := (HD.out.blk 2 rfl).cell 2
        have d3 : World.cell? (w2) ⟨w.heap.size + 1, 3, none⟩ = some _ := (HD.out.blk 2 rfl).cell 3
        have e0 : World.cell? (w2) ⟨w.heap.size, 0, none⟩ = some _ := (HD.out.blk 3 rfl).cell 0
        have f0 : World.cell? (w2) ⟨b9, 0, none⟩ = some _ := (HD.out.blk 0 rfl).cell 0
        have f1 : World.cell? (w2) ⟨b9, 1, none⟩ = some _ := (HD.out.blk 0 rfl).cell 1
        refine flo_read _ rfl (fun K hK => ?_)
        go_simp
        first | (refine hK _ ?_) | (refine ⟨fun W hS => ?_, hK _ ?_⟩; · (have Y1 := hS.old a1; have Z1 := hS.old d1; have Z2 := hS.old d2; have Z3 := hS.old d3; have E0 := hS.old e0; have F0 := hS.old f0; have F1 := hS.old f1; try go_simp))
        clear hK K
        refine flo_read _ rfl (fun K hK => ?_)
        go_simp
        first | (refine hK _ ?_) | (refine ⟨fun W hS => ?_, hK _ ?_⟩; · (have Y1 := hS.old a1; have Z1 := hS.old d1; have Z2 := hS.old d2; have Z3 := hS.old d3; have E0 := hS.old e0; have F0 := hS.old f0; have F1 := hS.old f1; try go_simp))
        clear hK K
        refine flo_read _ rfl (fun K hK => ?_)
        go_simp
        first | (refine hK _ ?_) | (refine ⟨fun W hS => ?_, hK _ ?_⟩; · (have Y1 := hS.old a1; have Z1 := hS.old d1; have Z2 := hS.old d2; have Z3 := hS.old d3; have E0 := hS.old e0; have F0 := hS.old f0; have F1 := hS.old f1; try go_simp))
        clear hK K
        refine flo_read _ rfl (fun K hK => ?_)
        go_simp
        first | (refine hK _ ?_) | (refine ⟨fun W hS => ?_, hK _ ?_⟩; · (have Y1 := hS.old a1; have Z1 := hS.old d1; have Z2 := hS.old d2; have Z3 := hS.old d3; have E0 := hS.old e0; have F0 := hS.old f0; have F1 := hS.old f1; try go_simp))
        clear hK K
        refine flo_read _ rfl (fun K hK => ?_)
        go_simp
        first | (refine hK _ ?_) | (refine ⟨fun W hS => ?_, hK _ ?_⟩; · (have Y1 := hS.old a1; have Z1 := hS.old d1; have Z2 := hS.old d2; have Z3 := hS.old d3; have E0 := hS.old e0; have F0 := hS.old f0; have F1 := hS.old f1; try go_simp))
        clear hK K
        refine flo_read _ rfl (fun K hK => ?_)
        go_simp
        first | (refine hK _ ?_) | (refine ⟨fun W hS => ?_, hK _ ?_⟩; · (have Y1 := hS.old a1; have Z1 := hS.old d1; have Z2 := hS.old d2; have Z3 := hS.old d3; have E0 := hS.old e0; have F0 := hS.old f0; have F1 := hS.old f1; try go_simp))
        clear hK K
        refine flo_read _ rfl (fun K hK => ?_)
        go_simp
        first | (refine hK _ ?_) | (refine ⟨fun W hS => ?_, hK _ ?_⟩; · (have Y1 := hS.old a1; have Z1 := hS.old d1; have Z2 := hS.old d2; have Z3 := hS.old d3; have E0 := hS.old e0; have F0 := hS.old f0; have F1 := hS.old f1; try go_simp))
        clear hK K
        refine flo_alone _ rfl ?_
        go_wp2_with fail
        go_at_call 40
        refine Calls.mono (I1.out _) ?_
        rintro e w3 ⟨rfl, t3⟩
        go_wp2_with fail
        refine ⟨fun W => Turns [] w3 W, fun W h => t3.trans h, Turns.refl _ _, ?_⟩
        refine flo_alone _ rfl ?_
        go_wp2_with fail
        go_at_call 41
        refine Calls.mono (I2.out _) ?_
        rintro e w4 ⟨rfl, t4⟩
        go_wp2_with fail
        refine ⟨fun W => Turns [] w4 W, fun W h => t4.trans h, Turns.refl _ _, ?_⟩
        have T4 := t3.trans t4
        replace a1 := T4.old a1
        replace d1 := T4.old d1
        replace d2 := T4.old d2
        replace d3 := T4.old d3
        replace e0 := T4.old e0
        replace f0 := T4.old f0
        replace f1 := T4.old f1
        clear t3 t4 d0
        refine flo_read _ rfl (fun K hK => ?_)
        go_simp
        first | (refine hK _ ?_) | (refine ⟨fun W hS => ?_, hK _ ?_⟩; · (have Y1 := hS.old a1; have Z1 := hS.old d1; have Z2 := hS.old d2; have Z3 := hS.old d3; have E0 := hS.old e0; have F0 := hS.old f0; have F1 := hS.old f1; try go_simp))
        clear hK K
        refine flo_read _ rfl (fun K hK => ?_)
        go_simp
        first | (refine hK _ ?_) | (refine ⟨fun W hS => ?_, hK _ ?_⟩; · (have Y1 := hS.old a1; have Z1 := hS.old d1; have Z2 := hS.old d2; have Z3 := hS.old d3; have E0 := hS.old e0; have F0 := hS.old f0; have F1 := hS.old f1; try go_simp))
        clear hK K
        refine flo_read _ rfl (fun K hK => ?_)
        go_simp
        first | (refine hK _ ?_) | (refine ⟨fun W hS => ?_, hK _ ?_⟩; · (have Y1 := hS.old a1; have Z1 := hS.old d1; have Z2 := hS.old d2; have Z3 := hS.old d3; have E0 := hS.old e0; have F0 := hS.old f0; have F1 := hS.old f1; try go_simp))
        clear hK K
        refine flo_read _ rfl (fun K hK => ?_)
        go_simp
        first | (refine hK _ ?_) | (refine ⟨fun W hS => ?_, hK _ ?_⟩; · (have Y1 := hS.old a1; have Z1 := hS.old d1; have Z2 := hS.old d2; have Z3 := hS.old d3; have E0 := hS.old e0; have F0 := hS.old f0; have F1 := hS.old f1; try go_simp))
        clear hK K
        refine flo_read _ rfl (fun K hK => ?_)
        go_simp
        first | (refine hK _ ?_) | (refine ⟨fun W hS => ?_, hK _ ?_⟩; · (have Y1 := hS.old a1; have Z1 := hS.old d1; have Z2 := hS.old d2; have Z3 := hS.old d3; have E0 := hS.old e0; have F0 := hS.old f0; have F1 := hS.old f1; try go_simp))
        clear hK K
        refine flo_read _ rfl (fun K hK => ?_)
        go_simp
        first | (refine hK _ ?_) | (refine ⟨fun W hS => ?_, hK _ ?_⟩; · (have Y1 := hS.old a1; have Z1 := hS.old d1; have Z2 := hS.old d2; have Z3 := hS.old d3; have E0 := hS.old e0; have F0 := hS.old f0; have F1 := hS.old f1; try go_simp))
        clear hK K
        refine flo_read _ rfl (fun K hK => ?_)
        go_simp
        first | (refine hK _ ?_) | (refine ⟨fun W hS => ?_, hK _ ?_⟩; · (have Y1 := hS.old a1; have Z1 := hS.old d1; have Z2 := hS.old d2; have Z3 := hS.old d3; have E0 := hS.old e0; have F0 := hS.old f0; have F1 := hS.old f1; try go_simp))
        clear hK K
        refine flo_read _ rfl (fun K hK => ?_)
        go_simp
        first | (refine hK _ ?_) | (refine ⟨fun W hS => ?_, hK _ ?_⟩; · (have Y1 := hS.old a1; have Z1 := hS.old d1; have Z2 := hS.old d2; have Z3 := hS.old d3; have E0 := hS.old e0; have F0 := hS.old f0; have F1 := hS.old f1; try go_simp))
        clear hK K
        refine flo_read _ rfl (fun K hK => ?_)
        go_simp
        first | (refine hK _ ?_) | (refine ⟨fun W hS => ?_, hK _ ?_⟩; · (have Y1 := hS.old a1; have Z1 := hS.old d1; have Z2 := hS.old d2; have Z3 := hS.old d3; have E0 := hS.old e0; have F0 := hS.old f0; have F1 := hS.old f1; try go_simp))
        clear hK K
        refine flo_read _ rfl (fun K hK => ?_)
        go_simp
        first | (refine hK _ ?_) | (refine ⟨fun W hS => ?_, hK _ ?_⟩; · (have Y1 := hS.old a1; have Z1 := hS.old d1; have Z2 := hS.old d2; have Z3 := hS.old d3; have E0 := hS.old e0; have F0 := hS.old f0; have F1 := hS.old f1; try go_simp))
        clear hK K
        refine flo_read _ rfl (fun K hK => ?_)
        go_simp
        first | (refine hK _ ?_) | (refine ⟨fun W hS => ?_, hK _ ?_⟩; · (have Y1 := hS.old a1; have Z1 := hS.old d1; have Z2 := hS.old d2; have Z3 := hS.old d3; have E0 := hS.old e0; have F0 := hS.old f0; have F1 := hS.old f1; try go_simp))
        clear hK K
        refine flo_read _ rfl (fun K hK => ?_)
        go_simp
        first | (refine hK _ ?_) | (refine ⟨fun W hS => ?_, hK _ ?_⟩; · (have Y1 := hS.old a1; have Z1 := hS.old d1; have Z2 := hS.old d2; have Z3 := hS.old d3; have E0 := hS.old e0; have F0 := hS.old f0; have F1 := hS.old f1; try go_simp))
        clear hK K
        refine flo_read _ rfl (fun K hK => ?_)
        go_simp
        first | (refine hK _ ?_) | (refine ⟨fun W hS => ?_, hK _ ?_⟩; · (have Y1 := hS.old a1; have Z1 := hS.old d1; have Z2 := hS.old d2; have Z3 := hS.old d3; have E0 := hS.old e0; have F0 := hS.old f0; have F1 := hS.old f1; try go_simp))
        clear hK K
        refine flo_read _ rfl (fun K hK => ?_)
        go_simp
        first | (refine hK _ ?_) | (refine ⟨fun W hS => ?_, hK _ ?_⟩; · (have Y1 := hS.old a1; have Z1 := hS.old d1; have Z2 := hS.old d2; have Z3 := hS.old d3; have E0 := hS.old e0; have F0 := hS.old f0; have F1 := hS.old f1; try go_simp))
        clear hK K
        refine flo_read _ rfl (fun K hK => ?_)
        go_simp
        first | (refine hK _ ?_) | (refine ⟨fun W hS => ?_, hK _ ?_⟩; · (have Y1 := hS.old a1; have Z1 := hS.old d1; have Z2 := hS.old d2; have Z3 := hS.old d3; have E0 := hS.old e0; have F0 := hS.old f0; have F1 := hS.old f1; try go_simp))
        clear hK K
        refine flo_read _ rfl (fun K hK => ?_)
        go_simp
        first | (refine hK _ ?_) | (refine ⟨fun W hS => ?_, hK _ ?_⟩; · (have Y1 := hS.old a1; have Z1 := hS.old d1; have Z2 := hS.old d2; have Z3 := hS.old d3; have E0 := hS.old e0; have F0 := hS.old f0; have F1 := hS.old f1; try go_simp))
        clear hK K
        refine flo_read _ rfl (fun K hK => ?_)
        go_simp
        first | (refine hK _ ?_) | (refine ⟨fun W hS => ?_, hK _ ?_⟩; · (have Y1 := hS.old a1; have Z1 := hS.old d1; have Z2 := hS.old d2; have Z3 := hS.old d3; have E0 := hS.old e0; have F0 := hS.old f0; have F1 := hS.old f1; try go_simp))
        clear hK K
        refine flo_read _ rfl (fun K hK => ?_)
        go_simp
        first | (refine hK _ ?_) | (refine ⟨fun W hS => ?_, hK _ ?_⟩; · (have Y1 := hS.old a1; have Z1 := hS.old d1; have Z2 := hS.old d2; have Z3 := hS.old d3; have E0 := hS.old e0; have F0 := hS.old f0; have F1 := hS.old f1; try go_simp))
        clear hK K
        refine flo_read _ rfl (fun K hK => ?_)
        go_simp
        first | (refine hK _ ?_) | (refine ⟨fun W hS => ?_, hK _ ?_⟩; · (have Y1 := hS.old a1; have Z1 := hS.old d1; have Z2 := hS.old d2; have Z3 := hS.old d3; have E0 := hS.old e0; have F0 := hS.old f0; have F1 := hS.old f1; try go_simp))
        clear hK K
        refine flo_read _ rfl (fun K hK => ?_)
        go_simp
        first | (refine hK _ ?_) | (refine ⟨fun W hS => ?_, hK _ ?_⟩; · (have Y1 := hS.old a1; have Z1 := hS.old d1; have Z2 := hS.old d2; have Z3 := hS.old d3; have E0 := hS.old e0; have F0 := hS.old f0; have F1 := hS.old f1; try go_simp))
        clear hK K
        refine flo_read _ rfl (fun K hK => ?_)
        go_simp
        first | (refine hK _ ?_) | (refine ⟨fun W hS => ?_, hK _ ?_⟩; · (have Y1 := hS.old a1; have Z1 := hS.old d1; have Z2 := hS.old d2; have Z3 := hS.old d3; have E0 := hS.old e0; have F0 := hS.old f0; have F1 := hS.old f1; try go_simp))
        clear hK K
        refine flo_read _ rfl (fun K hK => ?_)
        go_simp
        first | (refine hK _ ?_) | (refine ⟨fun W hS => ?_, hK _ ?_⟩; · (have Y1 := hS.old a1; have Z1 := hS.old d1; have Z2 := hS.old d2; have Z3 := hS.old d3; have E0 := hS.old e0; have F0 := hS.old f0; have F1 := hS.old f1; try go_simp))
        clear hK K
        refine flo_read _ rfl (fun K hK => ?_)
        go_simp
        first | (refine hK _ ?_) | (refine ⟨fun W hS => ?_, hK _ ?_⟩; · (have Y1 := hS.old a1; have Z1 := hS.old d1; have Z2 := hS.old d2; have Z3 := hS.old d3; have E0 := hS.old e0; have F0 := hS.old f0; have F1 := hS.old f1; try go_simp))
        clear hK K
        refine flo_read _ rfl (fun K hK => ?_)
        go_simp
        first | (refine hK _ ?_) | (refine ⟨fun W hS => ?_, hK _ ?_⟩; · (have Y1 := hS.old a1; have Z1 := hS.old d1; have Z2 := hS.old d2; have Z3 := hS.old d3; have E0 := hS.old e0; have F0 := hS.old f0; have F1 := hS.old f1; try go_simp))
        clear hK K
        refine flo_alone _ rfl ?_
        go_wp2_with fail
        refine ⟨fun W => Turns [] w4 W, fun W h => h, Turns.refl _ _, ?_⟩
        refine flo_alone _ rfl ?_
        go_wp2_with fail
        refine ⟨fun W => Turns [] w4 W, fun W h => h, Turns.refl _ _, ?_⟩
        refine flo_read _ rfl (fun K hK => ?_)
        go_simp
        first | (refine hK _ ?_) | (refine ⟨fun W hS => ?_, hK _ ?_⟩; · (have Y1 := hS.old a1; have Z1 := hS.old d1; have Z2 := hS.old d2; have Z3 := hS.old d3; have E0 := hS.old e0; have F0 := hS.old f0; have F1 := hS.old f1; try go_simp))
        clear hK K
        refine flo_read _ rfl (fun K hK => ?_)
        go_simp
        first | (refine hK _ ?_) | (refine ⟨fun W hS => ?_, hK _ ?_⟩; · (have Y1 := hS.old a1; have Z1 := hS.old d1; have Z2 := hS.old d2; have Z3 := hS.old d3; have E0 := hS.old e0; have F0 := hS.old f0; have F1 := hS.old f1; try go_simp))
        clear hK K
        refine flo_read _ rfl (fun K hK => ?_)
        go_simp
        first | (refine hK _ ?_) | (refine ⟨fun W hS => ?_, hK _ ?_⟩; · (have Y1 := hS.old a1; have Z1 := hS.old d1; have Z2 := hS.old d2; have Z3 := hS.old d3; have E0 := hS.old e0; have F0 := hS.old f0; have F1 := hS.old f1; try go_simp))
        clear hK K
        refine flo_end ?_
        go_wp2_with fail
        go_ret
        exact ⟨rfl, HD.out.t.trans T4⟩
      | true =>
        rw [Bool.true_and]
        cases g3 : (r.avail == q.2) with
        | false =>
          rw [Bool.false_and]
          go_enter Try.func58, Try.ntmps58
          go_wp2_with fail
          go_at_call 54
          refine Calls.mono (hR.out) ?_
          rintro e w1 ⟨rfl, t1⟩
          have HD := Lib.hid (((Hh.out.turns t1).alloc #[.int .i64 q.1, .int .i64 q.2] 44).drew)
          clear t1 Hh
          go_wp2_with fail
          go_wp2_with fail
          refine wp_region_flo [(0, true), (1, true), (2, true), (3, true), (4, true), (7, true), (8, true), (5, false), (6, false), (9, true), (10, true), (11, true), (12, true), (13, true), (14, true), (15, true), (16, true), (17, true), (18, true), (19, true), (20, true), (21, true), (22, true), (23, true), (24, true), (25, true), (26, true), (27, true), (28, true), (29, true), (30, true), (33, true), (34, true), (31, false), (32, false), (35, true), (36, true), (37, true)] (fun W => Turns [] (w1.alloc (.cells #[.int .i64 q.1, .int .i64 q.2] 44)).drew W) (by kernel_rfl) rfl (by kernel_rfl) (by intro c d v a w h; cases d <;> first | (simpa [Exit.then, Exit.inBlock, Act.put] using h) | exact h) (Turns.refl _ _) ?_
          generalize hb9 : w1.heap.size = b9 at *
          generalize (w1.alloc (.cells #[.int .i64 q.1, .int .i64 q.2] 44)).drew = w2 at *
          have a1 : World.cell? (w2) ⟨w.heap.size + 1 + 1, 1, none⟩ = some _ := (HD.out.blk 1 rfl).cell 1
          have d0 : World.cell? (w2) ⟨w.heap.size + 1, 0, none⟩ = some _ := (HD.out.blk 2 rfl).cell 0
          have d1 : World.cell? (w2) ⟨w.heap.size + 1, 1, none⟩ = some _ := (HD.out.blk 2 rfl).cell 1
          have d2 : World.cell? (w2) ⟨w.heap.size + 1, 2, none⟩ = some _ := (HD.out.blk 2 rfl).cell 2
          have d3 : World.cell? (w2) ⟨w.heap.size + 1, 3, none⟩ = some _ := (HD.out.blk 2 rfl).cell 3
          have e0 : World.cell? (w2) ⟨w.heap.size, 0, none⟩ = some _ := (HD.out.blk 3 rfl).cell 0
          have f0 : World.cell? (w2) ⟨b9, 0, none⟩ = some _ := (HD.out.blk 0 rfl).cell 0
          have f1 : World.cell? (w2) ⟨b9, 1, none⟩ = some _ := (HD.out.blk 0 rfl).cell 1
          refine flo_read _ rfl (fun K hK => ?_)
          go_simp
          first | (refine hK _ ?_) | (refine ⟨fun W hS => ?_, hK _ ?_⟩; · (have Y1 := hS.old a1; have Z1 := hS.old d1; have Z2 := hS.old d2; have Z3 := hS.old d3; have E0 := hS.old e0; have F0 := hS.old f0; have F1 := hS.old f1; try go_simp))
          clear hK K
          refine flo_read _ rfl (fun K hK => ?_)
          go_simp
          first | (refine hK _ ?_) | (refine ⟨fun W hS => ?_, hK _ ?_⟩; · (have Y1 := hS.old a1; have Z1 := hS.old d1; have Z2 := hS.old d2; have Z3 := hS.old d3; have E0 := hS.old e0; have F0 := hS.old f0; have F1 := hS.old f1; try go_simp))
          clear hK K
          refine flo_read _ rfl (fun K hK => ?_)
          go_simp
          first | (refine hK _ ?_) | (refine ⟨fun W hS => ?_, hK _ ?_⟩; · (have Y1 := hS.old a1; have Z1 := hS.old d1; have Z2 := hS.old d2; have Z3 := hS.old d3; have E0 := hS.old e0; have F0 := hS.old f0; have F1 := hS.old f1; try go_simp))
          clear hK K
          refine flo_read _ rfl (fun K hK => ?_)
          go_simp
          first | (refine hK _ ?_) | (refine ⟨fun W hS => ?_, hK _ ?_⟩; · (have Y1 := hS.old a1; have Z1 := hS.old d1; have Z2 := hS.old d2; have Z3 := hS.old d3; have E0 := hS.old e0; have F0 := hS.old f0; have F1 := hS.old f1; try go_simp))
          clear hK K
          refine flo_read _ rfl (fun K hK => ?_)
          go_simp
          first | (refine hK _ ?_) | (refine ⟨fun W hS => ?_, hK _ ?_⟩; · (have Y1 := hS.old a1; have Z1 := hS.old d1; have Z2 := hS.old d2; have Z3 := hS.old d3; have E0 := hS.old e0; have F0 := hS.old f0; have F1 := hS.old f1; try go_simp))
          clear hK K
          refine flo_read _ rfl (fun K hK => ?_)
          go_simp
          first | (refine hK _ ?_) | (refine ⟨fun W hS => ?_, hK _ ?_⟩; · (have Y1 := hS.old a1; have Z1 := hS.old d1; have Z2 := hS.old d2; have Z3 := hS.old d3; have E0 := hS.old e0; have F0 := hS.old f0; have F1 := hS.old f1; try go_simp))
          clear hK K
          refine flo_read _ rfl (fun K hK => ?_)
          go_simp
          first | (refine hK _ ?_) | (refine ⟨fun W hS => ?_, hK _ ?_⟩; · (have Y1 := hS.old a1; have Z1 := hS.old d1; have Z2 := hS.old d2; have Z3 := hS.old d3; have E0 := hS.old e0; have F0 := hS.old f0; have F1 := hS.old f1; try go_simp))
          clear hK K
          refine flo_alone _ rfl ?_
          go_wp2_with fail
          go_at_call 40
          refine Calls.mono (I1.out _) ?_
          rintro e w3 ⟨rfl, t3⟩
          go_wp2_with fail
          refine ⟨fun W => Turns [] w3 W, fun W h => t3.trans h, Turns.refl _ _, ?_⟩
          refine flo_alone _ rfl ?_
          go_wp2_with fail
          go_at_call 41
          refine Calls.mono (I2.out _) ?_
          rintro e w4 ⟨rfl, t4⟩
          go_wp2_with fail
          refine ⟨fun W => Turns [] w4 W, fun W h => t4.trans h, Turns.refl _ _, ?_⟩
          have T4 := t3.trans t4
          replace a1 := T4.old a1
          replace d1 := T4.old d1
          replace d2 := T4.old d2
          replace d3 := T4.old d3
          replace e0 := T4.old e0
          replace f0 := T4.old f0
          replace f1 := T4.old f1
          clear t3 t4 d0
          refine flo_read _ rfl (fun K hK => ?_)
          go_simp
          first | (refine hK _ ?_) | (refine ⟨fun W hS => ?_, hK _ ?_⟩; · (have Y1 := hS.old a1; have Z1 := hS.old d1; have Z2 := hS.old d2; have Z3 := hS.old d3; have E0 := hS.old e0; have F0 := hS.old f0; have F1 := hS.old f1; try go_simp))
          clear hK K
          refine flo_read _ rfl (fun K hK => ?_)
          go_simp
          first | (refine hK _ ?_) | (refine ⟨fun W hS => ?_, hK _ ?_⟩; · (have Y1 := hS.old a1; have Z1 := hS.old d1; have Z2 := hS.old d2; have Z3 := hS.old d3; have E0 := hS.old e0; have F0 := hS.old f0; have F1 := hS.old f1; try go_simp))
          clear hK K
          refine flo_read _ rfl (fun K hK => ?_)
          go_simp
          first | (refine hK _ ?_) | (refine ⟨fun W hS => ?_, hK _ ?_⟩; · (have Y1 := hS.old a1; have Z1 := hS.old d1; have Z2 := hS.old d2; have Z3 := hS.old d3; have E0 := hS.old e0; have F0 := hS.old f0; have F1 := hS.old f1; try go_simp))
          clear hK K
          refine flo_read _ rfl (fun K hK => ?_)
          go_simp
          first | (refine hK _ ?_) | (refine ⟨fun W hS => ?_, hK _ ?_⟩; · (have Y1 := hS.old a1; have Z1 := hS.old d1; have Z2 := hS.old d2; have Z3 := hS.old d3; have E0 := hS.old e0; have F0 := hS.old f0; have F1 := hS.old f1; try go_simp))
          clear hK K
          refine flo_read _ rfl (fun K hK => ?_)
          go_simp
          first | (refine hK _ ?_) | (refine ⟨fun W hS => ?_, hK _ ?_⟩; · (have Y1 := hS.old a1; have Z1 := hS.old d1; have Z2 := hS.old d2; have Z3 := hS.old d3; have E0 := hS.old e0; have F0 := hS.old f0; have F1 := hS.old f1; try go_simp))
          clear hK K
          refine flo_read _ rfl (fun K hK => ?_)
          go_simp
          first | (refine hK _ ?_) | (refine ⟨fun W hS => ?_, hK _ ?_⟩; · (have Y1 := hS.old a1; have Z1 := hS.old d1; have Z2 := hS.old d2; have Z3 := hS.old d3; have E0 := hS.old e0; have F0 := hS.old f0; have F1 := hS.old f1; try go_simp))
          clear hK K
          refine flo_read _ rfl (fun K hK => ?_)
          go_simp
          first | (refine hK _ ?_) | (refine ⟨fun W hS => ?_, hK _ ?_⟩; · (have Y1 := hS.old a1; have Z1 := hS.old d1; have Z2 := hS.old d2; have Z3 := hS.old d3; have E0 := hS.old e0; have F0 := hS.old f0; have F1 := hS.old f1; try go_simp))
          clear hK K
          refine flo_read _ rfl (fun K hK => ?_)
          go_simp
          first | (refine hK _ ?_) | (refine ⟨fun W hS => ?_, hK _ ?_⟩; · (have Y1 := hS.old a1; have Z1 := hS.old d1; have Z2 := hS.old d2; have Z3 := hS.old d3; have E0 := hS.old e0; have F0 := hS.old f0; have F1 := hS.old f1; try go_simp))
          clear hK K
          refine flo_read _ rfl (fun K hK => ?_)
          go_simp
          first | (refine hK _ ?_) | (refine ⟨fun W hS => ?_, hK _ ?_⟩; · (have Y1 := hS.old a1; have Z1 := hS.old d1; have Z2 := hS.old d2; have Z3 := hS.old d3; have E0 := hS.old e0; have F0 := hS.old f0; have F1 := hS.old f1; try go_simp))
          clear hK K
          refine flo_read _ rfl (fun K hK => ?_)
          go_simp
          first | (refine hK _ ?_) | (refine ⟨fun W hS => ?_, hK _ ?_⟩; · (have Y1 := hS.old a1; have Z1 := hS.old d1; have Z2 := hS.old d2; have Z3 := hS.old d3; have E0 := hS.old e0; have F0 := hS.old f0; have F1 := hS.old f1; try go_simp))
          clear hK K
          refine flo_read _ rfl (fun K hK => ?_)
          go_simp
          first | (refine hK _ ?_) | (refine ⟨fun W hS => ?_, hK _ ?_⟩; · (have Y1 := hS.old a1; have Z1 := hS.old d1; have Z2 := hS.old d2; have Z3 := hS.old d3; have E0 := hS.old e0; have F0 := hS.old f0; have F1 := hS.old f1; try go_simp))
          clear hK K
          refine flo_read _ rfl (fun K hK => ?_)
          go_simp
          first | (refine hK _ ?_) | (refine ⟨fun W hS => ?_, hK _ ?_⟩; · (have Y1 := hS.old a1; have Z1 := hS.old d1; have Z2 := hS.old d2; have Z3 := hS.old d3; have E0 := hS.old e0; have F0 := hS.old f0; have F1 := hS.old f1; try go_simp))
          clear hK K
          refine flo_read _ rfl (fun K hK => ?_)
          go_simp
          first | (refine hK _ ?_) | (refine ⟨fun W hS => ?_, hK _ ?_⟩; · (have Y1 := hS.old a1; have Z1 := hS.old d1; have Z2 := hS.old d2; have Z3 := hS.old d3; have E0 := hS.old e0; have F0 := hS.old f0; have F1 := hS.old f1; try go_simp))
          clear hK K
          refine flo_read _ rfl (fun K hK => ?_)
          go_simp
          first | (refine hK _ ?_) | (refine ⟨fun W hS => ?_, hK _ ?_⟩; · (have Y1 := hS.old a1; have Z1 := hS.old d1; have Z2 := hS.old d2; have Z3 := hS.old d3; have E0 := hS.old e0; have F0 := hS.old f0; have F1 := hS.old f1; try go_simp))
          clear hK K
          refine flo_read _ rfl (fun K hK => ?_)
          go_simp
          first | (refine hK _ ?_) | (refine ⟨fun W hS => ?_, hK _ ?_⟩; · (have Y1 := hS.old a1; have Z1 := hS.old d1; have Z2 := hS.old d2; have Z3 := hS.old d3; have E0 := hS.old e0; have F0 := hS.old f0; have F1 := hS.old f1; try go_simp))
          clear hK K
          refine flo_read _ rfl (fun K hK => ?_)
          go_simp
          first | (refine hK _ ?_) | (refine ⟨fun W hS => ?_, hK _ ?_⟩; · (have Y1 := hS.old a1; have Z1 := hS.old d1; have Z2 := hS.old d2; have Z3 := hS.old d3; have E0 := hS.old e0; have F0 := hS.old f0; have F1 := hS.old f1; try go_simp))
          clear hK K
          refine flo_read _ rfl (fun K hK => ?_)
          go_simp
          first | (refine hK _ ?_) | (refine ⟨fun W hS => ?_, hK _ ?_⟩; · (have Y1 := hS.old a1; have Z1 := hS.old d1; have Z2 := hS.old d2; have Z3 := hS.old d3; have E0 := hS.old e0; have F0 := hS.old f0; have F1 := hS.old f1; try go_simp))
          clear hK K
          refine flo_read _ rfl (fun K hK => ?_)
          go_simp
          first | (refine hK _ ?_) | (refine ⟨fun W hS => ?_, hK _ ?_⟩; · (have Y1 := hS.old a1; have Z1 := hS.old d1; have Z2 := hS.old d2; have Z3 := hS.old d3; have E0 := hS.old e0; have F0 := hS.old f0; have F1 := hS.old f1; try go_simp))
          clear hK K
          refine flo_read _ rfl (fun K hK => ?_)
          go_simp
          first | (refine hK _ ?_) | (refine ⟨fun W hS => ?_, hK _ ?_⟩; · (have Y1 := hS.old a1; have Z1 := hS.old d1; have Z2 := hS.old d2; have Z3 := hS.old d3; have E0 := hS.old e0; have F0 := hS.old f0; have F1 := hS.old f1; try go_simp))
          clear hK K
          refine flo_read _ rfl (fun K hK => ?_)
          go_simp
          first | (refine hK _ ?_) | (refine ⟨fun W hS => ?_, hK _ ?_⟩; · (have Y1 := hS.old a1; have Z1 := hS.old d1; have Z2 := hS.old d2; have Z3 := hS.old d3; have E0 := hS.old e0; have F0 := hS.old f0; have F1 := hS.old f1; try go_simp))
          clear hK K
          refine flo_read _ rfl (fun K hK => ?_)
          go_simp
          first | (refine hK _ ?_) | (refine ⟨fun W hS => ?_, hK _ ?_⟩; · (have Y1 := hS.old a1; have Z1 := hS.old d1; have Z2 := hS.old d2; have Z3 := hS.old d3; have E0 := hS.old e0; have F0 := hS.old f0; have F1 := hS.old f1; try go_simp))
          clear hK K
          refine flo_read _ rfl (fun K hK => ?_)
          go_simp
          first | (refine hK _ ?_) | (refine ⟨fun W hS => ?_, hK _ ?_⟩; · (have Y1 := hS.old a1; have Z1 := hS.old d1; have Z2 := hS.old d2; have Z3 := hS.old d3; have E0 := hS.old e0; have F0 := hS.old f0; have F1 := hS.old f1; try go_simp))
          clear hK K
          refine flo_read _ rfl (fun K hK => ?_)
          go_simp
          first | (refine hK _ ?_) | (refine ⟨fun W hS => ?_, hK _ ?_⟩; · (have Y1 := hS.old a1; have Z1 := hS.old d1; have Z2 := hS.old d2; have Z3 := hS.old d3; have E0 := hS.old e0; have F0 := hS.old f0; have F1 := hS.old f1; try go_simp))
          clear hK K
          refine flo_read _ rfl (fun K hK => ?_)
          go_simp
          first | (refine hK _ ?_) | (refine ⟨fun W hS => ?_, hK _ ?_⟩; · (have Y1 := hS.old a1; have Z1 := hS.old d1; have Z2 := hS.old d2; have Z3 := hS.old d3; have E0 := hS.old e0; have F0 := hS.old f0; have F1 := hS.old f1; try go_simp))
          clear hK K
          refine flo_alone _ rfl ?_
          go_wp2_with fail
          refine ⟨fun W => Turns [] w4 W, fun W h => h, Turns.refl _ _, ?_⟩
          refine flo_alone _ rfl ?_
          go_wp2_with fail
          refine ⟨fun W => Turns [] w4 W, fun W h => h, Turns.refl _ _, ?_⟩
          refine flo_read _ rfl (fun K hK => ?_)
          go_simp
          first | (refine hK _ ?_) | (refine ⟨fun W hS => ?_, hK _ ?_⟩; · (have Y1 := hS.old a1; have Z1 := hS.old d1; have Z2 := hS.old d2; have Z3 := hS.old d3; have E0 := hS.old e0; have F0 := hS.old f0; have F1 := hS.old f1; try go_simp))
          clear hK K
          refine flo_read _ rfl (fun K hK => ?_)
          go_simp
          first | (refine hK _ ?_) | (refine ⟨fun W hS => ?_, hK _ ?_⟩; · (have Y1 := hS.old a1; have Z1 := hS.old d1; have Z2 := hS.old d2; have Z3 := hS.old d3; have E0 := hS.old e0; have F0 := hS.old f0; have F1 := hS.old f1; try go_simp))
          clear hK K
          refine flo_read _ rfl (fun K hK => ?_)
          go_simp
          first | (refine hK _ ?_) | (refine ⟨fun W hS => ?_, hK _ ?_⟩; · (have Y1 := hS.old a1; have Z1 := hS.old d1; have Z2 := hS.old d2; have Z3 := hS.old d3; have E0 := hS.old e0; have F0 := hS.old f0; have F1 := hS.old f1; try go_simp))
          clear hK K
          refine flo_end ?_
          go_wp2_with fail
          go_ret
          exact ⟨rfl, HD.out.t.trans T4⟩
        | true =>
          rw [Bool.true_and]
          go_enter Try.func58, Try.ntmps58
          go_wp2_with fail
          go_at_call 54
          refine Calls.mono (hR.out) ?_
          rintro e w1 ⟨rfl, t1⟩
          have HD := Lib.hid (((Hh.out.turns t1).alloc #[.int .i64 q.1, .int .i64 q.2] 44).drew)
          clear t1 Hh
          go_wp2_with fail
          go_wp2_with fail
          refine wp_region_flo [(0, true), (1, true), (2, true), (3, true), (4, true), (7, true), (8, true), (5, false), (6, false), (9, true), (10, true), (11, true), (12, true), (13, true), (14, true), (15, true), (16, true), (17, true), (18, true), (19, true), (20, true), (21, true), (22, true), (23, true), (24, true), (25, true), (26, true), (27, true), (28, true), (29, true), (30, true), (33, true), (34, true), (31, false), (32, false), (35, true), (36, true), (37, true)] (fun W => Turns [] (w1.alloc (.cells #[.int .i64 q.1, .int .i64 q.2] 44)).drew W) (by kernel_rfl) rfl (by kernel_rfl) (by intro c d v a w h; cases d <;> first | (simpa [Exit.then, Exit.inBlock, Act.put] using h) | exact h) (Turns.refl _ _) ?_
          generalize hb9 : w1.heap.size = b9 at *
          generalize (w1.alloc (.cells #[.int .i64 q.1, .int .i64 q.2] 44)).drew = w2 at *
          have a1 : World.cell? (w2) ⟨w.heap.size + 1 + 1, 1, none⟩ = some _ := (HD.out.blk 1 rfl).cell 1
          have d0 : World.cell? (w2) ⟨w.heap.size + 1, 0, none⟩ = some _ := (HD.out.blk 2 rfl).cell 0
          have d1 : World.cell? (w2) ⟨w.heap.size + 1, 1, none⟩ = some _ := (HD.out.blk 2 rfl).cell 1
          have d2 : World.cell? (w2) ⟨w.heap.size + 1, 2, none⟩ = some _ := (HD.out.blk 2 rfl).cell 2
          have d3 : World.cell? (w2) ⟨w.heap.size + 1, 3, none⟩ = some _ := (HD.out.blk 2 rfl).cell 3
          have e0 : World.cell? (w2) ⟨w.heap.size, 0, none⟩ = some _ := (HD.out.blk 3 rfl).cell 0
          have f0 : World.cell? (w2) ⟨b9, 0, none⟩ = some _ := (HD.out.blk 0 rfl).cell 0
          have f1 : World.cell? (w2) ⟨b9, 1, none⟩ = some _ := (HD.out.blk 0 rfl).cell 1
          refine flo_read _ rfl (fun K hK => ?_)
          go_simp
          first | (refine hK _ ?_) | (refine ⟨fun W hS => ?_, hK _ ?_⟩; · (have Y1 := hS.old a1; have Z1 := hS.old d1; have Z2 := hS.old d2; have Z3 := hS.old d3; have E0 := hS.old e0; have F0 := hS.old f0; have F1 := hS.old f1; try go_simp))
          clear hK K
          refine flo_read _ rfl (fun K hK => ?_)
          go_simp
          first | (refine hK _ ?_) | (refine ⟨fun W hS => ?_, hK _ ?_⟩; · (have Y1 := hS.old a1; have Z1 := hS.old d1; have Z2 := hS.old d2; have Z3 := hS.old d3; have E0 := hS.old e0; have F0 := hS.old f0; have F1 := hS.old f1; try go_simp))
          clear hK K
          refine flo_read _ rfl (fun K hK => ?_)
          go_simp
          first | (refine hK _ ?_) | (refine ⟨fun W hS => ?_, hK _ ?_⟩; · (have Y1 := hS.old a1; have Z1 := hS.old d1; have Z2 := hS.old d2; have Z3 := hS.old d3; have E0 := hS.old e0; have F0 := hS.old f0; have F1 := hS.old f1; try go_simp))
          clear hK K
          refine flo_read _ rfl (fun K hK => ?_)
          go_simp
          first | (refine hK _ ?_) | (refine ⟨fun W hS => ?_, hK _ ?_⟩; · (have Y1 := hS.old a1; have Z1 := hS.old d1; have Z2 := hS.old d2; have Z3 := hS.old d3; have E0 := hS.old e0; have F0 := hS.old f0; have F1 := hS.old f1; try go_simp))
          clear hK K
          refine flo_read _ rfl (fun K hK => ?_)
          go_simp
          first | (refine hK _ ?_) | (refine ⟨fun W hS => ?_, hK _ ?_⟩; · (have Y1 := hS.old a1; have Z1 := hS.old d1; have Z2 := hS.old d2; have Z3 := hS.old d3; have E0 := hS.old e0; have F0 := hS.old f0; have F1 := hS.old f1; try go_simp))
          clear hK K
          refine flo_read _ rfl (fun K hK => ?_)
          go_simp
          first | (refine hK _ ?_) | (refine ⟨fun W hS => ?_, hK _ ?_⟩; · (have Y1 := hS.old a1; have Z1 := hS.old d1; have Z2 := hS.old d2; have Z3 := hS.old d3; have E0 := hS.old e0; have F0 := hS.old f0; have F1 := hS.old f1; try go_simp))
          clear hK K
          refine flo_read _ rfl (fun K hK => ?_)
          go_simp
          first | (refine hK _ ?_) | (refine ⟨fun W hS => ?_, hK _ ?_⟩; · (have Y1 := hS.old a1; have Z1 := hS.old d1; have Z2 := hS.old d2; have Z3 := hS.old d3; have E0 := hS.old e0; have F0 := hS.old f0; have F1 := hS.old f1; try go_simp))
          clear hK K
          refine flo_alone _ rfl ?_
          go_wp2_with fail
          go_at_call 40
          refine Calls.mono (I1.out _) ?_
          rintro e w3 ⟨rfl, t3⟩
          go_wp2_with fail
          refine ⟨fun W => Turns [] w3 W, fun W h => t3.trans h, Turns.refl _ _, ?_⟩
          refine flo_alone _ rfl ?_
          go_wp2_with fail
          go_at_call 41
          refine Calls.mono (I2.out _) ?_
          rintro e w4 ⟨rfl, t4⟩
          go_wp2_with fail
          refine ⟨fun W => Turns [] w4 W, fun W h => t4.trans h, Turns.refl _ _, ?_⟩
          have T4 := t3.trans t4
          replace a1 := T4.old a1
          replace d1 := T4.old d1
          replace d2 := T4.old d2
          replace d3 := T4.old d3
          replace e0 := T4.old e0
          replace f0 := T4.old f0
          replace f1 := T4.old f1
          clear t3 t4 d0
          refine flo_read _ rfl (fun K hK => ?_)
          go_simp
          first | (refine hK _ ?_) | (refine ⟨fun W hS => ?_, hK _ ?_⟩; · (have Y1 := hS.old a1; have Z1 := hS.old d1; have Z2 := hS.old d2; have Z3 := hS.old d3; have E0 := hS.old e0; have F0 := hS.old f0; have F1 := hS.old f1; try go_simp))
          clear hK K
          refine flo_read _ rfl (fun K hK => ?_)
          go_simp
          first | (refine hK _ ?_) | (refine ⟨fun W hS => ?_, hK _ ?_⟩; · (have Y1 := hS.old a1; have Z1 := hS.old d1; have Z2 := hS.old d2; have Z3 := hS.old d3; have E0 := hS.old e0; have F0 := hS.old f0; have F1 := hS.old f1; try go_simp))
          clear hK K
          refine flo_read _ rfl (fun K hK => ?_)
          go_simp
          first | (refine hK _ ?_) | (refine ⟨fun W hS => ?_, hK _ ?_⟩; · (have Y1 := hS.old a1; have Z1 := hS.old d1; have Z2 := hS.old d2; have Z3 := hS.old d3; have E0 := hS.old e0; have F0 := hS.old f0; have F1 := hS.old f1; try go_simp))
          clear hK K
          refine flo_read _ rfl (fun K hK => ?_)
          go_simp
          first | (refine hK _ ?_) | (refine ⟨fun W hS => ?_, hK _ ?_⟩; · (have Y1 := hS.old a1; have Z1 := hS.old d1; have Z2 := hS.old d2; have Z3 := hS.old d3; have E0 := hS.old e0; have F0 := hS.old f0; have F1 := hS.old f1; try go_simp))
          clear hK K
          refine flo_read _ rfl (fun K hK => ?_)
          go_simp
          first | (refine hK _ ?_) | (refine ⟨fun W hS => ?_, hK _ ?_⟩; · (have Y1 := hS.old a1; have Z1 := hS.old d1; have Z2 := hS.old d2; have Z3 := hS.old d3; have E0 := hS.old e0; have F0 := hS.old f0; have F1 := hS.old f1; try go_simp))
          clear hK K
          refine flo_read _ rfl (fun K hK => ?_)
          go_simp
          first | (refine hK _ ?_) | (refine ⟨fun W hS => ?_, hK _ ?_⟩; · (have Y1 := hS.old a1; have Z1 := hS.old d1; have Z2 := hS.old d2; have Z3 := hS.old d3; have E0 := hS.old e0; have F0 := hS.old f0; have F1 := hS.old f1; try go_simp))
          clear hK K
          refine flo_read _ rfl (fun K hK => ?_)
          go_simp
          first | (refine hK _ ?_) | (refine ⟨fun W hS => ?_, hK _ ?_⟩; · (have Y1 := hS.old a1; have Z1 := hS.old d1; have Z2 := hS.old d2; have Z3 := hS.old d3; have E0 := hS.old e0; have F0 := hS.old f0; have F1 := hS.old f1; try go_simp))
          clear hK K
          refine flo_read _ rfl (fun K hK => ?_)
          go_simp
          first | (refine hK _ ?_) | (refine ⟨fun W hS => ?_, hK _ ?_⟩; · (have Y1 := hS.old a1; have Z1 := hS.old d1; have Z2 := hS.old d2; have Z3 := hS.old d3; have E0 := hS.old e0; have F0 := hS.old f0; have F1 := hS.old f1; try go_simp))
          clear hK K
          refine flo_read _ rfl (fun K hK => ?_)
          go_simp
          first | (refine hK _ ?_) | (refine ⟨fun W hS => ?_, hK _ ?_⟩; · (have Y1 := hS.old a1; have Z1 := hS.old d1; have Z2 := hS.old d2; have Z3 := hS.old d3; have E0 := hS.old e0; have F0 := hS.old f0; have F1 := hS.old f1; try go_simp))
          clear hK K
          refine flo_read _ rfl (fun K hK => ?_)
          go_simp
          first | (refine hK _ ?_) | (refine ⟨fun W hS => ?_, hK _ ?_⟩; · (have Y1 := hS.old a1; have Z1 := hS.old d1; have Z2 := hS.old d2; have Z3 := hS.old d3; have E0 := hS.old e0; have F0 := hS.old f0; have F1 := hS.old f1; try go_simp))
          clear hK K
          refine flo_read _ rfl (fun K hK => ?_)
          go_simp
          first | (refine hK _ ?_) | (refine ⟨fun W hS => ?_, hK _ ?_⟩; · (have Y1 := hS.old a1; have Z1 := hS.old d1; have Z2 := hS.old d2; have Z3 := hS.old d3; have E0 := hS.old e0; have F0 := hS.old f0; have F1 := hS.old f1; try go_simp))
          clear hK K
          refine flo_read _ rfl (fun K hK => ?_)
          go_simp
          first | (refine hK _ ?_) | (refine ⟨fun W hS => ?_, hK _ ?_⟩; · (have Y1 := hS.old a1; have Z1 := hS.old d1; have Z2 := hS.old d2; have Z3 := hS.old d3; have E0 := hS.old e0; have F0 := hS.old f0; have F1 := hS.old f1; try go_simp))
          clear hK K
          refine flo_read _ rfl (fun K hK => ?_)
          go_simp
          first | (refine hK _ ?_) | (refine ⟨fun W hS => ?_, hK _ ?_⟩; · (have Y1 := hS.old a1; have Z1 := hS.old d1; have Z2 := hS.old d2; have Z3 := hS.old d3; have E0 := hS.old e0; have F0 := hS.old f0; have F1 := hS.old f1; try go_simp))
          clear hK K
          refine flo_read _ rfl (fun K hK => ?_)
          go_simp
          first | (refine hK _ ?_) | (refine ⟨fun W hS => ?_, hK _ ?_⟩; · (have Y1 := hS.old a1; have Z1 := hS.old d1; have Z2 := hS.old d2; have Z3 := hS.old d3; have E0 := hS.old e0; have F0 := hS.old f0; have F1 := hS.old f1; try go_simp))
          clear hK K
          refine flo_read _ rfl (fun K hK => ?_)
          go_simp
          first | (refine hK _ ?_) | (refine ⟨fun W hS => ?_, hK _ ?_⟩; · (have Y1 := hS.old a1; have Z1 := hS.old d1; have Z2 := hS.old d2; have Z3 := hS.old d3; have E0 := hS.old e0; have F0 := hS.old f0; have F1 := hS.old f1; try go_simp))
          clear hK K
          refine flo_read _ rfl (fun K hK => ?_)
          go_simp
          first | (refine hK _ ?_) | (refine ⟨fun W hS => ?_, hK _ ?_⟩; · (have Y1 := hS.old a1; have Z1 := hS.old d1; have Z2 := hS.old d2; have Z3 := hS.old d3; have E0 := hS.old e0; have F0 := hS.old f0; have F1 := hS.old f1; try go_simp))
          clear hK K
          refine flo_read _ rfl (fun K hK => ?_)
          go_simp
          first | (refine hK _ ?_) | (refine ⟨fun W hS => ?_, hK _ ?_⟩; · (have Y1 := hS.old a1; have Z1 := hS.old d1; have Z2 := hS.old d2; have Z3 := hS.old d3; have E0 := hS.old e0; have F0 := hS.old f0; have F1 := hS.old f1; try go_simp))
          clear hK K
          refine flo_read _ rfl (fun K hK => ?_)
          go_simp
          first | (refine hK _ ?_) | (refine ⟨fun W hS => ?_, hK _ ?_⟩; · (have Y1 := hS.old a1; have Z1 := hS.old d1; have Z2 := hS.old d2; have Z3 := hS.old d3; have E0 := hS.old e0; have F0 := hS.old f0; have F1 := hS.old f1; try go_simp))
          clear hK K
          refine flo_read _ rfl (fun K hK => ?_)
          go_simp
          first | (refine hK _ ?_) | (refine ⟨fun W hS => ?_, hK _ ?_⟩; · (have Y1 := hS.old a1; have Z1 := hS.old d1; have Z2 := hS.old d2; have Z3 := hS.old d3; have E0 := hS.old e0; have F0 := hS.old f0; have F1 := hS.old f1; try go_simp))
          clear hK K
          refine flo_read _ rfl (fun K hK => ?_)
          go_simp
          first | (refine hK _ ?_) | (refine ⟨fun W hS => ?_, hK _ ?_⟩; · (have Y1 := hS.old a1; have Z1 := hS.old d1; have Z2 := hS.old d2; have Z3 := hS.old d3; have E0 := hS.old e0; have F0 := hS.old f0; have F1 := hS.old f1; try go_simp))
          clear hK K
          refine flo_read _ rfl (fun K hK => ?_)
          go_simp
          first | (refine hK _ ?_) | (refine ⟨fun W hS => ?_, hK _ ?_⟩; · (have Y1 := hS.old a1; have Z1 := hS.old d1; have Z2 := hS.old d2; have Z3 := hS.old d3; have E0 := hS.old e0; have F0 := hS.old f0; have F1 := hS.old f1; try go_simp))
          clear hK K
          refine flo_read _ rfl (fun K hK => ?_)
          go_simp
          first | (refine hK _ ?_) | (refine ⟨fun W hS => ?_, hK _ ?_⟩; · (have Y1 := hS.old a1; have Z1 := hS.old d1; have Z2 := hS.old d2; have Z3 := hS.old d3; have E0 := hS.old e0; have F0 := hS.old f0; have F1 := hS.old f1; try go_simp))
          clear hK K
          refine flo_read _ rfl (fun K hK => ?_)
          go_simp
          first | (refine hK _ ?_) | (refine ⟨fun W hS => ?_, hK _ ?_⟩; · (have Y1 := hS.old a1; have Z1 := hS.old d1; have Z2 := hS.old d2; have Z3 := hS.old d3; have E0 := hS.old e0; have F0 := hS.old f0; have F1 := hS.old f1; try go_simp))
          clear hK K
          refine flo_read _ rfl (fun K hK => ?_)
          go_simp
          first | (refine hK _ ?_) | (refine ⟨fun W hS => ?_, hK _ ?_⟩; · (have Y1 := hS.old a1; have Z1 := hS.old d1; have Z2 := hS.old d2; have Z3 := hS.old d3; have E0 := hS.old e0; have F0 := hS.old f0; have F1 := hS.old f1; try go_simp))
          clear hK K
          refine flo_alone _ rfl ?_
          go_wp2_with fail
          go_at_call 41
          refine Calls.mono (I3.out _) ?_
          rintro e w5 ⟨rfl, t5⟩
          go_wp2_with fail
          refine ⟨fun W => Turns [] w5 W, fun W h => t5.trans h, Turns.refl _ _, ?_⟩
          refine flo_alone _ rfl ?_
          go_wp2_with fail
          go_at_call 40
          refine Calls.mono (I4.out _) ?_
          rintro e w6 ⟨rfl, t6⟩
          go_wp2_with fail
          refine ⟨fun W => Turns [] w6 W, fun W h => t6.trans h, Turns.refl _ _, ?_⟩
          refine flo_read _ rfl (fun K hK => ?_)
          go_simp
          first | (refine hK _ ?_) | (refine ⟨fun W hS => ?_, hK _ ?_⟩; · (skip; try go_simp))
          clear hK K
          refine flo_read _ rfl (fun K hK => ?_)
          go_simp
          first | (refine hK _ ?_) | (refine ⟨fun W hS => ?_, hK _ ?_⟩; · (skip; try go_simp))
          clear hK K
          refine flo_read _ rfl (fun K hK => ?_)
          go_simp
          first | (refine hK _ ?_) | (refine ⟨fun W hS => ?_, hK _ ?_⟩; · (skip; try go_simp))
          clear hK K
          refine flo_end ?_
          go_wp2_with fail
          go_ret
          exact ⟨rfl, HD.out.t.trans ((T4.trans t5).trans t6)⟩
end Go.Proofs.Ytphhfdlhkginkaa.Bn
