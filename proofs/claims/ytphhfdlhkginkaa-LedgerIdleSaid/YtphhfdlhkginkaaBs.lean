/- The document's Sweep. -/
import Derived.Test.YtphhfdlhkginkaaBk
import Derived.Test.YtphhfdlhkginkaaBp
set_option linter.unusedVariables false
set_option linter.unusedSimpArgs false
set_option maxRecDepth 100000
namespace Go.Proofs.Ytphhfdlhkginkaa.Bs
open Go.RowKit Go.MapKept Hm Hs Hr Hb Hf Hx Hy Hv Hz Hu Fa Ff Fq Ba Bb Bc Bi Bj Bk Bf Cf Cn Sm Sat Mu Mv Ca Cb Bn Bp
theorem sweep_take (start now : Int) (c : Ba.Cf) (R : List Row) {k : Nat} {r : Row} (h : R[k]? = some r) : sweepR start c now (R.take (k + 1)) = if idleR start c now r then sweepR start c now (R.take k) else sweepR start c now (R.take k) ++ [r] := by
  unfold sweepR
  rw [take_next h, List.filter_append]
  cases hl : idleR start c now r <;> simp [hl]
theorem sweep_len (start now : Int) (c : Ba.Cf) (R : List Row) (k : Nat) : (sweepR start c now (R.take k)).length ≤ R.length := by
  unfold sweepR
  have := List.length_filter_le (fun r : Row => !idleR start c now r) (R.take k)
  rw [List.length_take] at this
  omega
set_option maxHeartbeats 8000000 in
theorem rsweep_is (G : List Nat) (w : World) (start now : Int) (v : Value) (R : List Row) (c : Cfg) (hs : RTS G w v R) (hn : R.length ≤ 100000) (hr : RdS 2 w c.rv (rts c.rates)) (hG : ∀ k ∈ G, k < w.heap.size) : Calls Try.prog 24 #[.agg #[.int .i64 start, v], .int .i64 now, c.v] w fun e w' => ∃ v', e = .returned (.agg #[.int .i64 start, v']) ∧ RTS G w' v' (sweepR start (cfg c) now R) ∧ Turns [] w w' := by
  have h := hs.rt
  obtain ⟨A, cc, rfl, hlc, hcm⟩ := h.form
  have hI := Lib.hid (fun W x r (t : Turns [] w W) (hx : RowIs W x r) => ridle_is W start now _ R x r c (h.turns t) hx (hr.mv (fun a u => t.old)))
  obtain ⟨Ar, cr, hrv, hlr, hcr⟩ := hr.form
  rw [rts_len] at hrv hlr
  obtain ⟨V, hV⟩ : ∃ V : Ending → World → Prop, V = fun e w' => ∃ v', e = .returned (.agg #[.int .i64 start, v']) ∧ RTS G w' v' (sweepR start (cfg c) now R) ∧ Turns [] w w' := ⟨_, rfl⟩
  rw [← hV]
  have hVh : Hid (∀ w' v', RTS G w' v' (sweepR start (cfg c) now R) → Turns [] w w' → V (.returned (.agg #[.int .i64 start, v'])) w') := Lib.hid (fun w' v' h1 h2 => by rw [hV]; exact ⟨v', rfl, h1, h2⟩)
  obtain ⟨n, skew, ttl, valid, loss, hear, keys, queue, rv, rates⟩ := c
  simp only at hrv hlr hI hr
  subst hrv
  unfold Cfg.v at hI ⊢
  simp only at hI ⊢
  have H := (((Sep.start w).alloc #[.int .i64 start, .slice A R.length cc] 24).alloc #[.int .i64 n, .int .i64 skew, .int .i64 ttl, .int .i64 valid, .int .i64 loss, .int .i64 hear, .int .i64 keys, .int .i64 queue, .slice Ar rates.length cr] 27).alloc #[.int .i64 0, .slice none 0 0] 24 |>.nilSlice 38 4
  rw [World.size_alloc, World.size_alloc] at H
  have Hh := Lib.hid H
  have hh := Lib.hid hs
  have hGh := Lib.hid hG
  obtain ⟨C, hC⟩ : ∃ C : Cfg, C = ⟨n, skew, ttl, valid, loss, hear, keys, queue, .slice Ar rates.length cr, rates⟩ := ⟨_, rfl⟩
  rw [← hC] at hI hVh
  clear hs h hr H hC hV hG
  obtain ⟨wo, hwo⟩ : ∃ wo, ((w.alloc (.cells #[.int .i64 start, .slice A R.length cc] 24)).alloc (.cells #[.int .i64 n, .int .i64 skew, .int .i64 ttl, .int .i64 valid, .int .i64 loss, .int .i64 hear, .int .i64 keys, .int .i64 queue, .slice Ar rates.length cr] 27)).alloc (.cells #[.int .i64 0, .slice none 0 0] 24) = wo := ⟨_, rfl⟩
  rw [hwo] at Hh
  go_enter Try.func24, Try.ntmps24
  go_wp2_with fail
  try rw [hwo]
  clear hwo
  go_loopw [7, 8] (fun v7 v8 wr => ∃ (k : Nat) (X : List Rw), k ≤ R.length ∧ v8 = .int .i64 k ∧ RowsS G w X (sweepR start (cfg C) now (R.take k)) ∧ Sep [] w [tOwn 38 4 v7 (X.map Rw.cells), tBlk (w.heap.size + 1 + 1) #[.int .i64 0, .slice none 0 0] 24, tBlk (w.heap.size + 1) #[.int .i64 n, .int .i64 skew, .int .i64 ttl, .int .i64 valid, .int .i64 loss, .int .i64 hear, .int .i64 keys, .int .i64 queue, .slice Ar rates.length cr] 27, tBlk w.heap.size #[.int .i64 start, .slice A R.length cc] 24] wr) (fun _ v8 _ => R.length - (RowKit.intOf v8).toNat)
  case atStart => exact ⟨0, [], by omega, rfl, RowsS.nil _ _, Hh.out⟩
  case round =>
    clear Hh
    obtain ⟨k, X, hk, rfl, hXS, H⟩ := hrel
    have hol := sweep_len start now (cfg C) R k
    have hXl : X.length ≤ 100000 := by rw [hXS.rows.1]; omega
    obtain ⟨A5, c5, hu, _⟩ := formM (H.own 0 rfl)
    obtain ⟨L5, hL5⟩ : ∃ L5, X.length = L5 := ⟨_, rfl⟩
    rw [hL5] at hu hXl
    subst hu
    have hXSh := Lib.hid hXS
    have hL5h := Lib.hid hL5
    clear hXS hL5 hol
    have t0 : World.cell? (wr) ⟨w.heap.size, 0, none⟩ = some _ := (H.blk 3 rfl).cell 0
    have t1 : World.cell? (wr) ⟨w.heap.size, 1, none⟩ = some _ := (H.blk 3 rfl).cell 1
    by_cases hlt : k < R.length
    · have g1 : decide ((k : Int) < (R.length : Int)) = true := decide_eq_true (by omega)
      have g1b : decide (k < R.length) = true := decide_eq_true hlt
      obtain ⟨y, hy⟩ : ∃ y, R[k]? = some y := ⟨_, List.getElem?_eq_getElem hlt⟩
      have hnx := Lib.hid (sweep_take start now (cfg C) R hy)
      obtain ⟨ad, c', x, hv, hxr, LX⟩ := hh.out.at_ hy
      injection hv with e1 e2 e3
      subst e1 e3
      obtain ⟨Ay, cy, rfl, hoy⟩ := row_form hxr.row
      have LXh := Lib.hid LX
      have hxrh := Lib.hid hxr
      have HD := Lib.hid H.drew
      have IC := Lib.hid (hI.out _ _ y H.drew.t (hxr.row.turns H.drew.t))
      simp only [Rw.v] at IC
      clear hy e2 LX hxr hoy H
      go_wp2_with fail
      go_wp2_with fail
      refine wp_region_flo [(0, true), (1, true), (2, true), (3, true), (4, true), (5, true), (6, true), (7, true), (8, false), (9, true)] (fun W => Turns [] wr.drew W) (by kernel_rfl) rfl (by kernel_rfl) (by intro c d v a w h; cases d <;> first | (simpa [Exit.then, Exit.inBlock, Act.put] using h) | exact h) (Turns.refl _ _) ?_
      generalize wr.drew = w2 at *
      clear t0 t1
      have t0 : World.cell? (w2) ⟨w.heap.size, 0, none⟩ = some _ := (HD.out.blk 3 rfl).cell 0
      have t1 : World.cell? (w2) ⟨w.heap.size, 1, none⟩ = some _ := (HD.out.blk 3 rfl).cell 1
      have c0 : World.cell? (w2) ⟨w.heap.size + 1, 0, none⟩ = some _ := (HD.out.blk 2 rfl).cell 0
      have c1 : World.cell? (w2) ⟨w.heap.size + 1, 1, none⟩ = some _ := (HD.out.blk 2 rfl).cell 1
      have c2 : World.cell? (w2) ⟨w.heap.size + 1, 2, none⟩ = some _ := (HD.out.blk 2 rfl).cell 2
      have c3 : World.cell? (w2) ⟨w.heap.size + 1, 3, none⟩ = some _ := (HD.out.blk 2 rfl).cell 3
      have c4 : World.cell? (w2) ⟨w.heap.size + 1, 4, none⟩ = some _ := (HD.out.blk 2 rfl).cell 4
      have c5 : World.cell? (w2) ⟨w.heap.size + 1, 5, none⟩ = some _ := (HD.out.blk 2 rfl).cell 5
      have c6 : World.cell? (w2) ⟨w.heap.size + 1, 6, none⟩ = some _ := (HD.out.blk 2 rfl).cell 6
      have c7 : World.cell? (w2) ⟨w.heap.size + 1, 7, none⟩ = some _ := (HD.out.blk 2 rfl).cell 7
      have c8 : World.cell? (w2) ⟨w.heap.size + 1, 8, none⟩ = some _ := (HD.out.blk 2 rfl).cell 8
      obtain ⟨x0, x1, x2, x3⟩ := LXh.out.turns HD.out.t
      refine flo_read _ rfl (fun K hK => ?_)
      go_simp
      first | (refine hK _ ?_) | (refine ⟨fun W hS => ?_, hK _ ?_⟩; · (have X0 := hS.old x0; have X1 := hS.old x1; have X2 := hS.old x2; have X3 := hS.old x3; have T0 := hS.old t0; have T1 := hS.old t1; have C0 := hS.old c0; have C1 := hS.old c1; have C2 := hS.old c2; have C3 := hS.old c3; have C4 := hS.old c4; have C5 := hS.old c5; have C6 := hS.old c6; have C7 := hS.old c7; have C8 := hS.old c8; try go_simp))
      clear hK K
      refine flo_read _ rfl (fun K hK => ?_)
      go_simp
      first | (refine hK _ ?_) | (refine ⟨fun W hS => ?_, hK _ ?_⟩; · (have X0 := hS.old x0; have X1 := hS.old x1; have X2 := hS.old x2; have X3 := hS.old x3; have T0 := hS.old t0; have T1 := hS.old t1; have C0 := hS.old c0; have C1 := hS.old c1; have C2 := hS.old c2; have C3 := hS.old c3; have C4 := hS.old c4; have C5 := hS.old c5; have C6 := hS.old c6; have C7 := hS.old c7; have C8 := hS.old c8; try go_simp))
      clear hK K
      refine flo_read _ rfl (fun K hK => ?_)
      go_simp
      first | (refine hK _ ?_) | (refine ⟨fun W hS => ?_, hK _ ?_⟩; · (have X0 := hS.old x0; have X1 := hS.old x1; have X2 := hS.old x2; have X3 := hS.old x3; have T0 := hS.old t0; have T1 := hS.old t1; have C0 := hS.old c0; have C1 := hS.old c1; have C2 := hS.old c2; have C3 := hS.old c3; have C4 := hS.old c4; have C5 := hS.old c5; have C6 := hS.old c6; have C7 := hS.old c7; have C8 := hS.old c8; try go_simp))
      clear hK K
      refine flo_read _ rfl (fun K hK => ?_)
      go_simp
      first | (refine hK _ ?_) | (refine ⟨fun W hS => ?_, hK _ ?_⟩; · (have X0 := hS.old x0; have X1 := hS.old x1; have X2 := hS.old x2; have X3 := hS.old x3; have T0 := hS.old t0; have T1 := hS.old t1; have C0 := hS.old c0; have C1 := hS.old c1; have C2 := hS.old c2; have C3 := hS.old c3; have C4 := hS.old c4; have C5 := hS.old c5; have C6 := hS.old c6; have C7 := hS.old c7; have C8 := hS.old c8; try go_simp))
      clear hK K
      refine flo_read _ rfl (fun K hK => ?_)
      go_simp
      first | (refine hK _ ?_) | (refine ⟨fun W hS => ?_, hK _ ?_⟩; · (have X0 := hS.old x0; have X1 := hS.old x1; have X2 := hS.old x2; have X3 := hS.old x3; have T0 := hS.old t0; have T1 := hS.old t1; have C0 := hS.old c0; have C1 := hS.old c1; have C2 := hS.old c2; have C3 := hS.old c3; have C4 := hS.old c4; have C5 := hS.old c5; have C6 := hS.old c6; have C7 := hS.old c7; have C8 := hS.old c8; try go_simp))
      clear hK K
      refine flo_read _ rfl (fun K hK => ?_)
      go_simp
      first | (refine hK _ ?_) | (refine ⟨fun W hS => ?_, hK _ ?_⟩; · (have X0 := hS.old x0; have X1 := hS.old x1; have X2 := hS.old x2; have X3 := hS.old x3; have T0 := hS.old t0; have T1 := hS.old t1; have C0 := hS.old c0; have C1 := hS.old c1; have C2 := hS.old c2; have C3 := hS.old c3; have C4 := hS.old c4; have C5 := hS.old c5; have C6 := hS.old c6; have C7 := hS.old c7; have C8 := hS.old c8; try go_simp))
      clear hK K
      refine flo_read _ rfl (fun K hK => ?_)
      go_simp
      first | (refine hK _ ?_) | (refine ⟨fun W hS => ?_, hK _ ?_⟩; · (have X0 := hS.old x0; have X1 := hS.old x1; have X2 := hS.old x2; have X3 := hS.old x3; have T0 := hS.old t0; have T1 := hS.old t1; have C0 := hS.old c0; have C1 := hS.old c1; have C2 := hS.old c2; have C3 := hS.old c3; have C4 := hS.old c4; have C5 := hS.old c5; have C6 := hS.old c6; have C7 := hS.old c7; have C8 := hS.old c8; try go_simp))
      clear hK K
      refine flo_read _ rfl (fun K hK => ?_)
      go_simp
      first | (refine hK _ ?_) | (refine ⟨fun W hS => ?_, hK _ ?_⟩; · (have X0 := hS.old x0; have X1 := hS.old x1; have X2 := hS.old x2; have X3 := hS.old x3; have T0 := hS.old t0; have T1 := hS.old t1; have C0 := hS.old c0; have C1 := hS.old c1; have C2 := hS.old c2; have C3 := hS.old c3; have C4 := hS.old c4; have C5 := hS.old c5; have C6 := hS.old c6; have C7 := hS.old c7; have C8 := hS.old c8; try go_simp))
      clear hK K
      clear x0 x1 x2 x3 t0 t1 c0 c1 c2 c3 c4 c5 c6 c7 c8
      generalize idleR start (cfg C) now y = b at *
      refine flo_alone _ rfl ?_
      go_wp2_with fail
      go_at_call 25
      refine Calls.mono (IC.out) ?_
      rintro e w3 ⟨rfl, t3⟩
      go_wp2_with fail
      refine ⟨fun W => Turns [] w3 W, fun W h => t3.trans h, Turns.refl _ _, ?_⟩
      refine flo_read _ rfl (fun K hK => ?_)
      go_simp
      first | (refine hK _ ?_) | (refine ⟨fun W hS => ?_, hK _ ?_⟩; · (skip; try go_simp))
      clear hK K
      refine flo_end ?_
      have H3 := Lib.hid (HD.out.turns t3)
      clear HD IC t3
      have t0 : World.cell? (w3) ⟨w.heap.size, 0, none⟩ = some _ := (H3.out.blk 3 rfl).cell 0
      have t1 : World.cell? (w3) ⟨w.heap.size, 1, none⟩ = some _ := (H3.out.blk 3 rfl).cell 1
      obtain ⟨x0, x1, x2, x3⟩ := LXh.out.turns H3.out.t
      cases b with
      | true =>
        have he := Lib.hid (hnx.out.trans (if_pos rfl))
        go_wp2_with fail
        go_roundw
        case rel => exact ⟨k + 1, X, by omega, by go_num, by rw [he.out]; exact hXSh.out, H3.out⟩
        case measure => simp [RowKit.intOf]; omega
      | false =>
        have he := Lib.hid (hnx.out.trans (if_neg (by simp)))
        have hlen2 : Hid (L5 + 1 = (X.map Rw.cells).length + (([(⟨y.key, y.avail, y.mark, .slice Ay y.out.length cy⟩ : Rw)] : List Rw).map Rw.cells).length) := Lib.hid (by rw [List.length_map, hL5h.out]; rfl)
        go_wp2_with (at_builtin; refine stop_ ?_)
        refine Mk_.mk ?_
        refine (H3.out.alloc #[.int .i64 y.key, .int .i64 y.avail, .int .i64 y.mark, .slice Ay y.out.length cy] 38).append 1 rfl (one_row (x := (⟨y.key, y.avail, y.mark, .slice Ay y.out.length cy⟩ : Rw)) (Blk.new _ #[.int .i64 y.key, .int .i64 y.avail, .int .i64 y.mark, .slice Ay y.out.length cy] 38) rfl) (L5 + 1) (hlen2.out) ((X ++ [(⟨y.key, y.avail, y.mark, .slice Ay y.out.length cy⟩ : Rw)]).map Rw.cells) (by rw [List.map_append]) rfl _ _ _ rfl (.agg #[.int .i64 0, .int .i64 0, .int .i64 0, .slice none 0 0]) 48 Try.underlying22 infoRow rfl (by decide) rfl rfl (by intro r hr u hu; simp [Rw.cells] at hr; subst hr; simp at hu; rcases hu with rfl | rfl | rfl | rfl <;> rfl) (by omega) (by omega) ?_
        intro A6 c6 w6 H6 t6 _
        have K6 := Lib.hid (H6.keep [1, 2, 3, 4])
        clear H6 t6 H3 t0 t1 x0 x1 x2 x3
        go_wp2_with fail
        go_roundw
        case rel => exact ⟨k + 1, X ++ [(⟨y.key, y.avail, y.mark, .slice Ay y.out.length cy⟩ : Rw)], by omega, by go_num, by rw [he.out]; exact hXSh.out.snoc hxrh.out, K6.out⟩
        case measure => simp [RowKit.intOf]; omega
    · obtain rfl : k = R.length := by omega
      have g1 : decide ((R.length : Int) < (R.length : Int)) = false := by simp
      rw [List.take_length] at hXSh
      clear t0 t1
      have t0 : World.cell? (wr) ⟨w.heap.size, 0, none⟩ = some _ := (H.blk 3 rfl).cell 0
      have t1 : World.cell? (wr) ⟨w.heap.size, 1, none⟩ = some _ := (H.blk 3 rfl).cell 1
      have tf1 : World.frozen? (wr) ⟨w.heap.size, 1, none⟩ = false := (H.blk 3 rfl).frozen 1
      have z0 : World.cell? (wr) ⟨w.heap.size + 1 + 1, 0, none⟩ = some _ := (H.blk 1 rfl).cell 0
      have zf0 : World.frozen? (wr) ⟨w.heap.size + 1 + 1, 0, none⟩ = false := (H.blk 1 rfl).frozen 0
      have z1 : World.cell? (wr) ⟨w.heap.size + 1 + 1, 1, none⟩ = some _ := (H.blk 1 rfl).cell 1
      have zf1 : World.frozen? (wr) ⟨w.heap.size + 1 + 1, 1, none⟩ = false := (H.blk 1 rfl).frozen 1
      have H6 := ((H.set 3 rfl 1 (.slice A5 L5 c5)).set 1 rfl 0 (.int .i64 start)).set 1 rfl 1 (.slice A5 L5 c5)
      have hB := H6.blk 1 rfl
      have hX := hVh.out _ (.slice A5 L5 c5) ⟨_, fun W t => ⟨((H6.own 0 rfl).turns t (fun k hk hkG => by
          rcases mine_own H6 0 rfl k hk with h1 | h1
          · cases h1
          · have := hGh.out k hkG; omega)).reads, hXSh.out W ((H6.t.mono (by simp)).trans t)⟩⟩ H6.t
      clear H6 H hVh hXSh hL5h hh hI
      go_wp2_with fail
      refine bodyPost_ret (res_one rfl (.cell (w.heap.size + 1 + 1) _ _ _ rfl hB Try.underlying24 rfl (by kernel_rfl) .nil)) rfl ?_
      exact hX
end Go.Proofs.Ytphhfdlhkginkaa.Bs
