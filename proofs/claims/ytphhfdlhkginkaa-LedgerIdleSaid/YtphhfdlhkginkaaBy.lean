/- The document's Grant. -/
import Derived.Test.YtphhfdlhkginkaaBx
import Derived.Test.YtphhfdlhkginkaaBw
set_option linter.unusedVariables false
set_option linter.unusedSimpArgs false
set_option maxRecDepth 100000
namespace Go.Proofs.Ytphhfdlhkginkaa.By
open Go.RowKit Go.MapKept Hm Hs Hf Hx Hy Hv Hz Hu Fa Ff Fq Ba Bb Bc Bd Bi Bj Bk Bl Bv Bw Bx Sm Sat
theorem putX_len {p : Int × Int} : ∀ (l : List (Int × Int)) (s : List (Int × Int) × Bool), (l.foldl (putStep p) s).1.length ≤ s.1.length + 2 * l.length
  | [], s => by simp
  | x :: l, s => by
    rw [List.foldl_cons]
    have := putX_len (p := p) l (putStep p s x)
    have h2 : (putStep p s x).1.length ≤ s.1.length + 2 := by
      unfold putStep
      split <;> simp
    simp only [List.length_cons]
    omega
set_option maxHeartbeats 8000000 in
theorem rgrant_is (G : List Nat) (w : World) (start key node want : Int) (v : Value) (R : List Row) (hs : RTS G w v R) (hG : ∀ k ∈ G, k < w.heap.size) (hok : Ok R) : Calls Try.prog 35 #[.agg #[.int .i64 start, v], .int .i64 key, .int .i64 node, .int .i64 want] w fun e w' => ∃ v', e = .returned (.tuple #[.agg #[.int .i64 start, v'], .int .i64 (grantR start R key node want).2]) ∧ RTS G w' v' (grantR start R key node want).1 ∧ Turns [] w w' := by
  have h := hs.rt
  have hGh := Lib.hid hG
  obtain ⟨A, cc, rfl, hlc, hcm⟩ := h.form
  have hRl := hok.len
  have hro := rwAt_ok (start := start) hok key
  have hkey := rwAt_key start R key
  obtain ⟨V, hV⟩ : ∃ V : Ending → World → Prop, V = fun e w' => ∃ v', e = .returned (.tuple #[.agg #[.int .i64 start, v'], .int .i64 (grantR start R key node want).2]) ∧ RTS G w' v' (grantR start R key node want).1 ∧ Turns [] w w' := ⟨_, rfl⟩
  rw [← hV]
  have hVh : Hid (∀ w' v' R' n, grantR start R key node want = (R', n) → RTS G w' v' R' → Turns [] w w' → V (.returned (.tuple #[.agg #[.int .i64 start, v'], .int .i64 n])) w') := Lib.hid (fun w' v' R' n h1 h2 h3 => by rw [hV, h1]; exact ⟨v', rfl, h2, h3⟩)
  have H := ((Sep.start w).alloc #[.int .i64 start, .slice A R.length cc] 24).alloc #[.int .i64 0, .slice none 0 0] 24
  rw [World.size_alloc] at H
  have hF := Lib.hid (rfind_is ([w.heap.size + 1] ++ G) w _ start key _ R (RTS.more hs (Turns.refl _ _) (by intro k hk; rw [List.mem_singleton.1 hk]; omega)) H.t hok.rise)
  have Hh := Lib.hid H
  have hh := Lib.hid hs
  have hokh := Lib.hid hok
  have hgn := Lib.hid (fun h => grant_no (start := start) (R := R) (key := key) (node := node) (want := want) h)
  have hgy := Lib.hid (fun h => grant_yes (start := start) (R := R) (key := key) (node := node) (want := want) h)
  obtain ⟨r, hr⟩ : ∃ r, rwAt start R key = r := ⟨_, rfl⟩
  rw [hr] at hF hro hgn hgy hkey
  have hroh := Lib.hid hro
  have hol := hro.len
  have ha0 := hro.a0
  have ha1 := hro.a1
  obtain ⟨nn, hnn⟩ : ∃ nn, canR r want = nn := ⟨_, rfl⟩
  have hcan : min (min (fit want) r.avail) 2147483648 = nn := hnn
  have hnb : nn ≤ r.avail ∧ nn ≤ 2147483648 := by omega
  rw [hnn] at hgn hgy
  have hkeyh := Lib.hid hkey
  have hcanh := Lib.hid hcan
  have hff := Lib.hid (fun w => rfit_is want w)
  have hin := Lib.hid (ixL_neg r.out node)
  generalize fit want = fw at *
  have a0 : World.cell? ((w.alloc (.cells #[.int .i64 start, .slice A R.length cc] 24)).alloc (.cells #[.int .i64 0, .slice none 0 0] 24)) ⟨w.heap.size, 0, none⟩ = some _ := (H.blk 1 rfl).cell 0
  have a1 : World.cell? ((w.alloc (.cells #[.int .i64 start, .slice A R.length cc] 24)).alloc (.cells #[.int .i64 0, .slice none 0 0] 24)) ⟨w.heap.size, 1, none⟩ = some _ := (H.blk 1 rfl).cell 1
  clear h H hok hV hr hro hnn hkey hcan hs hG
  obtain ⟨ia, hia⟩ : ∃ ia, isAt R key = ia := ⟨_, rfl⟩
  rw [hia] at hF hgn hgy
  clear hia
  go_enter Try.func35, Try.ntmps35
  go_wp2_with fail
  go_at_call 12
  refine Calls.mono (hF.out) ?_
  rintro e w1 ⟨x, rfl, hx, t1⟩
  obtain ⟨Ao, co, rfl, ho⟩ := row_form hx.row
  simp only [Rw.v]
  have H1 := Lib.hid (((Hh.out.turns t1).alloc #[.int .i64 r.key, .int .i64 r.avail, .int .i64 r.mark, .slice Ao r.out.length co] 38).drew)
  have hxh := Lib.hid hx
  clear a0 a1 hF Hh t1 ho hx
  go_wp2_with fail
  go_wp2_with fail
  refine wp_region_flo [(0, true), (2, true), (3, true), (1, false), (4, true), (5, true)] (fun W => Turns [] (w1.alloc (.cells #[.int .i64 r.key, .int .i64 r.avail, .int .i64 r.mark, .slice Ao r.out.length co] 38)).drew W) (by kernel_rfl) rfl (by kernel_rfl) (by intro c d v a w h; cases d <;> first | (simpa [Exit.then, Exit.inBlock, Act.put] using h) | exact h) (Turns.refl _ _) ?_
  generalize hb9 : w1.heap.size = b9 at *
  generalize (w1.alloc (.cells #[.int .i64 r.key, .int .i64 r.avail, .int .i64 r.mark, .slice Ao r.out.length co] 38)).drew = w3 at *
  have d1 : World.cell? (w3) ⟨b9, 1, none⟩ = some _ := (H1.out.blk 0 rfl).cell 1
  refine flo_read _ rfl (fun K hK => ?_)
  go_simp
  first | (refine hK _ ?_) | (refine ⟨fun W hS => ?_, hK _ ?_⟩; · (have D1 := hS.old d1; try go_simp))
  clear hK K
  refine flo_read _ rfl (fun K hK => ?_)
  go_simp
  first | (refine hK _ ?_) | (refine ⟨fun W hS => ?_, hK _ ?_⟩; · (have D1 := hS.old d1; try go_simp))
  clear hK K
  refine flo_read _ rfl (fun K hK => ?_)
  go_simp
  first | (refine hK _ ?_) | (refine ⟨fun W hS => ?_, hK _ ?_⟩; · (have D1 := hS.old d1; try go_simp))
  clear hK K
  clear d1
  refine flo_alone _ rfl ?_
  go_wp2_with fail
  go_at_call 47
  refine Calls.mono (hff.out _) ?_
  rintro e w4 ⟨rfl, t4⟩
  go_wp2_with fail
  refine ⟨fun W => Turns [] w4 W, fun W h => t4.trans h, Turns.refl _ _, ?_⟩
  have hm3 : ∀ (W : World) (t : TypeId), (Builtin.min_ #[3, 3, 3] t #[.int .i64 fw, .int .i64 r.avail, .int .i64 2147483648]).run Try.prog W = .ok (.int .i64 nn) W := fun W t => by rw [min3, hcanh.out]
  refine flo_read _ rfl (fun K hK => ?_)
  go_simp
  first | (refine hK _ ?_) | (refine ⟨fun W hS => ?_, hK _ ?_⟩; · (skip; try go_simp))
  clear hK K
  refine flo_read _ rfl (fun K hK => ?_)
  go_simp
  first | (refine hK _ ?_) | (refine ⟨fun W hS => ?_, hK _ ?_⟩; · (skip; try go_simp))
  clear hK K
  refine flo_end ?_
  clear hm3 hcanh hff
  have H4 := Lib.hid (H1.out.turns t4)
  clear H1 t4
  have a0 : World.cell? (w4) ⟨w.heap.size, 0, none⟩ = some _ := (H4.out.blk 2 rfl).cell 0
  have a1 : World.cell? (w4) ⟨w.heap.size, 1, none⟩ = some _ := (H4.out.blk 2 rfl).cell 1
  have d0 : World.cell? (w4) ⟨b9, 0, none⟩ = some _ := (H4.out.blk 0 rfl).cell 0
  have d1 : World.cell? (w4) ⟨b9, 1, none⟩ = some _ := (H4.out.blk 0 rfl).cell 1
  have d2 : World.cell? (w4) ⟨b9, 2, none⟩ = some _ := (H4.out.blk 0 rfl).cell 2
  have d3 : World.cell? (w4) ⟨b9, 3, none⟩ = some _ := (H4.out.blk 0 rfl).cell 3
  have hL := out_is w4 _ r node (hxh.out.turns H4.out.t).row hroh.out.out (by omega)
  simp only [Rw.v] at hL
  have hLh := Lib.hid hL
  have gin := hin.out
  generalize ixL r.out node = ix at *
  have gin2 : decide (ix ≥ 0) = leaseR r.out node := by
    have : decide (ix ≥ 0) = !decide (ix < 0) := by
      by_cases h : ix < 0
      · rw [decide_eq_true h, decide_eq_false (by omega)]; rfl
      · rw [decide_eq_false h, decide_eq_true (by omega)]; rfl
    rw [this, gin, Bool.not_not]
  clear hL gin hin
  cases ia with
  | false =>
    have hm := Lib.hid (hgn.out (by simp))
    have z0 : World.cell? (w4) ⟨w.heap.size + 1, 0, none⟩ = some _ := (H4.out.blk 1 rfl).cell 0
    have zf0 : World.frozen? (w4) ⟨w.heap.size + 1, 0, none⟩ = false := (H4.out.blk 1 rfl).frozen 0
    have z1 : World.cell? (w4) ⟨w.heap.size + 1, 1, none⟩ = some _ := (H4.out.blk 1 rfl).cell 1
    have zf1 : World.frozen? (w4) ⟨w.heap.size + 1, 1, none⟩ = false := (H4.out.blk 1 rfl).frozen 1
    have H5 := (H4.out.set 1 rfl 0 (.int .i64 start)).set 1 rfl 1 (.slice A R.length cc)
    have hB := H5.blk 1 rfl
    have hX := hVh.out _ (.slice A R.length cc) R 0 hm.out (hh.out.turns H5.t) H5.t
    clear H5 H4 hVh hh hokh hm hgn hgy hxh hroh hkeyh
    go_wp2_with fail
    refine bodyPost_ret (res_list (rs := [.cell 8 24, .tmp 9]) rfl (by simp) (.cell (w.heap.size + 1) _ _ _ rfl hB Try.underlying24 rfl (by kernel_rfl) (.tmp .nil))) rfl ?_
    exact hX
  | true =>
    by_cases h1 : nn < 1
    · have g1 := decide_eq_true h1
      have h1h := Lib.hid h1
      clear h1
      have hm := Lib.hid (hgn.out (.inr (.inr (.inl h1h.out))))
      have z0 : World.cell? (w4) ⟨w.heap.size + 1, 0, none⟩ = some _ := (H4.out.blk 1 rfl).cell 0
      have zf0 : World.frozen? (w4) ⟨w.heap.size + 1, 0, none⟩ = false := (H4.out.blk 1 rfl).frozen 0
      have z1 : World.cell? (w4) ⟨w.heap.size + 1, 1, none⟩ = some _ := (H4.out.blk 1 rfl).cell 1
      have zf1 : World.frozen? (w4) ⟨w.heap.size + 1, 1, none⟩ = false := (H4.out.blk 1 rfl).frozen 1
      have H5 := (H4.out.set 1 rfl 0 (.int .i64 start)).set 1 rfl 1 (.slice A R.length cc)
      have hB := H5.blk 1 rfl
      have hX := hVh.out _ (.slice A R.length cc) R 0 hm.out (hh.out.turns H5.t) H5.t
      clear H5 H4 hVh hh hokh hm hgn hgy hxh hroh hkeyh
      go_wp2_with fail
      refine bodyPost_ret (res_list (rs := [.cell 8 24, .tmp 9]) rfl (by simp) (.cell (w.heap.size + 1) _ _ _ rfl hB Try.underlying24 rfl (by kernel_rfl) (.tmp .nil))) rfl ?_
      exact hX
    · have g1 := decide_eq_false h1
      by_cases h2 : node < 0
      · have g2 := decide_eq_true h2
        have h2h := Lib.hid h2
        clear h2
        have hm := Lib.hid (hgn.out (.inr (.inr (.inr (.inl h2h.out)))))
        have z0 : World.cell? (w4) ⟨w.heap.size + 1, 0, none⟩ = some _ := (H4.out.blk 1 rfl).cell 0
        have zf0 : World.frozen? (w4) ⟨w.heap.size + 1, 0, none⟩ = false := (H4.out.blk 1 rfl).frozen 0
        have z1 : World.cell? (w4) ⟨w.heap.size + 1, 1, none⟩ = some _ := (H4.out.blk 1 rfl).cell 1
        have zf1 : World.frozen? (w4) ⟨w.heap.size + 1, 1, none⟩ = false := (H4.out.blk 1 rfl).frozen 1
        have H5 := (H4.out.set 1 rfl 0 (.int .i64 start)).set 1 rfl 1 (.slice A R.length cc)
        have hB := H5.blk 1 rfl
        have hX := hVh.out _ (.slice A R.length cc) R 0 hm.out (hh.out.turns H5.t) H5.t
        clear H5 H4 hVh hh hokh hm hgn hgy hxh hroh hkeyh
        go_wp2_with fail
        refine bodyPost_ret (res_list (rs := [.cell 8 24, .tmp 9]) rfl (by simp) (.cell (w.heap.size + 1) _ _ _ rfl hB Try.underlying24 rfl (by kernel_rfl) (.tmp .nil))) rfl ?_
        exact hX
      · have g2 := decide_eq_false h2
        by_cases h3 : node > 63
        · have g3 := decide_eq_true h3
          have h3h := Lib.hid (show node ≥ 64 by omega)
          clear h3
          have hm := Lib.hid (hgn.out (.inr (.inr (.inr (.inr h3h.out)))))
          have z0 : World.cell? (w4) ⟨w.heap.size + 1, 0, none⟩ = some _ := (H4.out.blk 1 rfl).cell 0
          have zf0 : World.frozen? (w4) ⟨w.heap.size + 1, 0, none⟩ = false := (H4.out.blk 1 rfl).frozen 0
          have z1 : World.cell? (w4) ⟨w.heap.size + 1, 1, none⟩ = some _ := (H4.out.blk 1 rfl).cell 1
          have zf1 : World.frozen? (w4) ⟨w.heap.size + 1, 1, none⟩ = false := (H4.out.blk 1 rfl).frozen 1
          have H5 := (H4.out.set 1 rfl 0 (.int .i64 start)).set 1 rfl 1 (.slice A R.length cc)
          have hB := H5.blk 1 rfl
          have hX := hVh.out _ (.slice A R.length cc) R 0 hm.out (hh.out.turns H5.t) H5.t
          clear H5 H4 hVh hh hokh hm hgn hgy hxh hroh hkeyh
          go_wp2_with fail
          refine bodyPost_ret (res_list (rs := [.cell 8 24, .tmp 9]) rfl (by simp) (.cell (w.heap.size + 1) _ _ _ rfl hB Try.underlying24 rfl (by kernel_rfl) (.tmp .nil))) rfl ?_
          exact hX
        · have g3 := decide_eq_false h3
          cases hle : leaseR r.out node with
          | true =>
            rw [hle] at gin2
            go_wp2_with fail
            go_at_call 44
            refine Calls.mono (hLh.out) ?_
            rintro e w5 ⟨rfl, t5⟩
            have H6 := Lib.hid (H4.out.turns t5)
            clear a0 a1 d0 d1 d2 d3 H4 t5 hLh
            have a0 : World.cell? (w5) ⟨w.heap.size, 0, none⟩ = some _ := (H6.out.blk 2 rfl).cell 0
            have a1 : World.cell? (w5) ⟨w.heap.size, 1, none⟩ = some _ := (H6.out.blk 2 rfl).cell 1
            have hm := Lib.hid (hgn.out (.inr (.inl hle)))
            have z0 : World.cell? (w5) ⟨w.heap.size + 1, 0, none⟩ = some _ := (H6.out.blk 1 rfl).cell 0
            have zf0 : World.frozen? (w5) ⟨w.heap.size + 1, 0, none⟩ = false := (H6.out.blk 1 rfl).frozen 0
            have z1 : World.cell? (w5) ⟨w.heap.size + 1, 1, none⟩ = some _ := (H6.out.blk 1 rfl).cell 1
            have zf1 : World.frozen? (w5) ⟨w.heap.size + 1, 1, none⟩ = false := (H6.out.blk 1 rfl).frozen 1
            have H5 := (H6.out.set 1 rfl 0 (.int .i64 start)).set 1 rfl 1 (.slice A R.length cc)
            have hB := H5.blk 1 rfl
            have hX := hVh.out _ (.slice A R.length cc) R 0 hm.out (hh.out.turns H5.t) H5.t
            clear H5 H6 hVh hh hokh hm hgn hgy hxh hroh hkeyh
            go_wp2_with fail
            refine bodyPost_ret (res_list (rs := [.cell 8 24, .tmp 9]) rfl (by simp) (.cell (w.heap.size + 1) _ _ _ rfl hB Try.underlying24 rfl (by kernel_rfl) (.tmp .nil))) rfl ?_
            exact hX
          | false =>
            rw [hle] at gin2
            have hm := Lib.hid (hgy.out (by rw [hle]; simp; omega))
            have hend := Lib.hid (put_is node nn r.out [] hroh.out.out (fun x hx => leaseR_false hroh.out.out hle hx))
            have hnp : 1 ≤ nn := by omega
            have hn0 : 0 ≤ node := by omega
            clear h1 h2 h3 hgn hgy hle
            go_wp2_with fail
            go_at_call 44
            refine Calls.mono (hLh.out) ?_
            rintro e w5 ⟨rfl, t5⟩
            have H5 := Lib.hid (H4.out.turns t5)
            clear a0 a1 d0 d1 d2 d3 H4 t5 hLh
            have d0 : World.cell? (w5) ⟨b9, 0, none⟩ = some _ := (H5.out.blk 0 rfl).cell 0
            have d1 : World.cell? (w5) ⟨b9, 1, none⟩ = some _ := (H5.out.blk 0 rfl).cell 1
            have df1 : World.frozen? (w5) ⟨b9, 1, none⟩ = false := (H5.out.blk 0 rfl).frozen 1
            have d2 : World.cell? (w5) ⟨b9, 2, none⟩ = some _ := (H5.out.blk 0 rfl).cell 2
            have d3 : World.cell? (w5) ⟨b9, 3, none⟩ = some _ := (H5.out.blk 0 rfl).cell 3
            obtain ⟨av, hav⟩ : ∃ av, r.avail - nn = av := ⟨_, rfl⟩
            have hwr : IntKind.i64.wrap (r.avail - nn) = av := by rw [IntWalk.i64_in _ (by omega)]; exact hav
            have hwr2 : wrap64 (r.avail - nn) = av := by unfold wrap64; omega
            have H6 := Lib.hid ((H5.out.set 0 rfl 1 (.int .i64 av)).nilSlice 76 2)
            clear H5
            go_upto_region 6 with fail
            generalize w5.setCell ⟨b9, 1, none⟩ (.int .i64 av) = w6 at *
            clear d0 d1 d2 d3 df1
            go_wp2_with fail
            go_loopw [13, 14, 15] (fun v13 v14 v15 wr => ∃ (k : Nat) (S : List (Int × Int) × Bool), k ≤ r.out.length ∧ v15 = .int .i64 k ∧ v14 = .bool S.2 ∧ Hid (S = (r.out.take k).foldl (putStep (node, nn)) ([], false)) ∧ Sep [] w [tOwn 76 2 v13 (lss S.1), tBlk b9 #[.int .i64 r.key, .int .i64 av, .int .i64 r.mark, .slice Ao r.out.length co] 38, tBlk (w.heap.size + 1) #[.int .i64 0, .slice none 0 0] 24, tBlk w.heap.size #[.int .i64 start, .slice A R.length cc] 24] wr) (fun _ _ v15 _ => r.out.length - (RowKit.intOf v15).toNat)
            case atStart => exact ⟨0, ([], false), by omega, rfl, rfl, (show Hid _ from rfl), H6.out⟩
            case round =>
              clear H6
              obtain ⟨k, S, hk, rfl, rfl, hS, H⟩ := hrel
              obtain ⟨out, dn⟩ := S
              simp only at H ⊢
              have hout : out.length ≤ 128 := by
                have := putX_len (p := (node, nn)) (r.out.take k) ([], false)
                rw [← hS.out, List.length_take] at this
                simp at this
                omega
              obtain ⟨A5, c5, hu, _⟩ := (H.own 0 rfl).form
              rw [lss_len] at hu
              obtain ⟨L5, hL5⟩ : ∃ L5, out.length = L5 := ⟨_, rfl⟩
              rw [hL5] at hu hout
              subst hu
              have hL5h := Lib.hid hL5
              have HH := Lib.hid H
              clear H hL5
              have elp : Hid (L5 + 1 = (lss out).length + (lss [(node, nn)]).length) := Lib.hid (by rw [lss_len, hL5h.out]; rfl)
              have d0 : World.cell? (wr) ⟨b9, 0, none⟩ = some _ := (HH.out.blk 1 rfl).cell 0
              have d1 : World.cell? (wr) ⟨b9, 1, none⟩ = some _ := (HH.out.blk 1 rfl).cell 1
              have d2 : World.cell? (wr) ⟨b9, 2, none⟩ = some _ := (HH.out.blk 1 rfl).cell 2
              have d3 : World.cell? (wr) ⟨b9, 3, none⟩ = some _ := (HH.out.blk 1 rfl).cell 3
              by_cases hklt : k < r.out.length
              · have g5 : decide ((k : Int) < (r.out.length : Int)) = true := decide_eq_true (by omega)
                have g5b : decide (k < r.out.length) = true := decide_eq_true hklt
                obtain ⟨y, hy⟩ : ∃ y, r.out[k]? = some y := ⟨_, List.getElem?_eq_getElem hklt⟩
                have hnx := Lib.hid (show (r.out.take (k + 1)).foldl (putStep (node, nn)) ([], false) = putStep (node, nn) (out, dn) y by rw [take_next hy, List.foldl_append, ← hS.out]; rfl)
                obtain ⟨ad, c', hv, LY⟩ := ls_at (hxh.out.turns HH.out.t).row.out hy
                injection hv with e1 e2 e3
                subst e1 e3
                have LYw := (ls_at (hxh.out.row.out) hy)
                obtain ⟨ad', c'', hv', LYb⟩ := LYw
                injection hv' with e4 e5 e6
                injection e4 with e4
                subst e4
                have LYh := Lib.hid LYb
                obtain ⟨y0, y1⟩ := LY
                clear hy e2 LYb e5 e6
                have ely1 : Hid (L5 + 1 = (lss out).length + (lss [y]).length) := Lib.hid (by rw [lss_len, hL5h.out]; rfl)
                have ely2 : Hid (L5 + 1 + 1 = (lss (out ++ [(node, nn)])).length + (lss [y]).length) := Lib.hid (by rw [lss_len, List.length_append, hL5h.out]; rfl)
                cases dn with
                | true =>
                  have hst := Lib.hid (show putStep (node, nn) (out, true) y = (out ++ [y], true) by unfold putStep; simp)
                  go_wp2_with (at_builtin; refine stop_ ?_)
                  refine Mk_.mk ?_
                  refine (HH.out.alloc #[.int .i64 y.1, .int .i64 y.2] 76).append 1 rfl (one_ls (Blk.new wr #[.int .i64 y.1, .int .i64 y.2] 76)) (L5 + 1) ely1.out (lss (out ++ [y])) (by rw [lss_append]) rfl _ _ _ rfl (.agg #[.int .i64 0, .int .i64 0]) 16 Try.underlying36 infoLs rfl (by decide) rfl rfl (lss_one _) (by omega) (by omega) ?_
                  intro A7 c7 w7 H7 t7 _
                  have K7 := Lib.hid (H7.keep [1, 2, 3, 4])
                  clear H7 t7 HH y0 y1 d0 d1 d2 d3
                  go_wp2_with fail
                  go_roundw
                  case rel => exact ⟨k + 1, (out ++ [y], true), by omega, by go_num, rfl, Lib.hid (by rw [hnx.out, hst.out]), K7.out⟩
                  case measure => simp [RowKit.intOf]; omega
                | false =>
                  by_cases hgt : y.1 > node
                  · have g6 := decide_eq_true hgt
                    have hst := Lib.hid (show putStep (node, nn) (out, false) y = (out ++ [(node, nn)] ++ [y], true) by unfold putStep; simp; omega)
                    clear hgt
                    go_wp2_with (at_builtin; refine stop_ ?_)
                    refine Mk_.mk ?_
                    refine (HH.out.alloc #[.int .i64 node, .int .i64 nn] 76).append 1 rfl (one_ls (x := (node, nn)) (Blk.new wr #[.int .i64 node, .int .i64 nn] 76)) (L5 + 1) elp.out (lss (out ++ [(node, nn)])) (by rw [lss_append]) rfl _ _ _ rfl (.agg #[.int .i64 0, .int .i64 0]) 16 Try.underlying36 infoLs rfl (by decide) rfl rfl (lss_one _) (by omega) (by omega) ?_
                    intro A6 c6 w6b H6 t6 _
                    have K6 := Lib.hid (H6.keep [1, 2, 3, 4])
                    clear H6 t6 HH y0 y1 d0 d1 d2 d3
                    have d0 : World.cell? (w6b) ⟨b9, 0, none⟩ = some _ := (K6.out.blk 1 rfl).cell 0
                    have d1 : World.cell? (w6b) ⟨b9, 1, none⟩ = some _ := (K6.out.blk 1 rfl).cell 1
                    have d2 : World.cell? (w6b) ⟨b9, 2, none⟩ = some _ := (K6.out.blk 1 rfl).cell 2
                    have d3 : World.cell? (w6b) ⟨b9, 3, none⟩ = some _ := (K6.out.blk 1 rfl).cell 3
                    obtain ⟨y0, y1⟩ := LYh.out.turns K6.out.t
                    go_wp2_with (at_builtin; refine stop_ ?_)
                    refine Mk_.mk ?_
                    refine (K6.out.alloc #[.int .i64 y.1, .int .i64 y.2] 76).append 1 rfl (one_ls (Blk.new w6b #[.int .i64 y.1, .int .i64 y.2] 76)) (L5 + 1 + 1) ely2.out (lss (out ++ [(node, nn)] ++ [y])) (by rw [lss_append]) rfl _ _ _ rfl (.agg #[.int .i64 0, .int .i64 0]) 16 Try.underlying36 infoLs rfl (by decide) rfl rfl (lss_one _) (by omega) (by omega) ?_
                    intro A7 c7 w7 H7 t7 _
                    have K7 := Lib.hid (H7.keep [1, 2, 3, 4])
                    clear H7 t7 K6 y0 y1 d0 d1 d2 d3
                    go_wp2_with fail
                    go_roundw
                    case rel => exact ⟨k + 1, (out ++ [(node, nn)] ++ [y], true), by omega, by go_num, rfl, Lib.hid (by rw [hnx.out, hst.out]), K7.out⟩
                    case measure => simp [RowKit.intOf]; omega
                  · have g6 := decide_eq_false hgt
                    have hst := Lib.hid (show putStep (node, nn) (out, false) y = (out ++ [y], false) by unfold putStep; simp; omega)
                    clear hgt
                    go_wp2_with (at_builtin; refine stop_ ?_)
                    refine Mk_.mk ?_
                    refine (HH.out.alloc #[.int .i64 y.1, .int .i64 y.2] 76).append 1 rfl (one_ls (Blk.new wr #[.int .i64 y.1, .int .i64 y.2] 76)) (L5 + 1) ely1.out (lss (out ++ [y])) (by rw [lss_append]) rfl _ _ _ rfl (.agg #[.int .i64 0, .int .i64 0]) 16 Try.underlying36 infoLs rfl (by decide) rfl rfl (lss_one _) (by omega) (by omega) ?_
                    intro A7 c7 w7 H7 t7 _
                    have K7 := Lib.hid (H7.keep [1, 2, 3, 4])
                    clear H7 t7 HH y0 y1 d0 d1 d2 d3
                    go_wp2_with fail
                    go_roundw
                    case rel => exact ⟨k + 1, (out ++ [y], false), by omega, by go_num, rfl, Lib.hid (by rw [hnx.out, hst.out]), K7.out⟩
                    case measure => simp [RowKit.intOf]; omega
              · obtain rfl : k = r.out.length := by omega
                have g5 : decide ((r.out.length : Int) < (r.out.length : Int)) = false := by simp
                have hS2 : Hid ((out, dn) = r.out.foldl (putStep (node, nn)) ([], false)) := Lib.hid (by have := hS.out; rwa [List.take_length] at this)
                clear hS
                obtain ⟨nr, hnr⟩ : ∃ nr : Row, nr = ⟨key, av, r.mark, putL r.out node nn⟩ := ⟨_, rfl⟩
                have hm2 := hm.out
                rw [hav, ← hnr] at hm2
                have hm2h := Lib.hid hm2
                have hnrh := Lib.hid hnr
                clear hm2 hm hav hnr
                cases dn with
                | true =>
                  clear d0 d1 d2 d3
                  have hpe : Hid (out = putL r.out node nn) := Lib.hid (by have := hend.out; rw [← hS2.out] at this; simpa [putEnd] using this)
                  have d0 : World.cell? (wr) ⟨b9, 0, none⟩ = some _ := (HH.out.blk 1 rfl).cell 0
                  have d1 : World.cell? (wr) ⟨b9, 1, none⟩ = some _ := (HH.out.blk 1 rfl).cell 1
                  have d2 : World.cell? (wr) ⟨b9, 2, none⟩ = some _ := (HH.out.blk 1 rfl).cell 2
                  have d3 : World.cell? (wr) ⟨b9, 3, none⟩ = some _ := (HH.out.blk 1 rfl).cell 3
                  have df3 : World.frozen? (wr) ⟨b9, 3, none⟩ = false := (HH.out.blk 1 rfl).frozen 3
                  have H9 := Lib.hid (HH.out.set 1 rfl 3 (.slice A5 L5 c5))
                  clear HH
                  go_upto_region 18 with fail
                  generalize wr.setCell ⟨b9, 3, none⟩ (.slice A5 L5 c5) = w9 at *
                  clear d0 d1 d2 d3 df3
                  have d0 : World.cell? (w9) ⟨b9, 0, none⟩ = some _ := (H9.out.blk 1 rfl).cell 0
                  have d1 : World.cell? (w9) ⟨b9, 1, none⟩ = some _ := (H9.out.blk 1 rfl).cell 1
                  have d2 : World.cell? (w9) ⟨b9, 2, none⟩ = some _ := (H9.out.blk 1 rfl).cell 2
                  have d3 : World.cell? (w9) ⟨b9, 3, none⟩ = some _ := (H9.out.blk 1 rfl).cell 3
                  have a0 : World.cell? (w9) ⟨w.heap.size, 0, none⟩ = some _ := (H9.out.blk 3 rfl).cell 0
                  have a1 : World.cell? (w9) ⟨w.heap.size, 1, none⟩ = some _ := (H9.out.blk 3 rfl).cell 1
                  have hzl := Blk.lt (H9.out.blk 2 rfl)
                  have hne : ∀ k, (Value.slice A5 L5 c5).ownBlock = some k → k ∉ [w.heap.size + 1] ++ G := fun k hk hm => by
                    rcases List.mem_append.1 hm with hm | hm
                    · have hz := H9.out.ap
                      rw [List.mem_singleton.1 hm] at hk
                      have h1 := (List.pairwise_cons.1 hz).1 (tBlk (w.heap.size + 1) #[.int .i64 0, .slice none 0 0] 24) (List.mem_of_getElem? (i := 1) rfl) (w.heap.size + 1) (by simpa [tOwn] using hk)
                      exact h1 (by simp [tBlk])
                    · rcases mine_own H9.out 0 rfl k hk with h1 | h1
                      · cases h1
                      · have := hGh.out k hm; omega
                  have hRS : RowS ([w.heap.size + 1] ++ G) w9 ⟨r.key, av, r.mark, .slice A5 L5 c5⟩ nr := by
                    rw [hnrh.out]
                    exact fun W t => ⟨hkeyh.out, rfl, rfl, by rw [← hpe.out]; exact ((H9.out.own 0 rfl).turns t hne).reads⟩
                  have Wi := set_is_ ([w.heap.size + 1] ++ G) w9 start (.slice A R.length cc) R _ _ (RTS.more hh.out H9.out.t (by intro k hk; rw [List.mem_singleton.1 hk]; omega)) hRS (gl hzl H9.out.t hGh.out) (by omega) hokh.out.rise
                  simp only [Rw.v] at Wi
                  have Wih := Lib.hid Wi
                  clear hRS Wi hne
                  go_wp2_with fail
                  go_at_call 63
                  refine Calls.mono (Wih.out) ?_
                  rintro e wA ⟨v', rfl, hT, tA⟩
                  obtain ⟨A', c', hv', _⟩ := hT.rt.form
                  obtain ⟨L', hL'⟩ : ∃ L', (withR R nr).length = L' := ⟨_, rfl⟩
                  rw [hL'] at hv'
                  subst hv'
                  have HA := H9.out.turns tA
                  clear hL' Wih H9 tA d0 d1 d2 d3 a0 a1
                  have z0 : World.cell? (wA) ⟨w.heap.size + 1, 0, none⟩ = some _ := (HA.blk 2 rfl).cell 0
                  have zf0 : World.frozen? (wA) ⟨w.heap.size + 1, 0, none⟩ = false := (HA.blk 2 rfl).frozen 0
                  have z1 : World.cell? (wA) ⟨w.heap.size + 1, 1, none⟩ = some _ := (HA.blk 2 rfl).cell 1
                  have zf1 : World.frozen? (wA) ⟨w.heap.size + 1, 1, none⟩ = false := (HA.blk 2 rfl).frozen 1
                  have HB := (HA.set 2 rfl 0 (.int .i64 start)).set 2 rfl 1 (.slice A' L' c')
                  have hB := HB.blk 2 rfl
                  have TB := ((Turns.refl [w.heap.size + 1] wA).setCell (p := ⟨w.heap.size + 1, 0, none⟩) (by simp) (.int .i64 start)).setCell (p := ⟨w.heap.size + 1, 1, none⟩) (by simp) (.slice A' L' c')
                  have hX := hVh.out _ (.slice A' L' c') _ nn hm2h.out (RTS.less hT TB) HB.t
                  clear HA HB TB hVh hh hokh hroh hm2h hxh hkeyh hend hS2 hpe hL5h
                  go_wp2_with fail
                  refine bodyPost_ret (res_list (rs := [.cell 8 24, .tmp 9]) rfl (by simp) (.cell (w.heap.size + 1) _ _ _ rfl hB Try.underlying24 rfl (by kernel_rfl) (.tmp .nil))) rfl ?_
                  exact hX
                | false =>
                  have hpe : Hid (out ++ [(node, nn)] = putL r.out node nn) := Lib.hid (by have := hend.out; rw [← hS2.out] at this; simpa [putEnd] using this)
                  go_wp2_with (at_builtin; refine stop_ ?_)
                  refine Mk_.mk ?_
                  refine (HH.out.alloc #[.int .i64 node, .int .i64 nn] 76).append 1 rfl (one_ls (x := (node, nn)) (Blk.new wr #[.int .i64 node, .int .i64 nn] 76)) (L5 + 1) elp.out (lss (out ++ [(node, nn)])) (by rw [lss_append]) rfl _ _ _ rfl (.agg #[.int .i64 0, .int .i64 0]) 16 Try.underlying36 infoLs rfl (by decide) rfl rfl (lss_one _) (by omega) (by omega) ?_
                  intro A6 c6 w6b H6 t6 _
                  have K6 := Lib.hid (H6.keep [1, 2, 3, 4])
                  clear H6 t6 HH d0 d1 d2 d3
                  have d0 : World.cell? (w6b) ⟨b9, 0, none⟩ = some _ := (K6.out.blk 1 rfl).cell 0
                  have d1 : World.cell? (w6b) ⟨b9, 1, none⟩ = some _ := (K6.out.blk 1 rfl).cell 1
                  have d2 : World.cell? (w6b) ⟨b9, 2, none⟩ = some _ := (K6.out.blk 1 rfl).cell 2
                  have d3 : World.cell? (w6b) ⟨b9, 3, none⟩ = some _ := (K6.out.blk 1 rfl).cell 3
                  have df3 : World.frozen? (w6b) ⟨b9, 3, none⟩ = false := (K6.out.blk 1 rfl).frozen 3
                  have H9 := Lib.hid (K6.out.set 1 rfl 3 (.slice A6 (L5 + 1) c6))
                  clear K6
                  go_upto_region 18 with fail
                  generalize w6b.setCell ⟨b9, 3, none⟩ (.slice A6 (L5 + 1) c6) = w9 at *
                  clear d0 d1 d2 d3 df3
                  have d0 : World.cell? (w9) ⟨b9, 0, none⟩ = some _ := (H9.out.blk 1 rfl).cell 0
                  have d1 : World.cell? (w9) ⟨b9, 1, none⟩ = some _ := (H9.out.blk 1 rfl).cell 1
                  have d2 : World.cell? (w9) ⟨b9, 2, none⟩ = some _ := (H9.out.blk 1 rfl).cell 2
                  have d3 : World.cell? (w9) ⟨b9, 3, none⟩ = some _ := (H9.out.blk 1 rfl).cell 3
                  have a0 : World.cell? (w9) ⟨w.heap.size, 0, none⟩ = some _ := (H9.out.blk 3 rfl).cell 0
                  have a1 : World.cell? (w9) ⟨w.heap.size, 1, none⟩ = some _ := (H9.out.blk 3 rfl).cell 1
                  have hzl := Blk.lt (H9.out.blk 2 rfl)
                  have hne : ∀ k, (Value.slice A6 (L5 + 1) c6).ownBlock = some k → k ∉ [w.heap.size + 1] ++ G := fun k hk hm => by
                    rcases List.mem_append.1 hm with hm | hm
                    · have hz := H9.out.ap
                      rw [List.mem_singleton.1 hm] at hk
                      have h1 := (List.pairwise_cons.1 hz).1 (tBlk (w.heap.size + 1) #[.int .i64 0, .slice none 0 0] 24) (List.mem_of_getElem? (i := 1) rfl) (w.heap.size + 1) (by simpa [tOwn] using hk)
                      exact h1 (by simp [tBlk])
                    · rcases mine_own H9.out 0 rfl k hk with h1 | h1
                      · cases h1
                      · have := hGh.out k hm; omega
                  have hRS : RowS ([w.heap.size + 1] ++ G) w9 ⟨r.key, av, r.mark, .slice A6 (L5 + 1) c6⟩ nr := by
                    rw [hnrh.out]
                    exact fun W t => ⟨hkeyh.out, rfl, rfl, by rw [← hpe.out]; exact ((H9.out.own 0 rfl).turns t hne).reads⟩
                  have Wi := set_is_ ([w.heap.size + 1] ++ G) w9 start (.slice A R.length cc) R _ _ (RTS.more hh.out H9.out.t (by intro k hk; rw [List.mem_singleton.1 hk]; omega)) hRS (gl hzl H9.out.t hGh.out) (by omega) hokh.out.rise
                  simp only [Rw.v] at Wi
                  have Wih := Lib.hid Wi
                  clear hRS Wi hne
                  go_wp2_with fail
                  go_at_call 63
                  refine Calls.mono (Wih.out) ?_
                  rintro e wA ⟨v', rfl, hT, tA⟩
                  obtain ⟨A', c', hv', _⟩ := hT.rt.form
                  obtain ⟨L', hL'⟩ : ∃ L', (withR R nr).length = L' := ⟨_, rfl⟩
                  rw [hL'] at hv'
                  subst hv'
                  have HA := H9.out.turns tA
                  clear hL' Wih H9 tA d0 d1 d2 d3 a0 a1
                  have z0 : World.cell? (wA) ⟨w.heap.size + 1, 0, none⟩ = some _ := (HA.blk 2 rfl).cell 0
                  have zf0 : World.frozen? (wA) ⟨w.heap.size + 1, 0, none⟩ = false := (HA.blk 2 rfl).frozen 0
                  have z1 : World.cell? (wA) ⟨w.heap.size + 1, 1, none⟩ = some _ := (HA.blk 2 rfl).cell 1
                  have zf1 : World.frozen? (wA) ⟨w.heap.size + 1, 1, none⟩ = false := (HA.blk 2 rfl).frozen 1
                  have HB := (HA.set 2 rfl 0 (.int .i64 start)).set 2 rfl 1 (.slice A' L' c')
                  have hB := HB.blk 2 rfl
                  have TB := ((Turns.refl [w.heap.size + 1] wA).setCell (p := ⟨w.heap.size + 1, 0, none⟩) (by simp) (.int .i64 start)).setCell (p := ⟨w.heap.size + 1, 1, none⟩) (by simp) (.slice A' L' c')
                  have hX := hVh.out _ (.slice A' L' c') _ nn hm2h.out (RTS.less hT TB) HB.t
                  clear HA HB TB hVh hh hokh hroh hm2h hxh hkeyh hend hS2 hpe hL5h
                  go_wp2_with fail
                  refine bodyPost_ret (res_list (rs := [.cell 8 24, .tmp 9]) rfl (by simp) (.cell (w.heap.size + 1) _ _ _ rfl hB Try.underlying24 rfl (by kernel_rfl) (.tmp .nil))) rfl ?_
                  exact hX
end Go.Proofs.Ytphhfdlhkginkaa.By
