/- The ledger's Grant. -/
import Derived.Test.YtphhfdlhkginkaaBv
set_option linter.unusedVariables false
set_option linter.unusedSimpArgs false
set_option maxRecDepth 100000
namespace Go.Proofs.Ytphhfdlhkginkaa.Bw
open Go.RowKit Go.MapKept Hm Hs Hf Hx Hy Hv Hz Hu Fa Ff Fq Ba Bb Bc Bi Bj Bl Bu Be Bv Sm Sat
theorem grant_no {start : Int} {R : List Row} {key node want : Int} (h : isAt R key = false ∨ leaseR (rwAt start R key).out node = true ∨ canR (rwAt start R key) want < 1 ∨ node < 0 ∨ node ≥ 64) : grantR start R key node want = (R, 0) := by unfold grantR; rw [if_pos h]
theorem grant_yes {start : Int} {R : List Row} {key node want : Int} (h : ¬ (isAt R key = false ∨ leaseR (rwAt start R key).out node = true ∨ canR (rwAt start R key) want < 1 ∨ node < 0 ∨ node ≥ 64)) : grantR start R key node want = (withR R ⟨key, (rwAt start R key).avail - canR (rwAt start R key) want, (rwAt start R key).mark, putL (rwAt start R key).out node (canR (rwAt start R key) want)⟩, canR (rwAt start R key) want) := by unfold grantR; rw [if_neg h]
theorem lss_put (l : List (Int × Int)) (node n : Int) {i : Nat} (hi : i = pln l node) : (lss l).take i ++ [.int .i64 node, .int .i64 n] :: (lss l).drop i = lss (putL l node n) := by
  subst hi
  unfold putL lss
  rw [List.map_append, List.map_cons, List.map_take, List.map_drop]
theorem min3 {P : Program} (w : World) (ts : Array TypeId) (t : TypeId) (x y z : Int) : (Builtin.min_ ts t #[.int .i64 x, .int .i64 y, .int .i64 z]).run P w = .ok (.int .i64 (min (min x y) z)) w := by
  have e : (if z < (if y < x then y else x) then z else (if y < x then y else x)) = min (min x y) z := by
    split <;> split at * <;> omega
  simp only [Builtin.min_, List.foldlM, Builtin.min2]
  simp only [Sem.run_bind, Sem.run_pure, Result.andThen_ok]
  rw [e]
set_option maxHeartbeats 8000000 in
theorem grant_is (G : List Nat) (w : World) (start key node want : Int) (v : Value) (R : List Row) (hs : RTS G w v R) (hG : ∀ k ∈ G, k < w.heap.size) (hok : Ok R) (h0 : -9223372036854775808 ≤ node) (h9 : node ≤ 9223372036854775807) : Calls Try.prog 31 #[.agg #[.int .i64 start, v], .int .i64 key, .int .i64 node, .int .i64 want] w fun e w' => ∃ v', e = .returned (.tuple #[.agg #[.int .i64 start, v'], .int .i64 (grantR start R key node want).2]) ∧ RTS G w' v' (grantR start R key node want).1 ∧ Turns [] w w' := by
  have h := hs.rt
  have hGh := Lib.hid hG
  obtain ⟨A, cc, rfl, hlc, hcm⟩ := h.form
  have hRl := hok.len
  have hro := rwAt_ok (start := start) hok key
  have hkey := rwAt_key start R key
  obtain ⟨V, hV⟩ : ∃ V : Ending → World → Prop, V = fun e w' => ∃ v', e = .returned (.tuple #[.agg #[.int .i64 start, v'], .int .i64 (grantR start R key node want).2]) ∧ RTS G w' v' (grantR start R key node want).1 ∧ Turns [] w w' := ⟨_, rfl⟩
  rw [← hV]
  have hVh : Hid (∀ w' v' R' n, grantR start R key node want = (R', n) → RTS G w' v' R' → Turns [] w w' → V (.returned (.tuple #[.agg #[.int .i64 start, v'], .int .i64 n])) w') := Lib.hid (fun w' v' R' n h1 h2 h3 => by rw [hV, h1]; exact ⟨v', rfl, h2, h3⟩)
  have H := ((Sep.start w).alloc #[.int .i64 start, .slice A R.length cc] 24).alloc #[.int .i64 0, .slice none 0 0] 24
  rw [World.size_alloc] at H
  have hF := Lib.hid (find_is ([w.heap.size + 1] ++ G) w _ start key _ R (RTS.more hs (Turns.refl _ _) (by intro k hk; rw [List.mem_singleton.1 hk]; omega)) H.t)
  have Hh := Lib.hid H
  have hh := Lib.hid hs
  have hokh := Lib.hid hok
  have hgn := Lib.hid (fun h => grant_no (start := start) (R := R) (key := key) (node := node) (want := want) h)
  have hgy := Lib.hid (fun h => grant_yes (start := start) (R := R) (key := key) (node := node) (want := want) h)
  obtain ⟨r, hr⟩ : ∃ r, rwAt start R key = r := ⟨_, rfl⟩
  rw [hr] at hF hro hgn hgy hkey
  have hroh := Lib.hid hro
  have hol := hro.len
  have ha0 := hro.a0
  have ha1 := hro.a1
  obtain ⟨nn, hnn⟩ : ∃ nn, canR r want = nn := ⟨_, rfl⟩
  have hcan : min (min (fit want) r.avail) 2147483648 = nn := hnn
  have hnb : nn ≤ r.avail ∧ nn ≤ 2147483648 := by omega
  rw [hnn] at hgn hgy
  have hkeyh := Lib.hid hkey
  have hcanh := Lib.hid hcan
  have hff := Lib.hid (fun w => fit_is want w)
  generalize fit want = fw at *
  have a0 : World.cell? ((w.alloc (.cells #[.int .i64 start, .slice A R.length cc] 24)).alloc (.cells #[.int .i64 0, .slice none 0 0] 24)) ⟨w.heap.size, 0, none⟩ = some _ := (H.blk 1 rfl).cell 0
  have a1 : World.cell? ((w.alloc (.cells #[.int .i64 start, .slice A R.length cc] 24)).alloc (.cells #[.int .i64 0, .slice none 0 0] 24)) ⟨w.heap.size, 1, none⟩ = some _ := (H.blk 1 rfl).cell 1
  clear h H hok hV hr hro hnn hkey hcan hs hG
  obtain ⟨ia, hia⟩ : ∃ ia, isAt R key = ia := ⟨_, rfl⟩
  rw [hia] at hF hgn hgy
  clear hia
  cases ia with
  | false =>
    obtain ⟨lb, hle⟩ : ∃ lb, leaseR r.out node = lb := ⟨_, rfl⟩
    go_enter Try.func31, Try.ntmps31
    go_wp2_with fail
    go_at_call 11
    refine Calls.mono (hF.out) ?_
    rintro e w1 ⟨x, rfl, hx, t1⟩
    obtain ⟨Ao, co, rfl, ho⟩ := row_form hx.row
    simp only [Rw.v]
    have H1 := Lib.hid ((Hh.out.turns t1).alloc #[.int .i64 r.key, .int .i64 r.avail, .int .i64 r.mark, .slice Ao r.out.length co] 38)
    have hL := lease_is _ _ r node (hx.row.turns H1.out.t) hroh.out h0 h9
    simp only [Rw.v] at hL
    try rw [hle] at hL
    have hLh := Lib.hid hL
    have hxh := Lib.hid hx
    have b0 : World.cell? (w1.alloc (.cells #[.int .i64 r.key, .int .i64 r.avail, .int .i64 r.mark, .slice Ao r.out.length co] 38)) ⟨w.heap.size, 0, none⟩ = some _ := (H1.out.blk 2 rfl).cell 0
    have b1 : World.cell? (w1.alloc (.cells #[.int .i64 r.key, .int .i64 r.avail, .int .i64 r.mark, .slice Ao r.out.length co] 38)) ⟨w.heap.size, 1, none⟩ = some _ := (H1.out.blk 2 rfl).cell 1
    clear a0 a1 hF Hh t1 ho hL hx
    go_wp2_with fail
    go_at_call 43
    refine Calls.mono (hLh.out) ?_
    rintro e w2 ⟨i, rfl, hi, t2⟩
    have H2 := Lib.hid ((H1.out.turns t2).drew)
    have hih := Lib.hid hi
    generalize hb9 : w1.heap.size = b9 at *
    clear b0 b1 H1 hLh t2 hi
    go_wp2_with fail
    go_wp2_with fail
    refine wp_region_flo [(0, true), (2, true), (3, true), (1, false), (4, true), (5, true)] (fun W => Turns [] w2.drew W) (by kernel_rfl) rfl (by kernel_rfl) (by intro c d v a w h; cases d <;> first | (simpa [Exit.then, Exit.inBlock, Act.put] using h) | exact h) (Turns.refl _ _) ?_
    generalize w2.drew = w3 at *
    have d1 : World.cell? (w3) ⟨b9, 1, none⟩ = some _ := (H2.out.blk 0 rfl).cell 1
    refine flo_read _ rfl (fun K hK => ?_)
    go_simp
    first | (refine hK _ ?_) | (refine ⟨fun W hS => ?_, hK _ ?_⟩; · (have D1 := hS.old d1; try go_simp))
    clear hK K
    refine flo_read _ rfl (fun K hK => ?_)
    go_simp
    first | (refine hK _ ?_) | (refine ⟨fun W hS => ?_, hK _ ?_⟩; · (have D1 := hS.old d1; try go_simp))
    clear hK K
    refine flo_read _ rfl (fun K hK => ?_)
    go_simp
    first | (refine hK _ ?_) | (refine ⟨fun W hS => ?_, hK _ ?_⟩; · (have D1 := hS.old d1; try go_simp))
    clear hK K
    clear d1
    refine flo_alone _ rfl ?_
    go_wp2_with fail
    go_at_call 45
    refine Calls.mono (hff.out _) ?_
    rintro e w4 ⟨rfl, t4⟩
    go_wp2_with fail
    refine ⟨fun W => Turns [] w4 W, fun W h => t4.trans h, Turns.refl _ _, ?_⟩
    have hm3 : ∀ (W : World) (t : TypeId), (Builtin.min_ #[3, 3, 3] t #[.int .i64 fw, .int .i64 r.avail, .int .i64 2147483648]).run Try.prog W = .ok (.int .i64 nn) W := fun W t => by rw [min3, hcanh.out]
    refine flo_read _ rfl (fun K hK => ?_)
    go_simp
    first | (refine hK _ ?_) | (refine ⟨fun W hS => ?_, hK _ ?_⟩; · (skip; try go_simp))
    clear hK K
    refine flo_read _ rfl (fun K hK => ?_)
    go_simp
    first | (refine hK _ ?_) | (refine ⟨fun W hS => ?_, hK _ ?_⟩; · (skip; try go_simp))
    clear hK K
    refine flo_end ?_
    clear hm3
    have H4 := Lib.hid (H2.out.turns t4)
    clear H2 t4
    have a0 : World.cell? (w4) ⟨w.heap.size, 0, none⟩ = some _ := (H4.out.blk 2 rfl).cell 0
    have a1 : World.cell? (w4) ⟨w.heap.size, 1, none⟩ = some _ := (H4.out.blk 2 rfl).cell 1
    have d0 : World.cell? (w4) ⟨b9, 0, none⟩ = some _ := (H4.out.blk 0 rfl).cell 0
    have d1 : World.cell? (w4) ⟨b9, 1, none⟩ = some _ := (H4.out.blk 0 rfl).cell 1
    have df1 : World.frozen? (w4) ⟨b9, 1, none⟩ = false := (H4.out.blk 0 rfl).frozen 1
    have d2 : World.cell? (w4) ⟨b9, 2, none⟩ = some _ := (H4.out.blk 0 rfl).cell 2
    have d3 : World.cell? (w4) ⟨b9, 3, none⟩ = some _ := (H4.out.blk 0 rfl).cell 3
    have hm := Lib.hid (hgn.out (by simp))
    have z0 : World.cell? (w4) ⟨w.heap.size + 1, 0, none⟩ = some _ := (H4.out.blk 1 rfl).cell 0
    have zf0 : World.frozen? (w4) ⟨w.heap.size + 1, 0, none⟩ = false := (H4.out.blk 1 rfl).frozen 0
    have z1 : World.cell? (w4) ⟨w.heap.size + 1, 1, none⟩ = some _ := (H4.out.blk 1 rfl).cell 1
    have zf1 : World.frozen? (w4) ⟨w.heap.size + 1, 1, none⟩ = false := (H4.out.blk 1 rfl).frozen 1
    have H5 := (H4.out.set 1 rfl 0 (.int .i64 start)).set 1 rfl 1 (.slice A R.length cc)
    have hB := H5.blk 1 rfl
    have hX := hVh.out _ (.slice A R.length cc) R 0 hm.out (hh.out.turns H5.t) H5.t
    clear H5 H4 hVh hh hokh hm hgn hgy hxh hroh hih hcanh hkeyh
    go_wp2_with fail
    refine bodyPost_ret (res_list (rs := [.cell 8 24, .tmp 9]) rfl (by simp) (.cell (w.heap.size + 1) _ _ _ rfl hB Try.underlying24 rfl (by kernel_rfl) (.tmp .nil))) rfl ?_
    exact hX
  | true =>
    cases hle : leaseR r.out node with
    | true =>
      go_enter Try.func31, Try.ntmps31
      go_wp2_with fail
      go_at_call 11
      refine Calls.mono (hF.out) ?_
      rintro e w1 ⟨x, rfl, hx, t1⟩
      obtain ⟨Ao, co, rfl, ho⟩ := row_form hx.row
      simp only [Rw.v]
      have H1 := Lib.hid ((Hh.out.turns t1).alloc #[.int .i64 r.key, .int .i64 r.avail, .int .i64 r.mark, .slice Ao r.out.length co] 38)
      have hL := lease_is _ _ r node (hx.row.turns H1.out.t) hroh.out h0 h9
      simp only [Rw.v] at hL
      try rw [hle] at hL
      have hLh := Lib.hid hL
      have hxh := Lib.hid hx
      have b0 : World.cell? (w1.alloc (.cells #[.int .i64 r.key, .int .i64 r.avail, .int .i64 r.mark, .slice Ao r.out.length co] 38)) ⟨w.heap.size, 0, none⟩ = some _ := (H1.out.blk 2 rfl).cell 0
      have b1 : World.cell? (w1.alloc (.cells #[.int .i64 r.key, .int .i64 r.avail, .int .i64 r.mark, .slice Ao r.out.length co] 38)) ⟨w.heap.size, 1, none⟩ = some _ := (H1.out.blk 2 rfl).cell 1
      clear a0 a1 hF Hh t1 ho hL hx
      go_wp2_with fail
      go_at_call 43
      refine Calls.mono (hLh.out) ?_
      rintro e w2 ⟨i, rfl, hi, t2⟩
      have H2 := Lib.hid ((H1.out.turns t2).drew)
      have hih := Lib.hid hi
      generalize hb9 : w1.heap.size = b9 at *
      clear b0 b1 H1 hLh t2 hi
      go_wp2_with fail
      go_wp2_with fail
      refine wp_region_flo [(0, true), (2, true), (3, true), (1, false), (4, true), (5, true)] (fun W => Turns [] w2.drew W) (by kernel_rfl) rfl (by kernel_rfl) (by intro c d v a w h; cases d <;> first | (simpa [Exit.then, Exit.inBlock, Act.put] using h) | exact h) (Turns.refl _ _) ?_
      generalize w2.drew = w3 at *
      have d1 : World.cell? (w3) ⟨b9, 1, none⟩ = some _ := (H2.out.blk 0 rfl).cell 1
      refine flo_read _ rfl (fun K hK => ?_)
      go_simp
      first | (refine hK _ ?_) | (refine ⟨fun W hS => ?_, hK _ ?_⟩; · (have D1 := hS.old d1; try go_simp))
      clear hK K
      refine flo_read _ rfl (fun K hK => ?_)
      go_simp
      first | (refine hK _ ?_) | (refine ⟨fun W hS => ?_, hK _ ?_⟩; · (have D1 := hS.old d1; try go_simp))
      clear hK K
      refine flo_read _ rfl (fun K hK => ?_)
      go_simp
      first | (refine hK _ ?_) | (refine ⟨fun W hS => ?_, hK _ ?_⟩; · (have D1 := hS.old d1; try go_simp))
      clear hK K
      clear d1
      refine flo_alone _ rfl ?_
      go_wp2_with fail
      go_at_call 45
      refine Calls.mono (hff.out _) ?_
      rintro e w4 ⟨rfl, t4⟩
      go_wp2_with fail
      refine ⟨fun W => Turns [] w4 W, fun W h => t4.trans h, Turns.refl _ _, ?_⟩
      have hm3 : ∀ (W : World) (t : TypeId), (Builtin.min_ #[3, 3, 3] t #[.int .i64 fw, .int .i64 r.avail, .int .i64 2147483648]).run Try.prog W = .ok (.int .i64 nn) W := fun W t => by rw [min3, hcanh.out]
      refine flo_read _ rfl (fun K hK => ?_)
      go_simp
      first | (refine hK _ ?_) | (refine ⟨fun W hS => ?_, hK _ ?_⟩; · (skip; try go_simp))
      clear hK K
      refine flo_read _ rfl (fun K hK => ?_)
      go_simp
      first | (refine hK _ ?_) | (refine ⟨fun W hS => ?_, hK _ ?_⟩; · (skip; try go_simp))
      clear hK K
      refine flo_end ?_
      clear hm3
      have H4 := Lib.hid (H2.out.turns t4)
      clear H2 t4
      have a0 : World.cell? (w4) ⟨w.heap.size, 0, none⟩ = some _ := (H4.out.blk 2 rfl).cell 0
      have a1 : World.cell? (w4) ⟨w.heap.size, 1, none⟩ = some _ := (H4.out.blk 2 rfl).cell 1
      have d0 : World.cell? (w4) ⟨b9, 0, none⟩ = some _ := (H4.out.blk 0 rfl).cell 0
      have d1 : World.cell? (w4) ⟨b9, 1, none⟩ = some _ := (H4.out.blk 0 rfl).cell 1
      have df1 : World.frozen? (w4) ⟨b9, 1, none⟩ = false := (H4.out.blk 0 rfl).frozen 1
      have d2 : World.cell? (w4) ⟨b9, 2, none⟩ = some _ := (H4.out.blk 0 rfl).cell 2
      have d3 : World.cell? (w4) ⟨b9, 3, none⟩ = some _ := (H4.out.blk 0 rfl).cell 3
      have hm := Lib.hid (hgn.out (.inr (.inl hle)))
      have z0 : World.cell? (w4) ⟨w.heap.size + 1, 0, none⟩ = some _ := (H4.out.blk 1 rfl).cell 0
      have zf0 : World.frozen? (w4) ⟨w.heap.size + 1, 0, none⟩ = false := (H4.out.blk 1 rfl).frozen 0
      have z1 : World.cell? (w4) ⟨w.heap.size + 1, 1, none⟩ = some _ := (H4.out.blk 1 rfl).cell 1
      have zf1 : World.frozen? (w4) ⟨w.heap.size + 1, 1, none⟩ = false := (H4.out.blk 1 rfl).frozen 1
      have H5 := (H4.out.set 1 rfl 0 (.int .i64 start)).set 1 rfl 1 (.slice A R.length cc)
      have hB := H5.blk 1 rfl
      have hX := hVh.out _ (.slice A R.length cc) R 0 hm.out (hh.out.turns H5.t) H5.t
      clear H5 H4 hVh hh hokh hm hgn hgy hxh hroh hih hcanh hkeyh
      go_wp2_with fail
      refine bodyPost_ret (res_list (rs := [.cell 8 24, .tmp 9]) rfl (by simp) (.cell (w.heap.size + 1) _ _ _ rfl hB Try.underlying24 rfl (by kernel_rfl) (.tmp .nil))) rfl ?_
      exact hX
    | false =>
      by_cases h1 : nn < 1
      · have g1 := decide_eq_true h1
        have h1h := Lib.hid h1
        clear h1
        go_enter Try.func31, Try.ntmps31
        go_wp2_with fail
        go_at_call 11
        refine Calls.mono (hF.out) ?_
        rintro e w1 ⟨x, rfl, hx, t1⟩
        obtain ⟨Ao, co, rfl, ho⟩ := row_form hx.row
        simp only [Rw.v]
        have H1 := Lib.hid ((Hh.out.turns t1).alloc #[.int .i64 r.key, .int .i64 r.avail, .int .i64 r.mark, .slice Ao r.out.length co] 38)
        have hL := lease_is _ _ r node (hx.row.turns H1.out.t) hroh.out h0 h9
        simp only [Rw.v] at hL
        try rw [hle] at hL
        have hLh := Lib.hid hL
        have hxh := Lib.hid hx
        have b0 : World.cell? (w1.alloc (.cells #[.int .i64 r.key, .int .i64 r.avail, .int .i64 r.mark, .slice Ao r.out.length co] 38)) ⟨w.heap.size, 0, none⟩ = some _ := (H1.out.blk 2 rfl).cell 0
        have b1 : World.cell? (w1.alloc (.cells #[.int .i64 r.key, .int .i64 r.avail, .int .i64 r.mark, .slice Ao r.out.length co] 38)) ⟨w.heap.size, 1, none⟩ = some _ := (H1.out.blk 2 rfl).cell 1
        clear a0 a1 hF Hh t1 ho hL hx
        go_wp2_with fail
        go_at_call 43
        refine Calls.mono (hLh.out) ?_
        rintro e w2 ⟨i, rfl, hi, t2⟩
        have H2 := Lib.hid ((H1.out.turns t2).drew)
        have hih := Lib.hid hi
        generalize hb9 : w1.heap.size = b9 at *
        clear b0 b1 H1 hLh t2 hi
        go_wp2_with fail
        go_wp2_with fail
        refine wp_region_flo [(0, true), (2, true), (3, true), (1, false), (4, true), (5, true)] (fun W => Turns [] w2.drew W) (by kernel_rfl) rfl (by kernel_rfl) (by intro c d v a w h; cases d <;> first | (simpa [Exit.then, Exit.inBlock, Act.put] using h) | exact h) (Turns.refl _ _) ?_
        generalize w2.drew = w3 at *
        have d1 : World.cell? (w3) ⟨b9, 1, none⟩ = some _ := (H2.out.blk 0 rfl).cell 1
        refine flo_read _ rfl (fun K hK => ?_)
        go_simp
        first | (refine hK _ ?_) | (refine ⟨fun W hS => ?_, hK _ ?_⟩; · (have D1 := hS.old d1; try go_simp))
        clear hK K
        refine flo_read _ rfl (fun K hK => ?_)
        go_simp
        first | (refine hK _ ?_) | (refine ⟨fun W hS => ?_, hK _ ?_⟩; · (have D1 := hS.old d1; try go_simp))
        clear hK K
        refine flo_read _ rfl (fun K hK => ?_)
        go_simp
        first | (refine hK _ ?_) | (refine ⟨fun W hS => ?_, hK _ ?_⟩; · (have D1 := hS.old d1; try go_simp))
        clear hK K
        clear d1
        refine flo_alone _ rfl ?_
        go_wp2_with fail
        go_at_call 45
        refine Calls.mono (hff.out _) ?_
        rintro e w4 ⟨rfl, t4⟩
        go_wp2_with fail
        refine ⟨fun W => Turns [] w4 W, fun W h => t4.trans h, Turns.refl _ _, ?_⟩
        have hm3 : ∀ (W : World) (t : TypeId), (Builtin.min_ #[3, 3, 3] t #[.int .i64 fw, .int .i64 r.avail, .int .i64 2147483648]).run Try.prog W = .ok (.int .i64 nn) W := fun W t => by rw [min3, hcanh.out]
        refine flo_read _ rfl (fun K hK => ?_)
        go_simp
        first | (refine hK _ ?_) | (refine ⟨fun W hS => ?_, hK _ ?_⟩; · (skip; try go_simp))
        clear hK K
        refine flo_read _ rfl (fun K hK => ?_)
        go_simp
        first | (refine hK _ ?_) | (refine ⟨fun W hS => ?_, hK _ ?_⟩; · (skip; try go_simp))
        clear hK K
        refine flo_end ?_
        clear hm3
        have H4 := Lib.hid (H2.out.turns t4)
        clear H2 t4
        have a0 : World.cell? (w4) ⟨w.heap.size, 0, none⟩ = some _ := (H4.out.blk 2 rfl).cell 0
        have a1 : World.cell? (w4) ⟨w.heap.size, 1, none⟩ = some _ := (H4.out.blk 2 rfl).cell 1
        have d0 : World.cell? (w4) ⟨b9, 0, none⟩ = some _ := (H4.out.blk 0 rfl).cell 0
        have d1 : World.cell? (w4) ⟨b9, 1, none⟩ = some _ := (H4.out.blk 0 rfl).cell 1
        have df1 : World.frozen? (w4) ⟨b9, 1, none⟩ = false := (H4.out.blk 0 rfl).frozen 1
        have d2 : World.cell? (w4) ⟨b9, 2, none⟩ = some _ := (H4.out.blk 0 rfl).cell 2
        have d3 : World.cell? (w4) ⟨b9, 3, none⟩ = some _ := (H4.out.blk 0 rfl).cell 3
        have hm := Lib.hid (hgn.out (.inr (.inr (.inl h1h.out))))
        have z0 : World.cell? (w4) ⟨w.heap.size + 1, 0, none⟩ = some _ := (H4.out.blk 1 rfl).cell 0
        have zf0 : World.frozen? (w4) ⟨w.heap.size + 1, 0, none⟩ = false := (H4.out.blk 1 rfl).frozen 0
        have z1 : World.cell? (w4) ⟨w.heap.size + 1, 1, none⟩ = some _ := (H4.out.blk 1 rfl).cell 1
        have zf1 : World.frozen? (w4) ⟨w.heap.size + 1, 1, none⟩ = false := (H4.out.blk 1 rfl).frozen 1
        have H5 := (H4.out.set 1 rfl 0 (.int .i64 start)).set 1 rfl 1 (.slice A R.length cc)
        have hB := H5.blk 1 rfl
        have hX := hVh.out _ (.slice A R.length cc) R 0 hm.out (hh.out.turns H5.t) H5.t
        clear H5 H4 hVh hh hokh hm hgn hgy hxh hroh hih hcanh hkeyh
        go_wp2_with fail
        refine bodyPost_ret (res_list (rs := [.cell 8 24, .tmp 9]) rfl (by simp) (.cell (w.heap.size + 1) _ _ _ rfl hB Try.underlying24 rfl (by kernel_rfl) (.tmp .nil))) rfl ?_
        exact hX
      · have g1 := decide_eq_false h1
        by_cases h2 : node < 0
        · have g2 := decide_eq_true h2
          have h2h := Lib.hid h2
          clear h2
          go_enter Try.func31, Try.ntmps31
          go_wp2_with fail
          go_at_call 11
          refine Calls.mono (hF.out) ?_
          rintro e w1 ⟨x, rfl, hx, t1⟩
          obtain ⟨Ao, co, rfl, ho⟩ := row_form hx.row
          simp only [Rw.v]
          have H1 := Lib.hid ((Hh.out.turns t1).alloc #[.int .i64 r.key, .int .i64 r.avail, .int .i64 r.mark, .slice Ao r.out.length co] 38)
          have hL := lease_is _ _ r node (hx.row.turns H1.out.t) hroh.out h0 h9
          simp only [Rw.v] at hL
          try rw [hle] at hL
          have hLh := Lib.hid hL
          have hxh := Lib.hid hx
          have b0 : World.cell? (w1.alloc (.cells #[.int .i64 r.key, .int .i64 r.avail, .int .i64 r.mark, .slice Ao r.out.length co] 38)) ⟨w.heap.size, 0, none⟩ = some _ := (H1.out.blk 2 rfl).cell 0
          have b1 : World.cell? (w1.alloc (.cells #[.int .i64 r.key, .int .i64 r.avail, .int .i64 r.mark, .slice Ao r.out.length co] 38)) ⟨w.heap.size, 1, none⟩ = some _ := (H1.out.blk 2 rfl).cell 1
          clear a0 a1 hF Hh t1 ho hL hx
          go_wp2_with fail
          go_at_call 43
          refine Calls.mono (hLh.out) ?_
          rintro e w2 ⟨i, rfl, hi, t2⟩
          have H2 := Lib.hid ((H1.out.turns t2).drew)
          have hih := Lib.hid hi
          generalize hb9 : w1.heap.size = b9 at *
          clear b0 b1 H1 hLh t2 hi
          go_wp2_with fail
          go_wp2_with fail
          refine wp_region_flo [(0, true), (2, true), (3, true), (1, false), (4, true), (5, true)] (fun W => Turns [] w2.drew W) (by kernel_rfl) rfl (by kernel_rfl) (by intro c d v a w h; cases d <;> first | (simpa [Exit.then, Exit.inBlock, Act.put] using h) | exact h) (Turns.refl _ _) ?_
          generalize w2.drew = w3 at *
          have d1 : World.cell? (w3) ⟨b9, 1, none⟩ = some _ := (H2.out.blk 0 rfl).cell 1
          refine flo_read _ rfl (fun K hK => ?_)
          go_simp
          first | (refine hK _ ?_) | (refine ⟨fun W hS => ?_, hK _ ?_⟩; · (have D1 := hS.old d1; try go_simp))
          clear hK K
          refine flo_read _ rfl (fun K hK => ?_)
          go_simp
          first | (refine hK _ ?_) | (refine ⟨fun W hS => ?_, hK _ ?_⟩; · (have D1 := hS.old d1; try go_simp))
          clear hK K
          refine flo_read _ rfl (fun K hK => ?_)
          go_simp
          first | (refine hK _ ?_) | (refine ⟨fun W hS => ?_, hK _ ?_⟩; · (have D1 := hS.old d1; try go_simp))
          clear hK K
          clear d1
          refine flo_alone _ rfl ?_
          go_wp2_with fail
          go_at_call 45
          refine Calls.mono (hff.out _) ?_
          rintro e w4 ⟨rfl, t4⟩
          go_wp2_with fail
          refine ⟨fun W => Turns [] w4 W, fun W h => t4.trans h, Turns.refl _ _, ?_⟩
          have hm3 : ∀ (W : World) (t : TypeId), (Builtin.min_ #[3, 3, 3] t #[.int .i64 fw, .int .i64 r.avail, .int .i64 2147483648]).run Try.prog W = .ok (.int .i64 nn) W := fun W t => by rw [min3, hcanh.out]
          refine flo_read _ rfl (fun K hK => ?_)
          go_simp
          first | (refine hK _ ?_) | (refine ⟨fun W hS => ?_, hK _ ?_⟩; · (skip; try go_simp))
          clear hK K
          refine flo_read _ rfl (fun K hK => ?_)
          go_simp
          first | (refine hK _ ?_) | (refine ⟨fun W hS => ?_, hK _ ?_⟩; · (skip; try go_simp))
          clear hK K
          refine flo_end ?_
          clear hm3
          have H4 := Lib.hid (H2.out.turns t4)
          clear H2 t4
          have a0 : World.cell? (w4) ⟨w.heap.size, 0, none⟩ = some _ := (H4.out.blk 2 rfl).cell 0
          have a1 : World.cell? (w4) ⟨w.heap.size, 1, none⟩ = some _ := (H4.out.blk 2 rfl).cell 1
          have d0 : World.cell? (w4) ⟨b9, 0, none⟩ = some _ := (H4.out.blk 0 rfl).cell 0
          have d1 : World.cell? (w4) ⟨b9, 1, none⟩ = some _ := (H4.out.blk 0 rfl).cell 1
          have df1 : World.frozen? (w4) ⟨b9, 1, none⟩ = false := (H4.out.blk 0 rfl).frozen 1
          have d2 : World.cell? (w4) ⟨b9, 2, none⟩ = some _ := (H4.out.blk 0 rfl).cell 2
          have d3 : World.cell? (w4) ⟨b9, 3, none⟩ = some _ := (H4.out.blk 0 rfl).cell 3
          have hm := Lib.hid (hgn.out (.inr (.inr (.inr (.inl h2h.out)))))
          have z0 : World.cell? (w4) ⟨w.heap.size + 1, 0, none⟩ = some _ := (H4.out.blk 1 rfl).cell 0
          have zf0 : World.frozen? (w4) ⟨w.heap.size + 1, 0, none⟩ = false := (H4.out.blk 1 rfl).frozen 0
          have z1 : World.cell? (w4) ⟨w.heap.size + 1, 1, none⟩ = some _ := (H4.out.blk 1 rfl).cell 1
          have zf1 : World.frozen? (w4) ⟨w.heap.size + 1, 1, none⟩ = false := (H4.out.blk 1 rfl).frozen 1
          have H5 := (H4.out.set 1 rfl 0 (.int .i64 start)).set 1 rfl 1 (.slice A R.length cc)
          have hB := H5.blk 1 rfl
          have hX := hVh.out _ (.slice A R.length cc) R 0 hm.out (hh.out.turns H5.t) H5.t
          clear H5 H4 hVh hh hokh hm hgn hgy hxh hroh hih hcanh hkeyh
          go_wp2_with fail
          refine bodyPost_ret (res_list (rs := [.cell 8 24, .tmp 9]) rfl (by simp) (.cell (w.heap.size + 1) _ _ _ rfl hB Try.underlying24 rfl (by kernel_rfl) (.tmp .nil))) rfl ?_
          exact hX
        · have g2 := decide_eq_false h2
          by_cases h3 : node ≥ 64
          · have g3 := decide_eq_true h3
            have h3h := Lib.hid h3
            clear h3
            go_enter Try.func31, Try.ntmps31
            go_wp2_with fail
            go_at_call 11
            refine Calls.mono (hF.out) ?_
            rintro e w1 ⟨x, rfl, hx, t1⟩
            obtain ⟨Ao, co, rfl, ho⟩ := row_form hx.row
            simp only [Rw.v]
            have H1 := Lib.hid ((Hh.out.turns t1).alloc #[.int .i64 r.key, .int .i64 r.avail, .int .i64 r.mark, .slice Ao r.out.length co] 38)
            have hL := lease_is _ _ r node (hx.row.turns H1.out.t) hroh.out h0 h9
            simp only [Rw.v] at hL
            try rw [hle] at hL
            have hLh := Lib.hid hL
            have hxh := Lib.hid hx
            have b0 : World.cell? (w1.alloc (.cells #[.int .i64 r.key, .int .i64 r.avail, .int .i64 r.mark, .slice Ao r.out.length co] 38)) ⟨w.heap.size, 0, none⟩ = some _ := (H1.out.blk 2 rfl).cell 0
            have b1 : World.cell? (w1.alloc (.cells #[.int .i64 r.key, .int .i64 r.avail, .int .i64 r.mark, .slice Ao r.out.length co] 38)) ⟨w.heap.size, 1, none⟩ = some _ := (H1.out.blk 2 rfl).cell 1
            clear a0 a1 hF Hh t1 ho hL hx
            go_wp2_with fail
            go_at_call 43
            refine Calls.mono (hLh.out) ?_
            rintro e w2 ⟨i, rfl, hi, t2⟩
            have H2 := Lib.hid ((H1.out.turns t2).drew)
            have hih := Lib.hid hi
            generalize hb9 : w1.heap.size = b9 at *
            clear b0 b1 H1 hLh t2 hi
            go_wp2_with fail
            go_wp2_with fail
            refine wp_region_flo [(0, true), (2, true), (3, true), (1, false), (4, true), (5, true)] (fun W => Turns [] w2.drew W) (by kernel_rfl) rfl (by kernel_rfl) (by intro c d v a w h; cases d <;> first | (simpa [Exit.then, Exit.inBlock, Act.put] using h) | exact h) (Turns.refl _ _) ?_
            generalize w2.drew = w3 at *
            have d1 : World.cell? (w3) ⟨b9, 1, none⟩ = some _ := (H2.out.blk 0 rfl).cell 1
            refine flo_read _ rfl (fun K hK => ?_)
            go_simp
            first | (refine hK _ ?_) | (refine ⟨fun W hS => ?_, hK _ ?_⟩; · (have D1 := hS.old d1; try go_simp))
            clear hK K
            refine flo_read _ rfl (fun K hK => ?_)
            go_simp
            first | (refine hK _ ?_) | (refine ⟨fun W hS => ?_, hK _ ?_⟩; · (have D1 := hS.old d1; try go_simp))
            clear hK K
            refine flo_read _ rfl (fun K hK => ?_)
            go_simp
            first | (refine hK _ ?_) | (refine ⟨fun W hS => ?_, hK _ ?_⟩; · (have D1 := hS.old d1; try go_simp))
            clear hK K
            clear d1
            refine flo_alone _ rfl ?_
            go_wp2_with fail
            go_at_call 45
            refine Calls.mono (hff.out _) ?_
            rintro e w4 ⟨rfl, t4⟩
            go_wp2_with fail
            refine ⟨fun W => Turns [] w4 W, fun W h => t4.trans h, Turns.refl _ _, ?_⟩
            have hm3 : ∀ (W : World) (t : TypeId), (Builtin.min_ #[3, 3, 3] t #[.int .i64 fw, .int .i64 r.avail, .int .i64 2147483648]).run Try.prog W = .ok (.int .i64 nn) W := fun W t => by rw [min3, hcanh.out]
            refine flo_read _ rfl (fun K hK => ?_)
            go_simp
            first | (refine hK _ ?_) | (refine ⟨fun W hS => ?_, hK _ ?_⟩; · (skip; try go_simp))
            clear hK K
            refine flo_read _ rfl (fun K hK => ?_)
            go_simp
            first | (refine hK _ ?_) | (refine ⟨fun W hS => ?_, hK _ ?_⟩; · (skip; try go_simp))
            clear hK K
            refine flo_end ?_
            clear hm3
            have H4 := Lib.hid (H2.out.turns t4)
            clear H2 t4
            have a0 : World.cell? (w4) ⟨w.heap.size, 0, none⟩ = some _ := (H4.out.blk 2 rfl).cell 0
            have a1 : World.cell? (w4) ⟨w.heap.size, 1, none⟩ = some _ := (H4.out.blk 2 rfl).cell 1
            have d0 : World.cell? (w4) ⟨b9, 0, none⟩ = some _ := (H4.out.blk 0 rfl).cell 0
            have d1 : World.cell? (w4) ⟨b9, 1, none⟩ = some _ := (H4.out.blk 0 rfl).cell 1
            have df1 : World.frozen? (w4) ⟨b9, 1, none⟩ = false := (H4.out.blk 0 rfl).frozen 1
            have d2 : World.cell? (w4) ⟨b9, 2, none⟩ = some _ := (H4.out.blk 0 rfl).cell 2
            have d3 : World.cell? (w4) ⟨b9, 3, none⟩ = some _ := (H4.out.blk 0 rfl).cell 3
            have hm := Lib.hid (hgn.out (.inr (.inr (.inr (.inr h3h.out)))))
            have z0 : World.cell? (w4) ⟨w.heap.size + 1, 0, none⟩ = some _ := (H4.out.blk 1 rfl).cell 0
            have zf0 : World.frozen? (w4) ⟨w.heap.size + 1, 0, none⟩ = false := (H4.out.blk 1 rfl).frozen 0
            have z1 : World.cell? (w4) ⟨w.heap.size + 1, 1, none⟩ = some _ := (H4.out.blk 1 rfl).cell 1
            have zf1 : World.frozen? (w4) ⟨w.heap.size + 1, 1, none⟩ = false := (H4.out.blk 1 rfl).frozen 1
            have H5 := (H4.out.set 1 rfl 0 (.int .i64 start)).set 1 rfl 1 (.slice A R.length cc)
            have hB := H5.blk 1 rfl
            have hX := hVh.out _ (.slice A R.length cc) R 0 hm.out (hh.out.turns H5.t) H5.t
            clear H5 H4 hVh hh hokh hm hgn hgy hxh hroh hih hcanh hkeyh
            go_wp2_with fail
            refine bodyPost_ret (res_list (rs := [.cell 8 24, .tmp 9]) rfl (by simp) (.cell (w.heap.size + 1) _ _ _ rfl hB Try.underlying24 rfl (by kernel_rfl) (.tmp .nil))) rfl ?_
            exact hX
          · have g3 := decide_eq_false h3
            have hm := Lib.hid (hgy.out (by rw [hle]; simp; omega))
            have hnp : 1 ≤ nn := by omega
            have hn0 : 0 ≤ node := by omega
            clear h1 h2 h3
            go_enter Try.func31, Try.ntmps31
            go_wp2_with fail
            go_at_call 11
            refine Calls.mono (hF.out) ?_
            rintro e w1 ⟨x, rfl, hx, t1⟩
            obtain ⟨Ao, co, rfl, ho⟩ := row_form hx.row
            simp only [Rw.v]
            have H1 := Lib.hid ((Hh.out.turns t1).alloc #[.int .i64 r.key, .int .i64 r.avail, .int .i64 r.mark, .slice Ao r.out.length co] 38)
            have hL := lease_is _ _ r node (hx.row.turns H1.out.t) hroh.out h0 h9
            simp only [Rw.v] at hL
            try rw [hle] at hL
            have hLh := Lib.hid hL
            have hxh := Lib.hid hx
            have b0 : World.cell? (w1.alloc (.cells #[.int .i64 r.key, .int .i64 r.avail, .int .i64 r.mark, .slice Ao r.out.length co] 38)) ⟨w.heap.size, 0, none⟩ = some _ := (H1.out.blk 2 rfl).cell 0
            have b1 : World.cell? (w1.alloc (.cells #[.int .i64 r.key, .int .i64 r.avail, .int .i64 r.mark, .slice Ao r.out.length co] 38)) ⟨w.heap.size, 1, none⟩ = some _ := (H1.out.blk 2 rfl).cell 1
            clear a0 a1 hF Hh t1 ho hL hx
            go_wp2_with fail
            go_at_call 43
            refine Calls.mono (hLh.out) ?_
            rintro e w2 ⟨i, rfl, hi, t2⟩
            have H2 := Lib.hid ((H1.out.turns t2).drew)
            have hih := Lib.hid hi
            generalize hb9 : w1.heap.size = b9 at *
            clear b0 b1 H1 hLh t2 hi
            go_wp2_with fail
            go_wp2_with fail
            refine wp_region_flo [(0, true), (2, true), (3, true), (1, false), (4, true), (5, true)] (fun W => Turns [] w2.drew W) (by kernel_rfl) rfl (by kernel_rfl) (by intro c d v a w h; cases d <;> first | (simpa [Exit.then, Exit.inBlock, Act.put] using h) | exact h) (Turns.refl _ _) ?_
            generalize w2.drew = w3 at *
            have d1 : World.cell? (w3) ⟨b9, 1, none⟩ = some _ := (H2.out.blk 0 rfl).cell 1
            refine flo_read _ rfl (fun K hK => ?_)
            go_simp
            first | (refine hK _ ?_) | (refine ⟨fun W hS => ?_, hK _ ?_⟩; · (have D1 := hS.old d1; try go_simp))
            clear hK K
            refine flo_read _ rfl (fun K hK => ?_)
            go_simp
            first | (refine hK _ ?_) | (refine ⟨fun W hS => ?_, hK _ ?_⟩; · (have D1 := hS.old d1; try go_simp))
            clear hK K
            refine flo_read _ rfl (fun K hK => ?_)
            go_simp
            first | (refine hK _ ?_) | (refine ⟨fun W hS => ?_, hK _ ?_⟩; · (have D1 := hS.old d1; try go_simp))
            clear hK K
            clear d1
            refine flo_alone _ rfl ?_
            go_wp2_with fail
            go_at_call 45
            refine Calls.mono (hff.out _) ?_
            rintro e w4 ⟨rfl, t4⟩
            go_wp2_with fail
            refine ⟨fun W => Turns [] w4 W, fun W h => t4.trans h, Turns.refl _ _, ?_⟩
            have hm3 : ∀ (W : World) (t : TypeId), (Builtin.min_ #[3, 3, 3] t #[.int .i64 fw, .int .i64 r.avail, .int .i64 2147483648]).run Try.prog W = .ok (.int .i64 nn) W := fun W t => by rw [min3, hcanh.out]
            refine flo_read _ rfl (fun K hK => ?_)
            go_simp
            first | (refine hK _ ?_) | (refine ⟨fun W hS => ?_, hK _ ?_⟩; · (skip; try go_simp))
            clear hK K
            refine flo_read _ rfl (fun K hK => ?_)
            go_simp
            first | (refine hK _ ?_) | (refine ⟨fun W hS => ?_, hK _ ?_⟩; · (skip; try go_simp))
            clear hK K
            refine flo_end ?_
            clear hm3
            have H4 := Lib.hid (H2.out.turns t4)
            clear H2 t4
            have a0 : World.cell? (w4) ⟨w.heap.size, 0, none⟩ = some _ := (H4.out.blk 2 rfl).cell 0
            have a1 : World.cell? (w4) ⟨w.heap.size, 1, none⟩ = some _ := (H4.out.blk 2 rfl).cell 1
            have d0 : World.cell? (w4) ⟨b9, 0, none⟩ = some _ := (H4.out.blk 0 rfl).cell 0
            have d1 : World.cell? (w4) ⟨b9, 1, none⟩ = some _ := (H4.out.blk 0 rfl).cell 1
            have df1 : World.frozen? (w4) ⟨b9, 1, none⟩ = false := (H4.out.blk 0 rfl).frozen 1
            have d2 : World.cell? (w4) ⟨b9, 2, none⟩ = some _ := (H4.out.blk 0 rfl).cell 2
            have d3 : World.cell? (w4) ⟨b9, 3, none⟩ = some _ := (H4.out.blk 0 rfl).cell 3
            have hi2 := Lib.hid (hih.out hn0)
            obtain ⟨av, hav⟩ : ∃ av, r.avail - nn = av := ⟨_, rfl⟩
            have hwr : IntKind.i64.wrap (r.avail - nn) = av := by rw [IntWalk.i64_in _ (by omega)]; exact hav
            have hwr2 : wrap64 (r.avail - nn) = av := by unfold wrap64; omega
            have H5 := Lib.hid (H4.out.set 0 rfl 1 (.int .i64 av))
            clear hih hgn hgy H4 a0 a1
            go_upto_region 7 with fail
            generalize w4.setCell ⟨b9, 1, none⟩ (.int .i64 av) = w5 at *
            clear d0 d1 d2 d3 df1
            have d3 : World.cell? (w5) ⟨b9, 3, none⟩ = some _ := (H5.out.blk 0 rfl).cell 3
            have K1 := Lib.hid (cloneLs_is w5 (.slice Ao r.out.length co) r.out (hxh.out.turns H5.out.t).row.out (by omega))
            go_wp2_with fail
            go_at_call 61
            refine Calls.mono (K1.out) ?_
            rintro e w6 ⟨u, rfl, o6, t6, hb6⟩
            have H6 := Lib.hid ((H5.out.newSlice t6 o6 hb6).alloc #[.int .i64 node, .int .i64 nn] 76)
            obtain ⟨A6, c6, hu6, _⟩ := o6.form
            obtain ⟨L6, hL6⟩ : ∃ L6, (lss r.out).length = L6 := ⟨_, rfl⟩
            rw [hL6] at hu6
            subst hu6
            have hL6h := Lib.hid hL6
            have hpl := pln_le r.out node
            have hN := Lib.hid (insL_is _ _ (lss r.out) [.int .i64 node, .int .i64 nn] #[.int .i64 node, .int .i64 nn] i _ (H6.out.got [1, 0]) rfl (by rw [lss_len, hi2.out]; exact hpl) (by rw [lss_len]; omega) rfl (lss_one _) (by intro u hu; simp at hu; rcases hu with rfl | rfl <;> rfl))
            clear K1 H5 t6 o6 hb6 d3 hL6
            go_wp2_with fail
            go_at_call 60
            refine Calls.mono (hN.out) ?_
            rintro e w8 ⟨u, rfl, k8⟩
            have H8 := (H6.out.call [1] k8).keep [0, 2, 3, 4]
            rw [lss_put r.out node nn hi2.out] at H8
            obtain ⟨A8, c8, hu8, _⟩ := (H8.own 0 rfl).form
            obtain ⟨L8, hL8⟩ : ∃ L8, (lss (putL r.out node nn)).length = L8 := ⟨_, rfl⟩
            rw [hL8] at hu8
            subst hu8
            have H8h := Lib.hid H8
            clear hN H6 k8 H8 hL8 hpl
            have d3 : World.cell? (w8) ⟨b9, 3, none⟩ = some _ := (H8h.out.blk 1 rfl).cell 3
            have df3 : World.frozen? (w8) ⟨b9, 3, none⟩ = false := (H8h.out.blk 1 rfl).frozen 3
            have H9 := Lib.hid (H8h.out.set 1 rfl 3 (.slice A8 L8 c8))
            clear H8h
            go_upto_region 8 with fail
            generalize w8.setCell ⟨b9, 3, none⟩ (.slice A8 L8 c8) = w9 at *
            clear d3 df3
            have d0 : World.cell? (w9) ⟨b9, 0, none⟩ = some _ := (H9.out.blk 1 rfl).cell 0
            have d1 : World.cell? (w9) ⟨b9, 1, none⟩ = some _ := (H9.out.blk 1 rfl).cell 1
            have d2 : World.cell? (w9) ⟨b9, 2, none⟩ = some _ := (H9.out.blk 1 rfl).cell 2
            have d3 : World.cell? (w9) ⟨b9, 3, none⟩ = some _ := (H9.out.blk 1 rfl).cell 3
            have a0 : World.cell? (w9) ⟨w.heap.size, 0, none⟩ = some _ := (H9.out.blk 3 rfl).cell 0
            have a1 : World.cell? (w9) ⟨w.heap.size, 1, none⟩ = some _ := (H9.out.blk 3 rfl).cell 1
            have hzl := Blk.lt (H9.out.blk 2 rfl)
            have hne : ∀ k, (Value.slice A8 L8 c8).ownBlock = some k → k ∉ [w.heap.size + 1] ++ G := fun k hk hm => by
              rcases List.mem_append.1 hm with hm | hm
              · have hz := H9.out.ap
                rw [List.mem_singleton.1 hm] at hk
                have h1 := (List.pairwise_cons.1 hz).1 (tBlk (w.heap.size + 1) #[.int .i64 0, .slice none 0 0] 24) (List.mem_of_getElem? (i := 1) rfl) (w.heap.size + 1) (by simpa [tOwn] using hk)
                exact h1 (by simp [tBlk])
              · rcases mine_own H9.out 0 rfl k hk with h1 | h1
                · cases h1
                · have := hGh.out k hm; omega
            obtain ⟨nr, hnr⟩ : ∃ nr : Row, nr = ⟨key, av, r.mark, putL r.out node nn⟩ := ⟨_, rfl⟩
            have hm2 := hm.out
            rw [hav, ← hnr] at hm2
            have hm2h := Lib.hid hm2
            have hRS : RowS ([w.heap.size + 1] ++ G) w9 ⟨r.key, av, r.mark, .slice A8 L8 c8⟩ nr := by
              rw [hnr]
              exact fun W t => ⟨hkeyh.out, rfl, rfl, ((H9.out.own 0 rfl).turns t hne).reads⟩
            have Wi := with_is ([w.heap.size + 1] ++ G) w9 start (.slice A R.length cc) R _ _ (RTS.more hh.out H9.out.t (by intro k hk; rw [List.mem_singleton.1 hk]; omega)) hRS (gl hzl H9.out.t hGh.out) (by omega)
            simp only [Rw.v] at Wi
            have Wih := Lib.hid Wi
            clear hRS Wi hne hnr hm2 hm hav
            go_wp2_with fail
            go_at_call 59
            refine Calls.mono (Wih.out) ?_
            rintro e wA ⟨v', rfl, hT, tA⟩
            obtain ⟨A', c', hv', _⟩ := hT.rt.form
            obtain ⟨L', hL'⟩ : ∃ L', (withR R nr).length = L' := ⟨_, rfl⟩
            rw [hL'] at hv'
            subst hv'
            have HA := H9.out.turns tA
            clear hL' Wih H9 tA d0 d1 d2 d3 a0 a1
            have z0 : World.cell? (wA) ⟨w.heap.size + 1, 0, none⟩ = some _ := (HA.blk 2 rfl).cell 0
            have zf0 : World.frozen? (wA) ⟨w.heap.size + 1, 0, none⟩ = false := (HA.blk 2 rfl).frozen 0
            have z1 : World.cell? (wA) ⟨w.heap.size + 1, 1, none⟩ = some _ := (HA.blk 2 rfl).cell 1
            have zf1 : World.frozen? (wA) ⟨w.heap.size + 1, 1, none⟩ = false := (HA.blk 2 rfl).frozen 1
            have HB := (HA.set 2 rfl 0 (.int .i64 start)).set 2 rfl 1 (.slice A' L' c')
            have hB := HB.blk 2 rfl
            have TB := ((Turns.refl [w.heap.size + 1] wA).setCell (p := ⟨w.heap.size + 1, 0, none⟩) (by simp) (.int .i64 start)).setCell (p := ⟨w.heap.size + 1, 1, none⟩) (by simp) (.slice A' L' c')
            have hX := hVh.out _ (.slice A' L' c') _ nn hm2h.out (RTS.less hT TB) HB.t
            clear HA HB TB hVh hh hokh hroh hm2h hxh hi2 hkeyh hcanh hL6h
            go_wp2_with fail
            refine bodyPost_ret (res_list (rs := [.cell 8 24, .tmp 9]) rfl (by simp) (.cell (w.heap.size + 1) _ _ _ rfl hB Try.underlying24 rfl (by kernel_rfl) (.tmp .nil))) rfl ?_
            exact hX
end Go.Proofs.Ytphhfdlhkginkaa.Bw
