/- annonalaw09's step and want: an act upon a table. -/
import Derived.Test.YtphhfdlhkginkaaBr
import Derived.Test.YtphhfdlhkginkaaBt
import Derived.Test.YtphhfdlhkginkaaBw
import Derived.Test.YtphhfdlhkginkaaBy
set_option linter.unusedVariables false
set_option linter.unusedSimpArgs false
set_option maxRecDepth 100000
namespace Go.Proofs.Ytphhfdlhkginkaa.Ja
open Go.RowKit Go.MapKept Hm Hs Hr Hb Hf Hg Hx Hy Hv Hz Hu Fa Ff Fq Ba Bb Bc Bd Bi Bj Bk Bl Bq Br Bt Bv Bw Bx By Cf Cn Sm Sat Ca Cb Bn
structure Act where
  kd : Int
  key : Int
  now : Int
  node : Int
  n : Int
def Act.cells (a : Act) : List Value := [.int .u8 a.kd, .int .i64 a.key, .int .i64 a.now, .int .i64 a.node, .int .i64 a.n]
def Act.v (a : Act) : Value := .agg #[.int .u8 a.kd, .int .i64 a.key, .int .i64 a.now, .int .i64 a.node, .int .i64 a.n]
/-- an act's numbers are int64s -/
structure Act.Fit (a : Act) : Prop where
  k0 : 0 ≤ a.kd
  k1 : a.kd < 256
  n0 : -9223372036854775808 ≤ a.node
  n1 : a.node ≤ 9223372036854775807
def stepR (start : Int) (R : List Row) (a : Act) (c : Ba.Cf) : List Row × Int :=
  if a.kd % 5 = 0 ∨ a.kd % 5 = 1 then mintR start R a.key a.now c else if a.kd % 5 = 2 then settleR start R a.key a.node a.n else grantR start R a.key a.node a.n
theorem step_ok {start : Int} {R : List Row} {a : Act} {c : Ba.Cf} (h : Ok R) (hc : c.keys ≤ 16) : Ok (stepR start R a c).1 := by
  unfold stepR
  split
  · exact mint_ok h hc
  · split
    · exact settle_ok h
    · exact grant_ok h
set_option maxHeartbeats 8000000 in
theorem step_is (G : List Nat) (w : World) (start : Int) (v : Value) (R : List Row) (a : Act) (c : Cfg) (hs : RTS G w v R) (hG : ∀ k ∈ G, k < w.heap.size) (hok : Ok R) (hr : RdS 2 w c.rv (rts c.rates)) (hf : a.Fit) : Calls Try.prog 8 #[.agg #[.int .i64 start, v], a.v, c.v] w fun e w' => ∃ v', e = .returned (.tuple #[.agg #[.int .i64 start, v'], .int .i64 (stepR start R a (cfg c)).2]) ∧ RTS G w' v' (stepR start R a (cfg c)).1 ∧ Turns [] w w' := by
  have h := hs.rt
  have hGh := Lib.hid hG
  obtain ⟨A, cc, rfl, hlc, hcm⟩ := h.form
  obtain ⟨Ar, cr, hrv, hlr, hcr⟩ := hr.form
  rw [rts_len] at hrv hlr
  obtain ⟨V, hV⟩ : ∃ V : Ending → World → Prop, V = fun e w' => ∃ v', e = .returned (.tuple #[.agg #[.int .i64 start, v'], .int .i64 (stepR start R a (cfg c)).2]) ∧ RTS G w' v' (stepR start R a (cfg c)).1 ∧ Turns [] w w' := ⟨_, rfl⟩
  rw [← hV]
  have hVh : Hid (∀ w' v' R' n, stepR start R a (cfg c) = (R', n) → RTS G w' v' R' → Turns [] w w' → V (.returned (.tuple #[.agg #[.int .i64 start, v'], .int .i64 n])) w') := Lib.hid (fun w' v' R' n h1 h2 h3 => by rw [hV, h1]; exact ⟨v', rfl, h2, h3⟩)
  have hM := Lib.hid (fun W (t : Turns [] w W) (hz : w.heap.size + 1 + 1 + 1 < W.heap.size) => mint_is ([w.heap.size + 1 + 1 + 1] ++ G) W start a.key a.now _ R c (RTS.more hs t (by intro k hk; rw [List.mem_singleton.1 hk]; omega)) (gl hz t hG) hok (hr.mv (fun a u => t.old)))
  have hS := Lib.hid (fun W (t : Turns [] w W) (hz : w.heap.size + 1 + 1 + 1 < W.heap.size) => settle_is ([w.heap.size + 1 + 1 + 1] ++ G) W start a.key a.node a.n _ R (RTS.more hs t (by intro k hk; rw [List.mem_singleton.1 hk]; omega)) (gl hz t hG) hok hf.n0 hf.n1)
  have hGr := Lib.hid (fun W (t : Turns [] w W) (hz : w.heap.size + 1 + 1 + 1 < W.heap.size) => grant_is ([w.heap.size + 1 + 1 + 1] ++ G) W start a.key a.node a.n _ R (RTS.more hs t (by intro k hk; rw [List.mem_singleton.1 hk]; omega)) (gl hz t hG) hok hf.n0 hf.n1)
  obtain ⟨k0, k1, n0, n1⟩ := hf
  have hst : stepR start R a (cfg c) = if a.kd % 5 = 0 ∨ a.kd % 5 = 1 then mintR start R a.key a.now (cfg c) else if a.kd % 5 = 2 then settleR start R a.key a.node a.n else grantR start R a.key a.node a.n := rfl
  obtain ⟨kd, key, now, node, nn⟩ := a
  simp only at k0 k1 n0 n1 hM hS hGr hst
  obtain ⟨n, skew, ttl, valid, loss, hear, keys, queue, rv, rates⟩ := c
  simp only at hrv hlr hr hM
  subst hrv
  obtain ⟨C, hC⟩ : ∃ C, C = cfg ⟨n, skew, ttl, valid, loss, hear, keys, queue, .slice Ar rates.length cr, rates⟩ := ⟨_, rfl⟩
  rw [← hC] at hVh hM hst
  unfold Cfg.v at hM ⊢
  unfold Act.v
  simp only at hM ⊢
  have H := ((((Sep.start w).alloc #[.int .i64 start, .slice A R.length cc] 24).alloc #[.int .u8 kd, .int .i64 key, .int .i64 now, .int .i64 node, .int .i64 nn] 32).alloc #[.int .i64 n, .int .i64 skew, .int .i64 ttl, .int .i64 valid, .int .i64 loss, .int .i64 hear, .int .i64 keys, .int .i64 queue, .slice Ar rates.length cr] 27).alloc #[.int .i64 0, .slice none 0 0] 24
  rw [World.size_alloc, World.size_alloc, World.size_alloc] at H
  have hzl := Blk.lt (H.blk 0 rfl)
  obtain ⟨w1, hw1⟩ : ∃ w1, (((w.alloc (.cells #[.int .i64 start, .slice A R.length cc] 24)).alloc (.cells #[.int .u8 kd, .int .i64 key, .int .i64 now, .int .i64 node, .int .i64 nn] 32)).alloc (.cells #[.int .i64 n, .int .i64 skew, .int .i64 ttl, .int .i64 valid, .int .i64 loss, .int .i64 hear, .int .i64 keys, .int .i64 queue, .slice Ar rates.length cr] 27)).alloc (.cells #[.int .i64 0, .slice none 0 0] 24) = w1 := ⟨_, rfl⟩
  rw [hw1] at H hzl
  have Hh := Lib.hid H
  have hstk := Lib.hid hst
  have hzlh := Lib.hid hzl
  have t0 : World.cell? (w1) ⟨w.heap.size, 0, none⟩ = some _ := (Hh.out.blk 3 rfl).cell 0
  have t1 : World.cell? (w1) ⟨w.heap.size, 1, none⟩ = some _ := (Hh.out.blk 3 rfl).cell 1
  have a0 : World.cell? (w1) ⟨w.heap.size + 1, 0, none⟩ = some _ := (Hh.out.blk 2 rfl).cell 0
  have a1 : World.cell? (w1) ⟨w.heap.size + 1, 1, none⟩ = some _ := (Hh.out.blk 2 rfl).cell 1
  have a2 : World.cell? (w1) ⟨w.heap.size + 1, 2, none⟩ = some _ := (Hh.out.blk 2 rfl).cell 2
  have a3 : World.cell? (w1) ⟨w.heap.size + 1, 3, none⟩ = some _ := (Hh.out.blk 2 rfl).cell 3
  have a4 : World.cell? (w1) ⟨w.heap.size + 1, 4, none⟩ = some _ := (Hh.out.blk 2 rfl).cell 4
  have c0 : World.cell? (w1) ⟨w.heap.size + 1 + 1, 0, none⟩ = some _ := (Hh.out.blk 1 rfl).cell 0
  have c1 : World.cell? (w1) ⟨w.heap.size + 1 + 1, 1, none⟩ = some _ := (Hh.out.blk 1 rfl).cell 1
  have c2 : World.cell? (w1) ⟨w.heap.size + 1 + 1, 2, none⟩ = some _ := (Hh.out.blk 1 rfl).cell 2
  have c3 : World.cell? (w1) ⟨w.heap.size + 1 + 1, 3, none⟩ = some _ := (Hh.out.blk 1 rfl).cell 3
  have c4 : World.cell? (w1) ⟨w.heap.size + 1 + 1, 4, none⟩ = some _ := (Hh.out.blk 1 rfl).cell 4
  have c5 : World.cell? (w1) ⟨w.heap.size + 1 + 1, 5, none⟩ = some _ := (Hh.out.blk 1 rfl).cell 5
  have c6 : World.cell? (w1) ⟨w.heap.size + 1 + 1, 6, none⟩ = some _ := (Hh.out.blk 1 rfl).cell 6
  have c7 : World.cell? (w1) ⟨w.heap.size + 1 + 1, 7, none⟩ = some _ := (Hh.out.blk 1 rfl).cell 7
  have c8 : World.cell? (w1) ⟨w.heap.size + 1 + 1, 8, none⟩ = some _ := (Hh.out.blk 1 rfl).cell 8
  clear hs h hr H hC hV hG hok hst hzl
  have htm : kd.tmod 5 = kd % 5 := Int.tmod_eq_emod_of_nonneg k0
  obtain ⟨z, hz⟩ : ∃ z, kd % 5 = z := ⟨_, rfl⟩
  rw [hz] at htm hstk
  have hzb : 0 ≤ z ∧ z < 5 := by omega
  clear hz
  have hw8 : IntKind.u8.wrap z = z := by simp [IntKind.wrap, IntKind.signed, IntKind.bits]; omega
  by_cases z0 : z = 0
  · have g0 : (z == 0) = true := by simp [z0]
    have hse := Lib.hid (hstk.out.trans (if_pos (.inl z0)))
    clear z0
    have hMc := Lib.hid (hM.out w1 Hh.out.t hzlh.out)
    clear hM hS hGr
    go_enter Try.func8, Try.ntmps8
    go_wp2_with fail
    try rw [hw1]
    clear hw1
    go_at_call 30
    refine Calls.mono (hMc.out) ?_
    rintro e w2 ⟨v', rfl, hT, t2⟩
    obtain ⟨A', c', hv', _⟩ := hT.rt.form
    obtain ⟨L', hL'⟩ : ∃ L', (mintR start R key now C).1.length = L' := ⟨_, rfl⟩
    rw [hL'] at hv'
    subst hv'
    obtain ⟨m, hm⟩ : ∃ m, (mintR start R key now C).2 = m := ⟨_, rfl⟩
    have hme := Lib.hid (hse.out.trans (Prod.ext rfl hm : mintR start R key now C = ((mintR start R key now C).1, m)))
    rw [hm]
    have H2 := Hh.out.turns t2
    clear hL' Hh t2 t0 t1 a0 a1 a2 a3 a4 c0 c1 c2 c3 c4 c5 c6 c7 c8 hm
    have H4 := H2.alloc #[.int .i64 start, .slice A' L' c'] 24
    have z0 : World.cell? (w2.alloc (.cells #[.int .i64 start, .slice A' L' c'] 24)) ⟨w.heap.size + 1 + 1 + 1, 0, none⟩ = some _ := (H4.blk 1 rfl).cell 0
    have zf0 : World.frozen? (w2.alloc (.cells #[.int .i64 start, .slice A' L' c'] 24)) ⟨w.heap.size + 1 + 1 + 1, 0, none⟩ = false := (H4.blk 1 rfl).frozen 0
    have z1 : World.cell? (w2.alloc (.cells #[.int .i64 start, .slice A' L' c'] 24)) ⟨w.heap.size + 1 + 1 + 1, 1, none⟩ = some _ := (H4.blk 1 rfl).cell 1
    have zf1 : World.frozen? (w2.alloc (.cells #[.int .i64 start, .slice A' L' c'] 24)) ⟨w.heap.size + 1 + 1 + 1, 1, none⟩ = false := (H4.blk 1 rfl).frozen 1
    have H3 := (H4.set 1 rfl 0 (.int .i64 start)).set 1 rfl 1 (.slice A' L' c')
    have hB := H3.blk 1 rfl
    have hT2 := hT.turns ((Turns.refl [] w2).alloc (.cells #[.int .i64 start, .slice A' L' c'] 24))
    clear hMc H4
    have T3 := ((Turns.refl [w.heap.size + 1 + 1 + 1] (w2.alloc (.cells #[.int .i64 start, .slice A' L' c'] 24))).setCell (p := ⟨w.heap.size + 1 + 1 + 1, 0, none⟩) (by simp) (.int .i64 start)).setCell (p := ⟨w.heap.size + 1 + 1 + 1, 1, none⟩) (by simp) (.slice A' L' c')
    have hX := hVh.out _ (.slice A' L' c') _ m hme.out (RTS.less hT2 T3) H3.t
    clear H3 H2 T3 hVh hme hstk
    go_wp2_with fail
    refine bodyPost_ret (res_list (rs := [.cell 6 24, .tmp 7]) rfl (by simp) (.cell (w.heap.size + 1 + 1 + 1) _ _ _ rfl hB Try.underlying24 rfl (by kernel_rfl) (.tmp .nil))) rfl ?_
    exact hX
  · have g0 : (z == 0) = false := by simpa using z0
    by_cases z1 : z = 1
    · have g1 : (z == 1) = true := by simp [z1]
      have hse := Lib.hid (hstk.out.trans (if_pos (.inr z1)))
      clear z1
      have hMc := Lib.hid (hM.out w1 Hh.out.t hzlh.out)
      clear hM hS hGr
      go_enter Try.func8, Try.ntmps8
      go_wp2_with fail
      try rw [hw1]
      clear hw1
      go_at_call 30
      refine Calls.mono (hMc.out) ?_
      rintro e w2 ⟨v', rfl, hT, t2⟩
      obtain ⟨A', c', hv', _⟩ := hT.rt.form
      obtain ⟨L', hL'⟩ : ∃ L', (mintR start R key now C).1.length = L' := ⟨_, rfl⟩
      rw [hL'] at hv'
      subst hv'
      obtain ⟨m, hm⟩ : ∃ m, (mintR start R key now C).2 = m := ⟨_, rfl⟩
      have hme := Lib.hid (hse.out.trans (Prod.ext rfl hm : mintR start R key now C = ((mintR start R key now C).1, m)))
      rw [hm]
      have H2 := Hh.out.turns t2
      clear hL' Hh t2 t0 t1 a0 a1 a2 a3 a4 c0 c1 c2 c3 c4 c5 c6 c7 c8 hm
      have H4 := H2.alloc #[.int .i64 start, .slice A' L' c'] 24
      have z0 : World.cell? (w2.alloc (.cells #[.int .i64 start, .slice A' L' c'] 24)) ⟨w.heap.size + 1 + 1 + 1, 0, none⟩ = some _ := (H4.blk 1 rfl).cell 0
      have zf0 : World.frozen? (w2.alloc (.cells #[.int .i64 start, .slice A' L' c'] 24)) ⟨w.heap.size + 1 + 1 + 1, 0, none⟩ = false := (H4.blk 1 rfl).frozen 0
      have z1 : World.cell? (w2.alloc (.cells #[.int .i64 start, .slice A' L' c'] 24)) ⟨w.heap.size + 1 + 1 + 1, 1, none⟩ = some _ := (H4.blk 1 rfl).cell 1
      have zf1 : World.frozen? (w2.alloc (.cells #[.int .i64 start, .slice A' L' c'] 24)) ⟨w.heap.size + 1 + 1 + 1, 1, none⟩ = false := (H4.blk 1 rfl).frozen 1
      have H3 := (H4.set 1 rfl 0 (.int .i64 start)).set 1 rfl 1 (.slice A' L' c')
      have hB := H3.blk 1 rfl
      have hT2 := hT.turns ((Turns.refl [] w2).alloc (.cells #[.int .i64 start, .slice A' L' c'] 24))
      clear hMc H4
      have T3 := ((Turns.refl [w.heap.size + 1 + 1 + 1] (w2.alloc (.cells #[.int .i64 start, .slice A' L' c'] 24))).setCell (p := ⟨w.heap.size + 1 + 1 + 1, 0, none⟩) (by simp) (.int .i64 start)).setCell (p := ⟨w.heap.size + 1 + 1 + 1, 1, none⟩) (by simp) (.slice A' L' c')
      have hX := hVh.out _ (.slice A' L' c') _ m hme.out (RTS.less hT2 T3) H3.t
      clear H3 H2 T3 hVh hme hstk
      go_wp2_with fail
      refine bodyPost_ret (res_list (rs := [.cell 6 24, .tmp 7]) rfl (by simp) (.cell (w.heap.size + 1 + 1 + 1) _ _ _ rfl hB Try.underlying24 rfl (by kernel_rfl) (.tmp .nil))) rfl ?_
      exact hX
    · have g1 : (z == 1) = false := by simpa using z1
      by_cases z2 : z = 2
      · have g2 : (z == 2) = true := by simp [z2]
        have hse := Lib.hid ((hstk.out.trans (if_neg (by omega))).trans (if_pos z2))
        have hMc := Lib.hid (hS.out w1 Hh.out.t hzlh.out)
        clear hM hS hGr z0 z1 z2
        go_enter Try.func8, Try.ntmps8
        go_wp2_with fail
        try rw [hw1]
        clear hw1
        go_at_call 32
        refine Calls.mono (hMc.out) ?_
        rintro e w2 ⟨v', rfl, hT, t2⟩
        obtain ⟨A', c', hv', _⟩ := hT.rt.form
        obtain ⟨L', hL'⟩ : ∃ L', (settleR start R key node nn).1.length = L' := ⟨_, rfl⟩
        rw [hL'] at hv'
        subst hv'
        obtain ⟨m, hm⟩ : ∃ m, (settleR start R key node nn).2 = m := ⟨_, rfl⟩
        have hme := Lib.hid (hse.out.trans (Prod.ext rfl hm : settleR start R key node nn = ((settleR start R key node nn).1, m)))
        rw [hm]
        have H2 := Hh.out.turns t2
        clear hL' Hh t2 t0 t1 a0 a1 a2 a3 a4 c0 c1 c2 c3 c4 c5 c6 c7 c8 hm
        have z0 : World.cell? (w2) ⟨w.heap.size + 1 + 1 + 1, 0, none⟩ = some _ := (H2.blk 0 rfl).cell 0
        have zf0 : World.frozen? (w2) ⟨w.heap.size + 1 + 1 + 1, 0, none⟩ = false := (H2.blk 0 rfl).frozen 0
        have z1 : World.cell? (w2) ⟨w.heap.size + 1 + 1 + 1, 1, none⟩ = some _ := (H2.blk 0 rfl).cell 1
        have zf1 : World.frozen? (w2) ⟨w.heap.size + 1 + 1 + 1, 1, none⟩ = false := (H2.blk 0 rfl).frozen 1
        have H3 := (H2.set 0 rfl 0 (.int .i64 start)).set 0 rfl 1 (.slice A' L' c')
        have hB := H3.blk 0 rfl
        clear hMc
        have T3 := ((Turns.refl [w.heap.size + 1 + 1 + 1] w2).setCell (p := ⟨w.heap.size + 1 + 1 + 1, 0, none⟩) (by simp) (.int .i64 start)).setCell (p := ⟨w.heap.size + 1 + 1 + 1, 1, none⟩) (by simp) (.slice A' L' c')
        have hX := hVh.out _ (.slice A' L' c') _ m hme.out (RTS.less hT T3) H3.t
        clear H3 H2 T3 hVh hme hstk
        go_wp2_with fail
        refine bodyPost_ret (res_list (rs := [.cell 6 24, .tmp 7]) rfl (by simp) (.cell (w.heap.size + 1 + 1 + 1) _ _ _ rfl hB Try.underlying24 rfl (by kernel_rfl) (.tmp .nil))) rfl ?_
        exact hX
      · have g2 : (z == 2) = false := by simpa using z2
        have hse := Lib.hid ((hstk.out.trans (if_neg (by omega))).trans (if_neg z2))
        have hMc := Lib.hid (hGr.out w1 Hh.out.t hzlh.out)
        clear hM hS hGr z0 z1 z2
        go_enter Try.func8, Try.ntmps8
        go_wp2_with fail
        try rw [hw1]
        clear hw1
        go_at_call 31
        refine Calls.mono (hMc.out) ?_
        rintro e w2 ⟨v', rfl, hT, t2⟩
        obtain ⟨A', c', hv', _⟩ := hT.rt.form
        obtain ⟨L', hL'⟩ : ∃ L', (grantR start R key node nn).1.length = L' := ⟨_, rfl⟩
        rw [hL'] at hv'
        subst hv'
        obtain ⟨m, hm⟩ : ∃ m, (grantR start R key node nn).2 = m := ⟨_, rfl⟩
        have hme := Lib.hid (hse.out.trans (Prod.ext rfl hm : grantR start R key node nn = ((grantR start R key node nn).1, m)))
        rw [hm]
        have H2 := Hh.out.turns t2
        clear hL' Hh t2 t0 t1 a0 a1 a2 a3 a4 c0 c1 c2 c3 c4 c5 c6 c7 c8 hm
        have z0 : World.cell? (w2) ⟨w.heap.size + 1 + 1 + 1, 0, none⟩ = some _ := (H2.blk 0 rfl).cell 0
        have zf0 : World.frozen? (w2) ⟨w.heap.size + 1 + 1 + 1, 0, none⟩ = false := (H2.blk 0 rfl).frozen 0
        have z1 : World.cell? (w2) ⟨w.heap.size + 1 + 1 + 1, 1, none⟩ = some _ := (H2.blk 0 rfl).cell 1
        have zf1 : World.frozen? (w2) ⟨w.heap.size + 1 + 1 + 1, 1, none⟩ = false := (H2.blk 0 rfl).frozen 1
        have H3 := (H2.set 0 rfl 0 (.int .i64 start)).set 0 rfl 1 (.slice A' L' c')
        have hB := H3.blk 0 rfl
        clear hMc
        have T3 := ((Turns.refl [w.heap.size + 1 + 1 + 1] w2).setCell (p := ⟨w.heap.size + 1 + 1 + 1, 0, none⟩) (by simp) (.int .i64 start)).setCell (p := ⟨w.heap.size + 1 + 1 + 1, 1, none⟩) (by simp) (.slice A' L' c')
        have hX := hVh.out _ (.slice A' L' c') _ m hme.out (RTS.less hT T3) H3.t
        clear H3 H2 T3 hVh hme hstk
        go_wp2_with fail
        refine bodyPost_ret (res_list (rs := [.cell 6 24, .tmp 7]) rfl (by simp) (.cell (w.heap.size + 1 + 1 + 1) _ _ _ rfl hB Try.underlying24 rfl (by kernel_rfl) (.tmp .nil))) rfl ?_
        exact hX
set_option maxHeartbeats 8000000 in
theorem want_is (G : List Nat) (w : World) (start : Int) (v : Value) (R : List Row) (a : Act) (c : Cfg) (hs : RTS G w v R) (hG : ∀ k ∈ G, k < w.heap.size) (hok : Ok R) (hr : RdS 2 w c.rv (rts c.rates)) (hf : a.Fit) : Calls Try.prog 9 #[.agg #[.int .i64 start, v], a.v, c.v] w fun e w' => ∃ v', e = .returned (.tuple #[.agg #[.int .i64 start, v'], .int .i64 (stepR start R a (cfg c)).2]) ∧ RTS G w' v' (stepR start R a (cfg c)).1 ∧ Turns [] w w' := by
  have h := hs.rt
  have hGh := Lib.hid hG
  obtain ⟨A, cc, rfl, hlc, hcm⟩ := h.form
  obtain ⟨Ar, cr, hrv, hlr, hcr⟩ := hr.form
  rw [rts_len] at hrv hlr
  obtain ⟨V, hV⟩ : ∃ V : Ending → World → Prop, V = fun e w' => ∃ v', e = .returned (.tuple #[.agg #[.int .i64 start, v'], .int .i64 (stepR start R a (cfg c)).2]) ∧ RTS G w' v' (stepR start R a (cfg c)).1 ∧ Turns [] w w' := ⟨_, rfl⟩
  rw [← hV]
  have hVh : Hid (∀ w' v' R' n, stepR start R a (cfg c) = (R', n) → RTS G w' v' R' → Turns [] w w' → V (.returned (.tuple #[.agg #[.int .i64 start, v'], .int .i64 n])) w') := Lib.hid (fun w' v' R' n h1 h2 h3 => by rw [hV, h1]; exact ⟨v', rfl, h2, h3⟩)
  have hM := Lib.hid (fun W (t : Turns [] w W) (hz : w.heap.size + 1 + 1 + 1 < W.heap.size) => rmint_is ([w.heap.size + 1 + 1 + 1] ++ G) W start a.key a.now _ R c (RTS.more hs t (by intro k hk; rw [List.mem_singleton.1 hk]; omega)) (gl hz t hG) hok (hr.mv (fun a u => t.old)))
  have hS := Lib.hid (fun W (t : Turns [] w W) (hz : w.heap.size + 1 + 1 + 1 < W.heap.size) => rsettle_is ([w.heap.size + 1 + 1 + 1] ++ G) W start a.key a.node a.n _ R (RTS.more hs t (by intro k hk; rw [List.mem_singleton.1 hk]; omega)) (gl hz t hG) hok )
  have hGr := Lib.hid (fun W (t : Turns [] w W) (hz : w.heap.size + 1 + 1 + 1 < W.heap.size) => rgrant_is ([w.heap.size + 1 + 1 + 1] ++ G) W start a.key a.node a.n _ R (RTS.more hs t (by intro k hk; rw [List.mem_singleton.1 hk]; omega)) (gl hz t hG) hok )
  obtain ⟨k0, k1, n0, n1⟩ := hf
  have hst : stepR start R a (cfg c) = if a.kd % 5 = 0 ∨ a.kd % 5 = 1 then mintR start R a.key a.now (cfg c) else if a.kd % 5 = 2 then settleR start R a.key a.node a.n else grantR start R a.key a.node a.n := rfl
  obtain ⟨kd, key, now, node, nn⟩ := a
  simp only at k0 k1 n0 n1 hM hS hGr hst
  obtain ⟨n, skew, ttl, valid, loss, hear, keys, queue, rv, rates⟩ := c
  simp only at hrv hlr hr hM
  subst hrv
  obtain ⟨C, hC⟩ : ∃ C, C = cfg ⟨n, skew, ttl, valid, loss, hear, keys, queue, .slice Ar rates.length cr, rates⟩ := ⟨_, rfl⟩
  rw [← hC] at hVh hM hst
  unfold Cfg.v at hM ⊢
  unfold Act.v
  simp only at hM ⊢
  have H := ((((Sep.start w).alloc #[.int .i64 start, .slice A R.length cc] 24).alloc #[.int .u8 kd, .int .i64 key, .int .i64 now, .int .i64 node, .int .i64 nn] 32).alloc #[.int .i64 n, .int .i64 skew, .int .i64 ttl, .int .i64 valid, .int .i64 loss, .int .i64 hear, .int .i64 keys, .int .i64 queue, .slice Ar rates.length cr] 27).alloc #[.int .i64 0, .slice none 0 0] 24
  rw [World.size_alloc, World.size_alloc, World.size_alloc] at H
  have hzl := Blk.lt (H.blk 0 rfl)
  obtain ⟨w1, hw1⟩ : ∃ w1, (((w.alloc (.cells #[.int .i64 start, .slice A R.length cc] 24)).alloc (.cells #[.int .u8 kd, .int .i64 key, .int .i64 now, .int .i64 node, .int .i64 nn] 32)).alloc (.cells #[.int .i64 n, .int .i64 skew, .int .i64 ttl, .int .i64 valid, .int .i64 loss, .int .i64 hear, .int .i64 keys, .int .i64 queue, .slice Ar rates.length cr] 27)).alloc (.cells #[.int .i64 0, .slice none 0 0] 24) = w1 := ⟨_, rfl⟩
  rw [hw1] at H hzl
  have Hh := Lib.hid H
  have hstk := Lib.hid hst
  have hzlh := Lib.hid hzl
  have t0 : World.cell? (w1) ⟨w.heap.size, 0, none⟩ = some _ := (Hh.out.blk 3 rfl).cell 0
  have t1 : World.cell? (w1) ⟨w.heap.size, 1, none⟩ = some _ := (Hh.out.blk 3 rfl).cell 1
  have a0 : World.cell? (w1) ⟨w.heap.size + 1, 0, none⟩ = some _ := (Hh.out.blk 2 rfl).cell 0
  have a1 : World.cell? (w1) ⟨w.heap.size + 1, 1, none⟩ = some _ := (Hh.out.blk 2 rfl).cell 1
  have a2 : World.cell? (w1) ⟨w.heap.size + 1, 2, none⟩ = some _ := (Hh.out.blk 2 rfl).cell 2
  have a3 : World.cell? (w1) ⟨w.heap.size + 1, 3, none⟩ = some _ := (Hh.out.blk 2 rfl).cell 3
  have a4 : World.cell? (w1) ⟨w.heap.size + 1, 4, none⟩ = some _ := (Hh.out.blk 2 rfl).cell 4
  have c0 : World.cell? (w1) ⟨w.heap.size + 1 + 1, 0, none⟩ = some _ := (Hh.out.blk 1 rfl).cell 0
  have c1 : World.cell? (w1) ⟨w.heap.size + 1 + 1, 1, none⟩ = some _ := (Hh.out.blk 1 rfl).cell 1
  have c2 : World.cell? (w1) ⟨w.heap.size + 1 + 1, 2, none⟩ = some _ := (Hh.out.blk 1 rfl).cell 2
  have c3 : World.cell? (w1) ⟨w.heap.size + 1 + 1, 3, none⟩ = some _ := (Hh.out.blk 1 rfl).cell 3
  have c4 : World.cell? (w1) ⟨w.heap.size + 1 + 1, 4, none⟩ = some _ := (Hh.out.blk 1 rfl).cell 4
  have c5 : World.cell? (w1) ⟨w.heap.size + 1 + 1, 5, none⟩ = some _ := (Hh.out.blk 1 rfl).cell 5
  have c6 : World.cell? (w1) ⟨w.heap.size + 1 + 1, 6, none⟩ = some _ := (Hh.out.blk 1 rfl).cell 6
  have c7 : World.cell? (w1) ⟨w.heap.size + 1 + 1, 7, none⟩ = some _ := (Hh.out.blk 1 rfl).cell 7
  have c8 : World.cell? (w1) ⟨w.heap.size + 1 + 1, 8, none⟩ = some _ := (Hh.out.blk 1 rfl).cell 8
  clear hs h hr H hC hV hG hok hst hzl
  have htm : kd.tmod 5 = kd % 5 := Int.tmod_eq_emod_of_nonneg k0
  obtain ⟨z, hz⟩ : ∃ z, kd % 5 = z := ⟨_, rfl⟩
  rw [hz] at htm hstk
  have hzb : 0 ≤ z ∧ z < 5 := by omega
  clear hz
  have hw8 : IntKind.u8.wrap z = z := by simp [IntKind.wrap, IntKind.signed, IntKind.bits]; omega
  by_cases z0 : z = 0
  · have g0 : (z == 0) = true := by simp [z0]
    have hse := Lib.hid (hstk.out.trans (if_pos (.inl z0)))
    clear z0
    have hMc := Lib.hid (hM.out w1 Hh.out.t hzlh.out)
    clear hM hS hGr
    go_enter Try.func9, Try.ntmps9
    go_wp2_with fail
    try rw [hw1]
    clear hw1
    go_at_call 33
    refine Calls.mono (hMc.out) ?_
    rintro e w2 ⟨v', rfl, hT, t2⟩
    obtain ⟨A', c', hv', _⟩ := hT.rt.form
    obtain ⟨L', hL'⟩ : ∃ L', (mintR start R key now C).1.length = L' := ⟨_, rfl⟩
    rw [hL'] at hv'
    subst hv'
    obtain ⟨m, hm⟩ : ∃ m, (mintR start R key now C).2 = m := ⟨_, rfl⟩
    have hme := Lib.hid (hse.out.trans (Prod.ext rfl hm : mintR start R key now C = ((mintR start R key now C).1, m)))
    rw [hm]
    have H2 := Hh.out.turns t2
    clear hL' Hh t2 t0 t1 a0 a1 a2 a3 a4 c0 c1 c2 c3 c4 c5 c6 c7 c8 hm
    have H4 := H2.alloc #[.int .i64 start, .slice A' L' c'] 24
    have z0 : World.cell? (w2.alloc (.cells #[.int .i64 start, .slice A' L' c'] 24)) ⟨w.heap.size + 1 + 1 + 1, 0, none⟩ = some _ := (H4.blk 1 rfl).cell 0
    have zf0 : World.frozen? (w2.alloc (.cells #[.int .i64 start, .slice A' L' c'] 24)) ⟨w.heap.size + 1 + 1 + 1, 0, none⟩ = false := (H4.blk 1 rfl).frozen 0
    have z1 : World.cell? (w2.alloc (.cells #[.int .i64 start, .slice A' L' c'] 24)) ⟨w.heap.size + 1 + 1 + 1, 1, none⟩ = some _ := (H4.blk 1 rfl).cell 1
    have zf1 : World.frozen? (w2.alloc (.cells #[.int .i64 start, .slice A' L' c'] 24)) ⟨w.heap.size + 1 + 1 + 1, 1, none⟩ = false := (H4.blk 1 rfl).frozen 1
    have H3 := (H4.set 1 rfl 0 (.int .i64 start)).set 1 rfl 1 (.slice A' L' c')
    have hB := H3.blk 1 rfl
    have hT2 := hT.turns ((Turns.refl [] w2).alloc (.cells #[.int .i64 start, .slice A' L' c'] 24))
    clear hMc H4
    have T3 := ((Turns.refl [w.heap.size + 1 + 1 + 1] (w2.alloc (.cells #[.int .i64 start, .slice A' L' c'] 24))).setCell (p := ⟨w.heap.size + 1 + 1 + 1, 0, none⟩) (by simp) (.int .i64 start)).setCell (p := ⟨w.heap.size + 1 + 1 + 1, 1, none⟩) (by simp) (.slice A' L' c')
    have hX := hVh.out _ (.slice A' L' c') _ m hme.out (RTS.less hT2 T3) H3.t
    clear H3 H2 T3 hVh hme hstk
    go_wp2_with fail
    refine bodyPost_ret (res_list (rs := [.cell 6 24, .tmp 7]) rfl (by simp) (.cell (w.heap.size + 1 + 1 + 1) _ _ _ rfl hB Try.underlying24 rfl (by kernel_rfl) (.tmp .nil))) rfl ?_
    exact hX
  · have g0 : (z == 0) = false := by simpa using z0
    by_cases z1 : z = 1
    · have g1 : (z == 1) = true := by simp [z1]
      have hse := Lib.hid (hstk.out.trans (if_pos (.inr z1)))
      clear z1
      have hMc := Lib.hid (hM.out w1 Hh.out.t hzlh.out)
      clear hM hS hGr
      go_enter Try.func9, Try.ntmps9
      go_wp2_with fail
      try rw [hw1]
      clear hw1
      go_at_call 33
      refine Calls.mono (hMc.out) ?_
      rintro e w2 ⟨v', rfl, hT, t2⟩
      obtain ⟨A', c', hv', _⟩ := hT.rt.form
      obtain ⟨L', hL'⟩ : ∃ L', (mintR start R key now C).1.length = L' := ⟨_, rfl⟩
      rw [hL'] at hv'
      subst hv'
      obtain ⟨m, hm⟩ : ∃ m, (mintR start R key now C).2 = m := ⟨_, rfl⟩
      have hme := Lib.hid (hse.out.trans (Prod.ext rfl hm : mintR start R key now C = ((mintR start R key now C).1, m)))
      rw [hm]
      have H2 := Hh.out.turns t2
      clear hL' Hh t2 t0 t1 a0 a1 a2 a3 a4 c0 c1 c2 c3 c4 c5 c6 c7 c8 hm
      have H4 := H2.alloc #[.int .i64 start, .slice A' L' c'] 24
      have z0 : World.cell? (w2.alloc (.cells #[.int .i64 start, .slice A' L' c'] 24)) ⟨w.heap.size + 1 + 1 + 1, 0, none⟩ = some _ := (H4.blk 1 rfl).cell 0
      have zf0 : World.frozen? (w2.alloc (.cells #[.int .i64 start, .slice A' L' c'] 24)) ⟨w.heap.size + 1 + 1 + 1, 0, none⟩ = false := (H4.blk 1 rfl).frozen 0
      have z1 : World.cell? (w2.alloc (.cells #[.int .i64 start, .slice A' L' c'] 24)) ⟨w.heap.size + 1 + 1 + 1, 1, none⟩ = some _ := (H4.blk 1 rfl).cell 1
      have zf1 : World.frozen? (w2.alloc (.cells #[.int .i64 start, .slice A' L' c'] 24)) ⟨w.heap.size + 1 + 1 + 1, 1, none⟩ = false := (H4.blk 1 rfl).frozen 1
      have H3 := (H4.set 1 rfl 0 (.int .i64 start)).set 1 rfl 1 (.slice A' L' c')
      have hB := H3.blk 1 rfl
      have hT2 := hT.turns ((Turns.refl [] w2).alloc (.cells #[.int .i64 start, .slice A' L' c'] 24))
      clear hMc H4
      have T3 := ((Turns.refl [w.heap.size + 1 + 1 + 1] (w2.alloc (.cells #[.int .i64 start, .slice A' L' c'] 24))).setCell (p := ⟨w.heap.size + 1 + 1 + 1, 0, none⟩) (by simp) (.int .i64 start)).setCell (p := ⟨w.heap.size + 1 + 1 + 1, 1, none⟩) (by simp) (.slice A' L' c')
      have hX := hVh.out _ (.slice A' L' c') _ m hme.out (RTS.less hT2 T3) H3.t
      clear H3 H2 T3 hVh hme hstk
      go_wp2_with fail
      refine bodyPost_ret (res_list (rs := [.cell 6 24, .tmp 7]) rfl (by simp) (.cell (w.heap.size + 1 + 1 + 1) _ _ _ rfl hB Try.underlying24 rfl (by kernel_rfl) (.tmp .nil))) rfl ?_
      exact hX
    · have g1 : (z == 1) = false := by simpa using z1
      by_cases z2 : z = 2
      · have g2 : (z == 2) = true := by simp [z2]
        have hse := Lib.hid ((hstk.out.trans (if_neg (by omega))).trans (if_pos z2))
        have hMc := Lib.hid (hS.out w1 Hh.out.t hzlh.out)
        clear hM hS hGr z0 z1 z2
        go_enter Try.func9, Try.ntmps9
        go_wp2_with fail
        try rw [hw1]
        clear hw1
        go_at_call 34
        refine Calls.mono (hMc.out) ?_
        rintro e w2 ⟨v', rfl, hT, t2⟩
        obtain ⟨A', c', hv', _⟩ := hT.rt.form
        obtain ⟨L', hL'⟩ : ∃ L', (settleR start R key node nn).1.length = L' := ⟨_, rfl⟩
        rw [hL'] at hv'
        subst hv'
        obtain ⟨m, hm⟩ : ∃ m, (settleR start R key node nn).2 = m := ⟨_, rfl⟩
        have hme := Lib.hid (hse.out.trans (Prod.ext rfl hm : settleR start R key node nn = ((settleR start R key node nn).1, m)))
        rw [hm]
        have H2 := Hh.out.turns t2
        clear hL' Hh t2 t0 t1 a0 a1 a2 a3 a4 c0 c1 c2 c3 c4 c5 c6 c7 c8 hm
        have z0 : World.cell? (w2) ⟨w.heap.size + 1 + 1 + 1, 0, none⟩ = some _ := (H2.blk 0 rfl).cell 0
        have zf0 : World.frozen? (w2) ⟨w.heap.size + 1 + 1 + 1, 0, none⟩ = false := (H2.blk 0 rfl).frozen 0
        have z1 : World.cell? (w2) ⟨w.heap.size + 1 + 1 + 1, 1, none⟩ = some _ := (H2.blk 0 rfl).cell 1
        have zf1 : World.frozen? (w2) ⟨w.heap.size + 1 + 1 + 1, 1, none⟩ = false := (H2.blk 0 rfl).frozen 1
        have H3 := (H2.set 0 rfl 0 (.int .i64 start)).set 0 rfl 1 (.slice A' L' c')
        have hB := H3.blk 0 rfl
        clear hMc
        have T3 := ((Turns.refl [w.heap.size + 1 + 1 + 1] w2).setCell (p := ⟨w.heap.size + 1 + 1 + 1, 0, none⟩) (by simp) (.int .i64 start)).setCell (p := ⟨w.heap.size + 1 + 1 + 1, 1, none⟩) (by simp) (.slice A' L' c')
        have hX := hVh.out _ (.slice A' L' c') _ m hme.out (RTS.less hT T3) H3.t
        clear H3 H2 T3 hVh hme hstk
        go_wp2_with fail
        refine bodyPost_ret (res_list (rs := [.cell 6 24, .tmp 7]) rfl (by simp) (.cell (w.heap.size + 1 + 1 + 1) _ _ _ rfl hB Try.underlying24 rfl (by kernel_rfl) (.tmp .nil))) rfl ?_
        exact hX
      · have g2 : (z == 2) = false := by simpa using z2
        have hse := Lib.hid ((hstk.out.trans (if_neg (by omega))).trans (if_neg z2))
        have hMc := Lib.hid (hGr.out w1 Hh.out.t hzlh.out)
        clear hM hS hGr z0 z1 z2
        go_enter Try.func9, Try.ntmps9
        go_wp2_with fail
        try rw [hw1]
        clear hw1
        go_at_call 35
        refine Calls.mono (hMc.out) ?_
        rintro e w2 ⟨v', rfl, hT, t2⟩
        obtain ⟨A', c', hv', _⟩ := hT.rt.form
        obtain ⟨L', hL'⟩ : ∃ L', (grantR start R key node nn).1.length = L' := ⟨_, rfl⟩
        rw [hL'] at hv'
        subst hv'
        obtain ⟨m, hm⟩ : ∃ m, (grantR start R key node nn).2 = m := ⟨_, rfl⟩
        have hme := Lib.hid (hse.out.trans (Prod.ext rfl hm : grantR start R key node nn = ((grantR start R key node nn).1, m)))
        rw [hm]
        have H2 := Hh.out.turns t2
        clear hL' Hh t2 t0 t1 a0 a1 a2 a3 a4 c0 c1 c2 c3 c4 c5 c6 c7 c8 hm
        have z0 : World.cell? (w2) ⟨w.heap.size + 1 + 1 + 1, 0, none⟩ = some _ := (H2.blk 0 rfl).cell 0
        have zf0 : World.frozen? (w2) ⟨w.heap.size + 1 + 1 + 1, 0, none⟩ = false := (H2.blk 0 rfl).frozen 0
        have z1 : World.cell? (w2) ⟨w.heap.size + 1 + 1 + 1, 1, none⟩ = some _ := (H2.blk 0 rfl).cell 1
        have zf1 : World.frozen? (w2) ⟨w.heap.size + 1 + 1 + 1, 1, none⟩ = false := (H2.blk 0 rfl).frozen 1
        have H3 := (H2.set 0 rfl 0 (.int .i64 start)).set 0 rfl 1 (.slice A' L' c')
        have hB := H3.blk 0 rfl
        clear hMc
        have T3 := ((Turns.refl [w.heap.size + 1 + 1 + 1] w2).setCell (p := ⟨w.heap.size + 1 + 1 + 1, 0, none⟩) (by simp) (.int .i64 start)).setCell (p := ⟨w.heap.size + 1 + 1 + 1, 1, none⟩) (by simp) (.slice A' L' c')
        have hX := hVh.out _ (.slice A' L' c') _ m hme.out (RTS.less hT T3) H3.t
        clear H3 H2 T3 hVh hme hstk
        go_wp2_with fail
        refine bodyPost_ret (res_list (rs := [.cell 6 24, .tmp 7]) rfl (by simp) (.cell (w.heap.size + 1 + 1 + 1) _ _ _ rfl hB Try.underlying24 rfl (by kernel_rfl) (.tmp .nil))) rfl ?_
        exact hX
end Go.Proofs.Ytphhfdlhkginkaa.Ja
