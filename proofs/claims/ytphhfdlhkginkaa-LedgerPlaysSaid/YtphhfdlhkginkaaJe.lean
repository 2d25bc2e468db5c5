/- LedgerPlays: the law's walk. -/
import Derived.Test.YtphhfdlhkginkaaJd
set_option linter.unusedVariables false
set_option linter.unusedSimpArgs false
set_option maxRecDepth 100000
namespace Go.Proofs.Ytphhfdlhkginkaa.Je
open Go.RowKit Go.MapKept Hm Hs Hr Hb Hf Hg Hx Hy Hv Hz Hu Fa Fb Ff Fg Fq Ba Bb Bc Bd Be Bf Bg Bh Bi Bj Bk Bl Bm Bq Br Bt Bv Bw Bx By Cf Cn Sm Sat Ca Cb Cc Bn Ja Jb Jc Jd
structure ACells (w : World) (ad : Addr) (m : Nat) (x : Ja.Act) : Prop where
  a0 : w.cell? (ad.add m) = some (.int .u8 x.kd)
  a1 : w.cell? ⟨(ad.add m).block, (ad.add m).off + 1, none⟩ = some (.int .i64 x.key)
  a2 : w.cell? ⟨(ad.add m).block, (ad.add m).off + 2, none⟩ = some (.int .i64 x.now)
  a3 : w.cell? ⟨(ad.add m).block, (ad.add m).off + 3, none⟩ = some (.int .i64 x.node)
  a4 : w.cell? ⟨(ad.add m).block, (ad.add m).off + 4, none⟩ = some (.int .i64 x.n)
theorem ACells.turns {w w' : World} {ad : Addr} {m : Nat} {x : Ja.Act} (h : ACells w ad m x) (t : Turns [] w w') : ACells w' ad m x := ⟨t.old h.a0, t.old h.a1, t.old h.a2, t.old h.a3, t.old h.a4⟩
theorem acells_at {w : World} {v : Value} {l : List Ja.Act} {j : Nat} {x : Ja.Act} (h : RdS 5 w v (l.map Ja.Act.cells)) (hj : l[j]? = some x) : ∃ ad c, v = .slice (some ad) l.length c ∧ ACells w ad (j * 5) x := by
  obtain ⟨ad, c, hv, _, hc⟩ := h.at_ (j := j) (r := Ja.Act.cells x) (by rw [List.getElem?_map, hj]; rfl)
  rw [List.length_map] at hv
  have c0 := hc 0 _ rfl
  have c1 := hc 1 _ rfl
  have c2 := hc 2 _ rfl
  have c3 := hc 3 _ rfl
  have c4 := hc 4 _ rfl
  rw [Nat.add_zero] at c0
  rw [add_field _ _ _ (by omega)] at c1 c2 c3 c4
  exact ⟨ad, c, hv, ⟨c0, c1, c2, c3, c4⟩⟩
/-- the first rate's cells -/
theorem rate0 {w : World} {c : Cfg} {A : Option Addr} {cr : Nat} (hrv : c.rv = .slice A c.rates.length cr) (hr : RdS 2 w c.rv (rts c.rates)) (hl : 1 ≤ c.rates.length) : ∃ ad q, A = some ad ∧ c.rates[0]? = some q ∧ w.cell? ad = some (.int .i64 q.1) ∧ w.cell? ⟨ad.block, ad.off + 1, none⟩ = some (.int .i64 q.2) := by
  obtain ⟨q, hq⟩ : ∃ q, c.rates[0]? = some q := ⟨_, List.getElem?_eq_getElem (by omega)⟩
  obtain ⟨ad, c', hv, LX⟩ := Bp.rts_at hr hq
  rw [hrv] at hv
  injection hv with e1
  have e2 : ad.add (0 * 2) = ad := He.add0 ad
  obtain ⟨x0, x1⟩ := LX
  rw [e2] at x0 x1
  exact ⟨ad, q, e1, hq, x0, x1⟩
set_option maxHeartbeats 16000000 in
theorem plays_is (w : World) (start : Int) (v : Value) (R : List Row) (c : Cfg) (lv : Value) (l : List Ja.Act) (h : RT w v R) (hr : RdS 2 w c.rv (rts c.rates)) (hl : RdS 5 w lv (l.map Ja.Act.cells)) (hf : ∀ a ∈ l, a.Fit) : Calls Try.prog 3 #[.agg #[.int .i64 start, v], c.v, lv] w fun e w' => e = .returned (.bool true) ∧ Turns [] w w' := by
  obtain ⟨A, cc, rfl, hlc, hcm⟩ := h.form
  obtain ⟨Al, cl, rfl, hll, hlm⟩ := hl.form
  rw [List.length_map] at hll hl ⊢
  have hFt := Lib.hid (fun W (t : Turns [] w W) => Jb.fits_is W start (.slice A R.length cc) R c (h.turns t) (hr.mv (fun a u => t.old)))
  have hfo := Lib.hid (fun h => fit_ok (start := start) (R := R) (c := c) h)
  have hSt := Lib.hid (fun (G : List Nat) W v R a (t : Turns [] w W) hs hG hok hfit => step_is G W start v R a c hs hG hok (hr.mv (fun a u => t.old)) hfit)
  have hWt := Lib.hid (fun (G : List Nat) W v R a (t : Turns [] w W) hs hG hok hfit => want_is G W start v R a c hs hG hok (hr.mv (fun a u => t.old)) hfit)
  obtain ⟨Ar, cr, hrv, hlr, hcr⟩ := hr.form
  rw [rts_len] at hrv hlr
  have hr0 := Lib.hid (fun hl => rate0 hrv hr hl)
  have hkk := Lib.hid (fun R a (hok : Ok R) (hc : (cfg c).keys ≤ 16) => Ja.step_ok (start := start) (a := a) hok hc)
  have hck : (cfg c).keys = c.keys := rfl
  obtain ⟨n, skew, ttl, valid, loss, hear, keys, queue, rv, rates⟩ := c
  simp only at hrv hlr hr hr0 hck
  subst hrv
  obtain ⟨C, hC⟩ : ∃ C : Ba.Cf, C = cfg ⟨n, skew, ttl, valid, loss, hear, keys, queue, .slice Ar rates.length cr, rates⟩ := ⟨_, rfl⟩
  rw [← hC] at hSt hWt hkk hck
  unfold Cfg.v at hFt hSt hWt ⊢
  simp only at hFt hSt hWt ⊢
  have H := ((Sep.start w).alloc #[.int .i64 start, .slice A R.length cc] 24).alloc #[.int .i64 n, .int .i64 skew, .int .i64 ttl, .int .i64 valid, .int .i64 loss, .int .i64 hear, .int .i64 keys, .int .i64 queue, .slice Ar rates.length cr] 27
  rw [World.size_alloc] at H
  have Hh := Lib.hid H
  have hh := Lib.hid h
  have hlh := Lib.hid hl
  have hfh := Lib.hid hf
  have hckh := Lib.hid hck
  clear h hr H hl hf hC hck
  have t0 : World.cell? ((w.alloc (.cells #[.int .i64 start, .slice A R.length cc] 24)).alloc (.cells #[.int .i64 n, .int .i64 skew, .int .i64 ttl, .int .i64 valid, .int .i64 loss, .int .i64 hear, .int .i64 keys, .int .i64 queue, .slice Ar rates.length cr] 27)) ⟨w.heap.size, 0, none⟩ = some _ := (Hh.out.blk 1 rfl).cell 0
  have t1 : World.cell? ((w.alloc (.cells #[.int .i64 start, .slice A R.length cc] 24)).alloc (.cells #[.int .i64 n, .int .i64 skew, .int .i64 ttl, .int .i64 valid, .int .i64 loss, .int .i64 hear, .int .i64 keys, .int .i64 queue, .slice Ar rates.length cr] 27)) ⟨w.heap.size, 1, none⟩ = some _ := (Hh.out.blk 1 rfl).cell 1
  go_enter Try.func3, Try.ntmps3
  go_wp2_with fail
  go_at_call 6
  refine Calls.mono (hFt.out _ Hh.out.t) ?_
  rintro e w1 ⟨rfl, t1⟩
  have H1 := Lib.hid (Hh.out.turns t1)
  clear t0 t1 hFt Hh
  cases hfb : fitB start R ⟨n, skew, ttl, valid, loss, hear, keys, queue, .slice Ar rates.length cr, rates⟩ with
  | false =>
    clear hfo
    go_wp2_with fail
    go_at_call 7
    refine Calls.mono (alive_is _) ?_
    rintro e w2 ⟨rfl, t2⟩
    go_wp2_with fail
    go_ret
    exact ⟨rfl, H1.out.t.trans t2⟩
  | true =>
    obtain ⟨hok, hkeys, hrl, hsk0, hsk1, hgood⟩ := hfo.out hfb
    try simp only at hkeys hrl hsk0 hsk1 hgood
    by_cases h60 : (l.length : Int) > 60
    · have g1 := decide_eq_true h60
      clear h60 hfo
      go_wp2_with fail
      go_at_call 7
      refine Calls.mono (alive_is _) ?_
      rintro e w2 ⟨rfl, t2⟩
      go_wp2_with fail
      go_ret
      exact ⟨rfl, H1.out.t.trans t2⟩
    · have g1 := decide_eq_false h60
      obtain ⟨adr, q, hAr, hq, q0, q1⟩ := hr0.out hrl.1
      subst hAr
      have q0h := Lib.hid q0
      have q1h := Lib.hid q1
      have hokh := Lib.hid hok
      have hk16 := Lib.hid (show C.keys ≤ 16 by rw [hckh.out]; exact hkeys.2)
      have hRS0 : RTS [w.heap.size] w1 (.slice A R.length cc) R := RTS.of hh.out H1.out.t (by intro k hk; rw [List.mem_singleton.1 hk]; exact Nat.le_refl _)
      have hRS0h := Lib.hid hRS0
      clear h60 hfo hok hkeys hsk0 hsk1 hgood hr0 hq q0 q1 hfb hckh hRS0
      go_wp2_with fail
      go_loopw [8] (fun v8 wr => ∃ (k : Nat) (R : List Row) (A : Option Addr) (cc : Nat), k ≤ l.length ∧ v8 = .int .i64 k ∧ Ok R ∧ RTS [w.heap.size] wr (.slice A R.length cc) R ∧ Sep [] w [tBlk (w.heap.size + 1) #[.int .i64 n, .int .i64 skew, .int .i64 ttl, .int .i64 valid, .int .i64 loss, .int .i64 hear, .int .i64 keys, .int .i64 queue, .slice (some adr) rates.length cr] 27, tBlk w.heap.size #[.int .i64 start, .slice A R.length cc] 24] wr) (fun v8 _ => l.length - (RowKit.intOf v8).toNat)
      case atStart => exact ⟨0, R, A, cc, by omega, rfl, hokh.out, hRS0h.out, H1.out⟩
      case round =>
        clear H1 hRS0h hokh hh hlc hcm
        obtain ⟨k, R, A, cc, hk, rfl, hok, hRS, H⟩ := hrel
        by_cases hlt : k < l.length
        · have g2 : decide ((k : Int) < (l.length : Int)) = true := decide_eq_true (by omega)
          have g2b : decide (k < l.length) = true := decide_eq_true hlt
          obtain ⟨a, ha⟩ : ∃ a, l[k]? = some a := ⟨_, List.getElem?_eq_getElem hlt⟩
          have hfit := Lib.hid (hfh.out a (List.mem_of_getElem? ha))
          obtain ⟨ad, c', hv, LX⟩ := acells_at hlh.out ha
          injection hv with e1 e2 e3
          subst e1 e3
          obtain ⟨x0, x1, x2, x3, x4⟩ := LX.turns H.t
          have H0 := H.alloc a.cells.toArray 32
          have hR0 := hRS.turns ((Turns.refl [] wr).alloc (.cells a.cells.toArray 32))
          have S1 := hSt.out [w.heap.size] _ _ R a H0.t hR0 (by intro k hk; rw [List.mem_singleton.1 hk]; exact Blk.lt (H0.blk 2 rfl)) hok hfit.out
          have hok2 := Lib.hid (hkk.out R a hok hk16.out)
          obtain ⟨R', hR'⟩ : ∃ R', (stepR start R a C).1 = R' := ⟨_, rfl⟩
          obtain ⟨m, hm⟩ : ∃ m, (stepR start R a C).2 = m := ⟨_, rfl⟩
          have hokh := Lib.hid hok
          rw [hR', hm] at S1
          rw [hR'] at hok2
          have hRSh := Lib.hid hRS
          have W3 := Lib.hid (fun W (t : Turns [] w W) hs hG => hWt.out [w.heap.size] W (.slice A R.length cc) R a t hs hG hok hfit.out)
          have S2 := Lib.hid (fun W (t : Turns [] w W) hs hG => hSt.out [w.heap.size] W (.slice A R.length cc) R a t hs hG hok hfit.out)
          rw [hR', hm] at W3 S2
          have hn0 := hfit.out.n0
          have hn1 := hfit.out.n1
          obtain ⟨kd, key, now, node, nn⟩ := a
          simp only [Ja.Act.v, Ja.Act.cells] at S1 S2 W3 H0 hR0 x0 x1 x2 x3 x4 hn0 hn1
          have S1h := Lib.hid S1
          have hR0h := Lib.hid hR0
          have H0h := Lib.hid H0
          have c0 : World.cell? (wr.alloc (.cells #[.int .u8 kd, .int .i64 key, .int .i64 now, .int .i64 node, .int .i64 nn] 32)) ⟨w.heap.size + 1, 0, none⟩ = some _ := (H0.blk 1 rfl).cell 0
          have c1 : World.cell? (wr.alloc (.cells #[.int .u8 kd, .int .i64 key, .int .i64 now, .int .i64 node, .int .i64 nn] 32)) ⟨w.heap.size + 1, 1, none⟩ = some _ := (H0.blk 1 rfl).cell 1
          have c2 : World.cell? (wr.alloc (.cells #[.int .u8 kd, .int .i64 key, .int .i64 now, .int .i64 node, .int .i64 nn] 32)) ⟨w.heap.size + 1, 2, none⟩ = some _ := (H0.blk 1 rfl).cell 2
          have c3 : World.cell? (wr.alloc (.cells #[.int .u8 kd, .int .i64 key, .int .i64 now, .int .i64 node, .int .i64 nn] 32)) ⟨w.heap.size + 1, 3, none⟩ = some _ := (H0.blk 1 rfl).cell 3
          have c4 : World.cell? (wr.alloc (.cells #[.int .u8 kd, .int .i64 key, .int .i64 now, .int .i64 node, .int .i64 nn] 32)) ⟨w.heap.size + 1, 4, none⟩ = some _ := (H0.blk 1 rfl).cell 4
          have c5 : World.cell? (wr.alloc (.cells #[.int .u8 kd, .int .i64 key, .int .i64 now, .int .i64 node, .int .i64 nn] 32)) ⟨w.heap.size + 1, 5, none⟩ = some _ := (H0.blk 1 rfl).cell 5
          have c6 : World.cell? (wr.alloc (.cells #[.int .u8 kd, .int .i64 key, .int .i64 now, .int .i64 node, .int .i64 nn] 32)) ⟨w.heap.size + 1, 6, none⟩ = some _ := (H0.blk 1 rfl).cell 6
          have c7 : World.cell? (wr.alloc (.cells #[.int .u8 kd, .int .i64 key, .int .i64 now, .int .i64 node, .int .i64 nn] 32)) ⟨w.heap.size + 1, 7, none⟩ = some _ := (H0.blk 1 rfl).cell 7
          have c8 : World.cell? (wr.alloc (.cells #[.int .u8 kd, .int .i64 key, .int .i64 now, .int .i64 node, .int .i64 nn] 32)) ⟨w.heap.size + 1, 8, none⟩ = some _ := (H0.blk 1 rfl).cell 8
          have t0 : World.cell? (wr.alloc (.cells #[.int .u8 kd, .int .i64 key, .int .i64 now, .int .i64 node, .int .i64 nn] 32)) ⟨w.heap.size, 0, none⟩ = some _ := (H0.blk 2 rfl).cell 0
          have t1 : World.cell? (wr.alloc (.cells #[.int .u8 kd, .int .i64 key, .int .i64 now, .int .i64 node, .int .i64 nn] 32)) ⟨w.heap.size, 1, none⟩ = some _ := (H0.blk 2 rfl).cell 1
          clear ha e2 LX H0 hR0 S1 hR' hm hok hRS H
          go_wp2_with fail
          go_at_call 8
          refine Calls.mono (S1h.out) ?_
          rintro e w1 ⟨v1, rfl, r1, t1_⟩
          clear c0 c1 c2 c3 c4 c5 c6 c7 c8 t0 t1 x0 x1 x2 x3 x4
          obtain ⟨A1, d1, hv1, _⟩ := r1.rt.form
          subst hv1
          generalize hb9 : wr.heap.size = b9 at *
          have H1 := Lib.hid ((H0h.out.turns t1_).alloc #[.int .i64 start, .slice A1 R'.length d1] 24)
          have q1 := Lib.hid (r1.turns ((Turns.refl [] w1).alloc (.cells #[.int .i64 start, .slice A1 R'.length d1] 24)))
          have hRa := Lib.hid ((hR0h.out.turns t1_).turns ((Turns.refl [] w1).alloc (.cells #[.int .i64 start, .slice A1 R'.length d1] 24)))
          clear r1 t1_ H0h hR0h S1h
          have a0 : World.cell? ((w1.alloc (.cells #[.int .i64 start, .slice A1 R'.length d1] 24))) ⟨b9, 0, none⟩ = some _ := (H1.out.blk 1 rfl).cell 0
          have a1 : World.cell? ((w1.alloc (.cells #[.int .i64 start, .slice A1 R'.length d1] 24))) ⟨b9, 1, none⟩ = some _ := (H1.out.blk 1 rfl).cell 1
          have a2 : World.cell? ((w1.alloc (.cells #[.int .i64 start, .slice A1 R'.length d1] 24))) ⟨b9, 2, none⟩ = some _ := (H1.out.blk 1 rfl).cell 2
          have a3 : World.cell? ((w1.alloc (.cells #[.int .i64 start, .slice A1 R'.length d1] 24))) ⟨b9, 3, none⟩ = some _ := (H1.out.blk 1 rfl).cell 3
          have a4 : World.cell? ((w1.alloc (.cells #[.int .i64 start, .slice A1 R'.length d1] 24))) ⟨b9, 4, none⟩ = some _ := (H1.out.blk 1 rfl).cell 4
          have c0 : World.cell? ((w1.alloc (.cells #[.int .i64 start, .slice A1 R'.length d1] 24))) ⟨w.heap.size + 1, 0, none⟩ = some _ := (H1.out.blk 2 rfl).cell 0
          have c1 : World.cell? ((w1.alloc (.cells #[.int .i64 start, .slice A1 R'.length d1] 24))) ⟨w.heap.size + 1, 1, none⟩ = some _ := (H1.out.blk 2 rfl).cell 1
          have c2 : World.cell? ((w1.alloc (.cells #[.int .i64 start, .slice A1 R'.length d1] 24))) ⟨w.heap.size + 1, 2, none⟩ = some _ := (H1.out.blk 2 rfl).cell 2
          have c3 : World.cell? ((w1.alloc (.cells #[.int .i64 start, .slice A1 R'.length d1] 24))) ⟨w.heap.size + 1, 3, none⟩ = some _ := (H1.out.blk 2 rfl).cell 3
          have c4 : World.cell? ((w1.alloc (.cells #[.int .i64 start, .slice A1 R'.length d1] 24))) ⟨w.heap.size + 1, 4, none⟩ = some _ := (H1.out.blk 2 rfl).cell 4
          have c5 : World.cell? ((w1.alloc (.cells #[.int .i64 start, .slice A1 R'.length d1] 24))) ⟨w.heap.size + 1, 5, none⟩ = some _ := (H1.out.blk 2 rfl).cell 5
          have c6 : World.cell? ((w1.alloc (.cells #[.int .i64 start, .slice A1 R'.length d1] 24))) ⟨w.heap.size + 1, 6, none⟩ = some _ := (H1.out.blk 2 rfl).cell 6
          have c7 : World.cell? ((w1.alloc (.cells #[.int .i64 start, .slice A1 R'.length d1] 24))) ⟨w.heap.size + 1, 7, none⟩ = some _ := (H1.out.blk 2 rfl).cell 7
          have c8 : World.cell? ((w1.alloc (.cells #[.int .i64 start, .slice A1 R'.length d1] 24))) ⟨w.heap.size + 1, 8, none⟩ = some _ := (H1.out.blk 2 rfl).cell 8
          have t0 : World.cell? ((w1.alloc (.cells #[.int .i64 start, .slice A1 R'.length d1] 24))) ⟨w.heap.size, 0, none⟩ = some _ := (H1.out.blk 3 rfl).cell 0
          have t1 : World.cell? ((w1.alloc (.cells #[.int .i64 start, .slice A1 R'.length d1] 24))) ⟨w.heap.size, 1, none⟩ = some _ := (H1.out.blk 3 rfl).cell 1
          have S2c := Lib.hid (S2.out _ H1.out.t hRa.out (by intro k hk; rw [List.mem_singleton.1 hk]; exact Blk.lt (H1.out.blk 3 rfl)))
          clear S2
          go_wp2_with fail
          go_at_call 8
          refine Calls.mono (S2c.out) ?_
          rintro e w2 ⟨v2, rfl, r2, t2_⟩
          obtain ⟨A2, d2, hv2, _⟩ := r2.rt.form
          subst hv2
          generalize hp1 : w1.heap.size = p1 at *
          have H2 := Lib.hid ((H1.out.turns t2_).alloc #[.int .i64 start, .slice A2 R'.length d2] 24)
          have TT2 := t2_.alloc (.cells #[.int .i64 start, .slice A2 R'.length d2] 24)
          have q1b := Lib.hid (q1.out.turns TT2)
          have q2 := Lib.hid (r2.turns ((Turns.refl [] w2).alloc (.cells #[.int .i64 start, .slice A2 R'.length d2] 24)))
          have hRb := Lib.hid (hRa.out.turns TT2)
          clear r2 t2_ TT2 H1 q1 hRa S2c a0 a1 a2 a3 a4 c0 c1 c2 c3 c4 c5 c6 c7 c8 t0 t1
          have a0 : World.cell? ((w2.alloc (.cells #[.int .i64 start, .slice A2 R'.length d2] 24))) ⟨b9, 0, none⟩ = some _ := (H2.out.blk 2 rfl).cell 0
          have a1 : World.cell? ((w2.alloc (.cells #[.int .i64 start, .slice A2 R'.length d2] 24))) ⟨b9, 1, none⟩ = some _ := (H2.out.blk 2 rfl).cell 1
          have a2 : World.cell? ((w2.alloc (.cells #[.int .i64 start, .slice A2 R'.length d2] 24))) ⟨b9, 2, none⟩ = some _ := (H2.out.blk 2 rfl).cell 2
          have a3 : World.cell? ((w2.alloc (.cells #[.int .i64 start, .slice A2 R'.length d2] 24))) ⟨b9, 3, none⟩ = some _ := (H2.out.blk 2 rfl).cell 3
          have a4 : World.cell? ((w2.alloc (.cells #[.int .i64 start, .slice A2 R'.length d2] 24))) ⟨b9, 4, none⟩ = some _ := (H2.out.blk 2 rfl).cell 4
          have c0 : World.cell? ((w2.alloc (.cells #[.int .i64 start, .slice A2 R'.length d2] 24))) ⟨w.heap.size + 1, 0, none⟩ = some _ := (H2.out.blk 3 rfl).cell 0
          have c1 : World.cell? ((w2.alloc (.cells #[.int .i64 start, .slice A2 R'.length d2] 24))) ⟨w.heap.size + 1, 1, none⟩ = some _ := (H2.out.blk 3 rfl).cell 1
          have c2 : World.cell? ((w2.alloc (.cells #[.int .i64 start, .slice A2 R'.length d2] 24))) ⟨w.heap.size + 1, 2, none⟩ = some _ := (H2.out.blk 3 rfl).cell 2
          have c3 : World.cell? ((w2.alloc (.cells #[.int .i64 start, .slice A2 R'.length d2] 24))) ⟨w.heap.size + 1, 3, none⟩ = some _ := (H2.out.blk 3 rfl).cell 3
          have c4 : World.cell? ((w2.alloc (.cells #[.int .i64 start, .slice A2 R'.length d2] 24))) ⟨w.heap.size + 1, 4, none⟩ = some _ := (H2.out.blk 3 rfl).cell 4
          have c5 : World.cell? ((w2.alloc (.cells #[.int .i64 start, .slice A2 R'.length d2] 24))) ⟨w.heap.size + 1, 5, none⟩ = some _ := (H2.out.blk 3 rfl).cell 5
          have c6 : World.cell? ((w2.alloc (.cells #[.int .i64 start, .slice A2 R'.length d2] 24))) ⟨w.heap.size + 1, 6, none⟩ = some _ := (H2.out.blk 3 rfl).cell 6
          have c7 : World.cell? ((w2.alloc (.cells #[.int .i64 start, .slice A2 R'.length d2] 24))) ⟨w.heap.size + 1, 7, none⟩ = some _ := (H2.out.blk 3 rfl).cell 7
          have c8 : World.cell? ((w2.alloc (.cells #[.int .i64 start, .slice A2 R'.length d2] 24))) ⟨w.heap.size + 1, 8, none⟩ = some _ := (H2.out.blk 3 rfl).cell 8
          have t0 : World.cell? ((w2.alloc (.cells #[.int .i64 start, .slice A2 R'.length d2] 24))) ⟨w.heap.size, 0, none⟩ = some _ := (H2.out.blk 4 rfl).cell 0
          have t1 : World.cell? ((w2.alloc (.cells #[.int .i64 start, .slice A2 R'.length d2] 24))) ⟨w.heap.size, 1, none⟩ = some _ := (H2.out.blk 4 rfl).cell 1
          have W3c := Lib.hid (W3.out _ H2.out.t hRb.out (by intro k hk; rw [List.mem_singleton.1 hk]; exact Blk.lt (H2.out.blk 4 rfl)))
          clear W3
          go_wp2_with fail
          go_at_call 9
          refine Calls.mono (W3c.out) ?_
          rintro e w3 ⟨v3, rfl, r3, t3_⟩
          obtain ⟨A3, d3, hv3, _⟩ := r3.rt.form
          subst hv3
          generalize hp2 : w2.heap.size = p2 at *
          have H3 := Lib.hid ((H2.out.turns t3_).alloc #[.int .i64 start, .slice A3 R'.length d3] 24)
          have TT3 := t3_.alloc (.cells #[.int .i64 start, .slice A3 R'.length d3] 24)
          have q1c := Lib.hid (q1b.out.turns TT3)
          have q2c := Lib.hid (q2.out.turns TT3)
          have q3 := Lib.hid (r3.turns ((Turns.refl [] w3).alloc (.cells #[.int .i64 start, .slice A3 R'.length d3] 24)))
          clear r3 t3_ TT3 H2 q1b q2 hRb W3c a0 a1 a2 a3 a4 c0 c1 c2 c3 c4 c5 c6 c7 c8 t0 t1
          have x0 : World.cell? ((w3.alloc (.cells #[.int .i64 start, .slice A3 R'.length d3] 24))) ⟨p1, 0, none⟩ = some _ := (H3.out.blk 2 rfl).cell 0
          have x1 : World.cell? ((w3.alloc (.cells #[.int .i64 start, .slice A3 R'.length d3] 24))) ⟨p1, 1, none⟩ = some _ := (H3.out.blk 2 rfl).cell 1
          have E1 := Fh.rsameTable_is _ start start _ _ R' R' q1c.out.rt q3.out.rt
          have e1 : sameTB start start R' R' = true := by unfold sameTB; simp
          rw [e1] at E1
          have E1h := Lib.hid E1
          have E2h := Lib.hid (fun W (t : Turns [] (w3.alloc (.cells #[.int .i64 start, .slice A3 R'.length d3] 24)) W) => (show Calls _ _ _ W (fun e w' => e = .returned (.bool true) ∧ Turns [] W w') by
            have := Fh.rsameTable_is W start start _ _ R' R' (q2c.out.turns t).rt (q3.out.turns t).rt
            rwa [e1] at this))
          clear E1 e1
          go_wp2_with fail
          go_at_call 10
          refine Calls.mono (E1h.out) ?_
          rintro e w4 ⟨rfl, t4⟩
          generalize hp3 : w3.heap.size = p3 at *
          have H4 := Lib.hid (H3.out.turns t4)
          clear x0 x1 E1h
          have x0 : World.cell? (w4) ⟨p2, 0, none⟩ = some _ := (H4.out.blk 1 rfl).cell 0
          have x1 : World.cell? (w4) ⟨p2, 1, none⟩ = some _ := (H4.out.blk 1 rfl).cell 1
          have y0 : World.cell? (w4) ⟨p3, 0, none⟩ = some _ := (H4.out.blk 0 rfl).cell 0
          have y1 : World.cell? (w4) ⟨p3, 1, none⟩ = some _ := (H4.out.blk 0 rfl).cell 1
          go_wp2_with fail
          go_at_call 10
          refine Calls.mono (E2h.out _ t4) ?_
          rintro e w5 ⟨rfl, t5⟩
          have T35 := t4.trans t5
          have H5 := Lib.hid (H3.out.turns T35)
          have q1d := Lib.hid (q1c.out.turns T35)
          have q3d := Lib.hid (q3.out.turns T35)
          clear H3 H4 x0 x1 y0 y1 q1c q2c q3 E2h t4 t5 T35
          have x0 : World.cell? (w5) ⟨p1, 0, none⟩ = some _ := (H5.out.blk 2 rfl).cell 0
          have x1 : World.cell? (w5) ⟨p1, 1, none⟩ = some _ := (H5.out.blk 2 rfl).cell 1
          have a1 : World.cell? (w5) ⟨b9, 1, none⟩ = some _ := (H5.out.blk 3 rfl).cell 1
          have F1 := Lib.hid (find_is [w.heap.size] w5 w5 start key (.slice A1 R'.length d1) R' q1d.out (Turns.refl _ _))
          go_wp2_with fail
          go_at_call 11
          refine Calls.mono (F1.out) ?_
          rintro e w6 ⟨x, rfl, hx, t6⟩
          have hro := Lib.hid (rwAt_ok (start := start) hok2.out key)
          obtain ⟨r, hr⟩ : ∃ r, rwAt start R' key = r := ⟨_, rfl⟩
          rw [hr] at hx hro
          obtain ⟨Ax, dx, rfl, hox⟩ := row_form hx.row
          simp only [Rw.v]
          obtain ⟨ib, hib⟩ : ∃ ib, isAt R' key = ib := ⟨_, rfl⟩
          rw [hib]
          have H6 := Lib.hid ((H5.out.turns t6).alloc #[.int .i64 r.key, .int .i64 r.avail, .int .i64 r.mark, .slice Ax r.out.length dx] 38)
          have TT6 := t6.alloc (.cells #[.int .i64 r.key, .int .i64 r.avail, .int .i64 r.mark, .slice Ax r.out.length dx] 38)
          have q1e := Lib.hid (q1d.out.turns TT6)
          have q3e := Lib.hid (q3d.out.turns TT6)
          have hx6 := Lib.hid (hx.turns TT6)
          clear F1 H5 q1d q3d t6 TT6 hx hox x0 x1 a1
          have y0 : World.cell? ((w6.alloc (.cells #[.int .i64 r.key, .int .i64 r.avail, .int .i64 r.mark, .slice Ax r.out.length dx] 38))) ⟨p3, 0, none⟩ = some _ := (H6.out.blk 1 rfl).cell 0
          have y1 : World.cell? ((w6.alloc (.cells #[.int .i64 r.key, .int .i64 r.avail, .int .i64 r.mark, .slice Ax r.out.length dx] 38))) ⟨p3, 1, none⟩ = some _ := (H6.out.blk 1 rfl).cell 1
          have a1 : World.cell? ((w6.alloc (.cells #[.int .i64 r.key, .int .i64 r.avail, .int .i64 r.mark, .slice Ax r.out.length dx] 38))) ⟨b9, 1, none⟩ = some _ := (H6.out.blk 4 rfl).cell 1
          have F2 := rfind_is [w.heap.size] _ _ start key (.slice A3 R'.length d3) R' q3e.out (Turns.refl _ _) hok2.out.rise
          rw [hr, hib] at F2
          have F2h := Lib.hid F2
          clear F2
          go_wp2_with fail
          go_at_call 12
          refine Calls.mono (F2h.out) ?_
          rintro e w7 ⟨y, rfl, hy, t7⟩
          obtain ⟨Ay, dy, rfl, hoy⟩ := row_form hy.row
          simp only [Rw.v]
          generalize hp6 : w6.heap.size = p6 at *
          have H7 := Lib.hid ((H6.out.turns t7).alloc #[.int .i64 r.key, .int .i64 r.avail, .int .i64 r.mark, .slice Ay r.out.length dy] 38)
          have TT7 := t7.alloc (.cells #[.int .i64 r.key, .int .i64 r.avail, .int .i64 r.mark, .slice Ay r.out.length dy] 38)
          have q1f := Lib.hid (q1e.out.turns TT7)
          have q3f := Lib.hid (q3e.out.turns TT7)
          have hx7 := Lib.hid (hx6.out.turns TT7)
          have hy7 := Lib.hid (hy.turns TT7)
          clear F2h H6 q1e q3e t7 TT7 hx6 hy hoy y0 y1 a1
          have x0 : World.cell? ((w7.alloc (.cells #[.int .i64 r.key, .int .i64 r.avail, .int .i64 r.mark, .slice Ay r.out.length dy] 38))) ⟨p6, 0, none⟩ = some _ := (H7.out.blk 1 rfl).cell 0
          have x1 : World.cell? ((w7.alloc (.cells #[.int .i64 r.key, .int .i64 r.avail, .int .i64 r.mark, .slice Ay r.out.length dy] 38))) ⟨p6, 1, none⟩ = some _ := (H7.out.blk 1 rfl).cell 1
          have x2 : World.cell? ((w7.alloc (.cells #[.int .i64 r.key, .int .i64 r.avail, .int .i64 r.mark, .slice Ay r.out.length dy] 38))) ⟨p6, 2, none⟩ = some _ := (H7.out.blk 1 rfl).cell 2
          have x3 : World.cell? ((w7.alloc (.cells #[.int .i64 r.key, .int .i64 r.avail, .int .i64 r.mark, .slice Ay r.out.length dy] 38))) ⟨p6, 3, none⟩ = some _ := (H7.out.blk 1 rfl).cell 3
          have SR := Jb.sameRow_is _ _ _ r r hx7.out.row hy7.out.row
          rw [decide_eq_true (rfl : r = r)] at SR
          simp only [Rw.v] at SR
          have SRh := Lib.hid SR
          clear SR
          go_wp2_with fail
          go_at_call 13
          refine Calls.mono (SRh.out) ?_
          rintro e w8 ⟨rfl, t8⟩
          generalize hp7 : w7.heap.size = p7 at *
          have H8 := Lib.hid ((H7.out.turns t8).drew)
          have TT8 := t8.drew
          have q1g := Lib.hid (q1f.out.turns TT8)
          have q3g := Lib.hid (q3f.out.turns TT8)
          have hx8 := Lib.hid (hx7.out.turns TT8)
          have hy8 := Lib.hid (hy7.out.turns TT8)
          clear SRh H7 q1f q3f t8 TT8 hx7 hy7 x0 x1 x2 x3
          go_wp2_with fail
          have hrp : 0 < rates.length := hrl.1
          go_wp2_with fail
          refine wp_region_flo [(0, true), (1, true), (2, true), (3, true), (4, true), (5, true), (6, true), (7, true), (8, true), (10, true), (11, true), (12, true), (13, true), (14, true), (15, true), (16, true), (17, true), (18, true), (9, false), (19, false), (20, false), (21, true)] (fun W => Turns [] w8.drew W) (by kernel_rfl) rfl (by kernel_rfl) (by intro c d v a w h; cases d <;> first | (simpa [Exit.then, Exit.inBlock, Act.put] using h) | exact h) (Turns.refl _ _) ?_
          generalize w8.drew = w9 at *
          have x0 : World.cell? (w9) ⟨p1, 0, none⟩ = some _ := (H8.out.blk 4 rfl).cell 0
          have x1 : World.cell? (w9) ⟨p1, 1, none⟩ = some _ := (H8.out.blk 4 rfl).cell 1
          have y0 : World.cell? (w9) ⟨p3, 0, none⟩ = some _ := (H8.out.blk 2 rfl).cell 0
          have y1 : World.cell? (w9) ⟨p3, 1, none⟩ = some _ := (H8.out.blk 2 rfl).cell 1
          have a1 : World.cell? (w9) ⟨b9, 1, none⟩ = some _ := (H8.out.blk 5 rfl).cell 1
          have a2 : World.cell? (w9) ⟨b9, 2, none⟩ = some _ := (H8.out.blk 5 rfl).cell 2
          have c8 : World.cell? (w9) ⟨w.heap.size + 1, 8, none⟩ = some _ := (H8.out.blk 6 rfl).cell 8
          have u0 := H8.out.t.old q0h.out
          have u1 := H8.out.t.old q1h.out
          refine flo_read _ rfl (fun K hK => ?_)
          go_simp
          first | (refine hK _ ?_) | (refine ⟨fun W hS => ?_, hK _ ?_⟩; · (have X0 := hS.old x0; have X1 := hS.old x1; have Y0 := hS.old y0; have Y1 := hS.old y1; have A1 := hS.old a1; have A2 := hS.old a2; have C8 := hS.old c8; have U0 := hS.old u0; have U1 := hS.old u1; try go_simp))
          clear hK K
          refine flo_read _ rfl (fun K hK => ?_)
          go_simp
          first | (refine hK _ ?_) | (refine ⟨fun W hS => ?_, hK _ ?_⟩; · (have X0 := hS.old x0; have X1 := hS.old x1; have Y0 := hS.old y0; have Y1 := hS.old y1; have A1 := hS.old a1; have A2 := hS.old a2; have C8 := hS.old c8; have U0 := hS.old u0; have U1 := hS.old u1; try go_simp))
          clear hK K
          refine flo_read _ rfl (fun K hK => ?_)
          go_simp
          first | (refine hK _ ?_) | (refine ⟨fun W hS => ?_, hK _ ?_⟩; · (have X0 := hS.old x0; have X1 := hS.old x1; have Y0 := hS.old y0; have Y1 := hS.old y1; have A1 := hS.old a1; have A2 := hS.old a2; have C8 := hS.old c8; have U0 := hS.old u0; have U1 := hS.old u1; try go_simp))
          clear hK K
          refine flo_read _ rfl (fun K hK => ?_)
          go_simp
          first | (refine hK _ ?_) | (refine ⟨fun W hS => ?_, hK _ ?_⟩; · (have X0 := hS.old x0; have X1 := hS.old x1; have Y0 := hS.old y0; have Y1 := hS.old y1; have A1 := hS.old a1; have A2 := hS.old a2; have C8 := hS.old c8; have U0 := hS.old u0; have U1 := hS.old u1; try go_simp))
          clear hK K
          refine flo_read _ rfl (fun K hK => ?_)
          go_simp
          first | (refine hK _ ?_) | (refine ⟨fun W hS => ?_, hK _ ?_⟩; · (have X0 := hS.old x0; have X1 := hS.old x1; have Y0 := hS.old y0; have Y1 := hS.old y1; have A1 := hS.old a1; have A2 := hS.old a2; have C8 := hS.old c8; have U0 := hS.old u0; have U1 := hS.old u1; try go_simp))
          clear hK K
          refine flo_read _ rfl (fun K hK => ?_)
          go_simp
          first | (refine hK _ ?_) | (refine ⟨fun W hS => ?_, hK _ ?_⟩; · (have X0 := hS.old x0; have X1 := hS.old x1; have Y0 := hS.old y0; have Y1 := hS.old y1; have A1 := hS.old a1; have A2 := hS.old a2; have C8 := hS.old c8; have U0 := hS.old u0; have U1 := hS.old u1; try go_simp))
          clear hK K
          refine flo_read _ rfl (fun K hK => ?_)
          go_simp
          first | (refine hK _ ?_) | (refine ⟨fun W hS => ?_, hK _ ?_⟩; · (have X0 := hS.old x0; have X1 := hS.old x1; have Y0 := hS.old y0; have Y1 := hS.old y1; have A1 := hS.old a1; have A2 := hS.old a2; have C8 := hS.old c8; have U0 := hS.old u0; have U1 := hS.old u1; try go_simp))
          clear hK K
          refine flo_read _ rfl (fun K hK => ?_)
          go_simp
          first | (refine hK _ ?_) | (refine ⟨fun W hS => ?_, hK _ ?_⟩; · (have X0 := hS.old x0; have X1 := hS.old x1; have Y0 := hS.old y0; have Y1 := hS.old y1; have A1 := hS.old a1; have A2 := hS.old a2; have C8 := hS.old c8; have U0 := hS.old u0; have U1 := hS.old u1; try go_simp))
          clear hK K
          refine flo_read _ rfl (fun K hK => ?_)
          go_simp
          first | (refine hK _ ?_) | (refine ⟨fun W hS => ?_, hK _ ?_⟩; · (have X0 := hS.old x0; have X1 := hS.old x1; have Y0 := hS.old y0; have Y1 := hS.old y1; have A1 := hS.old a1; have A2 := hS.old a2; have C8 := hS.old c8; have U0 := hS.old u0; have U1 := hS.old u1; try go_simp))
          clear hK K
          refine flo_read _ rfl (fun K hK => ?_)
          go_simp
          first | (refine hK _ ?_) | (refine ⟨fun W hS => ?_, hK _ ?_⟩; · (have X0 := hS.old x0; have X1 := hS.old x1; have Y0 := hS.old y0; have Y1 := hS.old y1; have A1 := hS.old a1; have A2 := hS.old a2; have C8 := hS.old c8; have U0 := hS.old u0; have U1 := hS.old u1; try go_simp))
          clear hK K
          refine flo_read _ rfl (fun K hK => ?_)
          go_simp
          first | (refine hK _ ?_) | (refine ⟨fun W hS => ?_, hK _ ?_⟩; · (have X0 := hS.old x0; have X1 := hS.old x1; have Y0 := hS.old y0; have Y1 := hS.old y1; have A1 := hS.old a1; have A2 := hS.old a2; have C8 := hS.old c8; have U0 := hS.old u0; have U1 := hS.old u1; try go_simp))
          clear hK K
          refine flo_read _ rfl (fun K hK => ?_)
          go_simp
          first | (refine hK _ ?_) | (refine ⟨fun W hS => ?_, hK _ ?_⟩; · (have X0 := hS.old x0; have X1 := hS.old x1; have Y0 := hS.old y0; have Y1 := hS.old y1; have A1 := hS.old a1; have A2 := hS.old a2; have C8 := hS.old c8; have U0 := hS.old u0; have U1 := hS.old u1; try go_simp))
          clear hK K
          refine flo_read _ rfl (fun K hK => ?_)
          go_simp
          first | (refine hK _ ?_) | (refine ⟨fun W hS => ?_, hK _ ?_⟩; · (have X0 := hS.old x0; have X1 := hS.old x1; have Y0 := hS.old y0; have Y1 := hS.old y1; have A1 := hS.old a1; have A2 := hS.old a2; have C8 := hS.old c8; have U0 := hS.old u0; have U1 := hS.old u1; try go_simp))
          clear hK K
          refine flo_read _ rfl (fun K hK => ?_)
          go_simp
          first | (refine hK _ ?_) | (refine ⟨fun W hS => ?_, hK _ ?_⟩; · (have X0 := hS.old x0; have X1 := hS.old x1; have Y0 := hS.old y0; have Y1 := hS.old y1; have A1 := hS.old a1; have A2 := hS.old a2; have C8 := hS.old c8; have U0 := hS.old u0; have U1 := hS.old u1; try go_simp))
          clear hK K
          refine flo_read _ rfl (fun K hK => ?_)
          go_simp
          first | (refine hK _ ?_) | (refine ⟨fun W hS => ?_, hK _ ?_⟩; · (have X0 := hS.old x0; have X1 := hS.old x1; have Y0 := hS.old y0; have Y1 := hS.old y1; have A1 := hS.old a1; have A2 := hS.old a2; have C8 := hS.old c8; have U0 := hS.old u0; have U1 := hS.old u1; try go_simp))
          clear hK K
          refine flo_read _ rfl (fun K hK => ?_)
          go_simp
          first | (refine hK _ ?_) | (refine ⟨fun W hS => ?_, hK _ ?_⟩; · (have X0 := hS.old x0; have X1 := hS.old x1; have Y0 := hS.old y0; have Y1 := hS.old y1; have A1 := hS.old a1; have A2 := hS.old a2; have C8 := hS.old c8; have U0 := hS.old u0; have U1 := hS.old u1; try go_simp))
          clear hK K
          refine flo_read _ rfl (fun K hK => ?_)
          go_simp
          first | (refine hK _ ?_) | (refine ⟨fun W hS => ?_, hK _ ?_⟩; · (have X0 := hS.old x0; have X1 := hS.old x1; have Y0 := hS.old y0; have Y1 := hS.old y1; have A1 := hS.old a1; have A2 := hS.old a2; have C8 := hS.old c8; have U0 := hS.old u0; have U1 := hS.old u1; try go_simp))
          clear hK K
          refine flo_read _ rfl (fun K hK => ?_)
          go_simp
          first | (refine hK _ ?_) | (refine ⟨fun W hS => ?_, hK _ ?_⟩; · (have X0 := hS.old x0; have X1 := hS.old x1; have Y0 := hS.old y0; have Y1 := hS.old y1; have A1 := hS.old a1; have A2 := hS.old a2; have C8 := hS.old c8; have U0 := hS.old u0; have U1 := hS.old u1; try go_simp))
          clear hK K
          clear x0 x1 y0 y1 a1 a2 c8 u0 u1
          have L1 := Lib.hid (look_is [w.heap.size] w9 w9 start key now q (.slice A1 R'.length d1) R' q1g.out (Turns.refl _ _) (by have := (rwAt_ok (start := start) hok2.out key).len; omega))
          refine flo_alone _ rfl ?_
          go_wp2_with fail
          go_at_call 14
          refine Calls.mono (L1.out) ?_
          rintro e wA ⟨xa, rfl, hxa, tA⟩
          have L2 := Lib.hid (rlook_is [w.heap.size] w9 wA start key now q (.slice A3 R'.length d3) R' q3g.out tA hok2.out.rise (by have := (rwAt_ok (start := start) hok2.out key).len; omega))
          have hxah := Lib.hid hxa
          clear L1 hxa
          go_wp2_with fail
          refine ⟨fun W => Turns [] wA W, fun W h => tA.trans h, Turns.refl _ _, ?_⟩
          refine flo_alone _ rfl ?_
          go_wp2_with fail
          go_at_call 15
          refine Calls.mono (L2.out) ?_
          rintro e wB ⟨xb, rfl, hxb, tB⟩
          have TB := tA.trans tB
          have SR2 := Jb.sameRow_is wB xa xb _ _ (hxah.out.row.turns TB) (hxb.row.turns TB)
          rw [decide_eq_true (rfl : lookR start R' key now q = lookR start R' key now q)] at SR2
          have SR2h := Lib.hid SR2
          clear L2 hxb hxah SR2
          go_wp2_with fail
          refine ⟨fun W => Turns [] wB W, fun W h => tB.trans h, Turns.refl _ _, ?_⟩
          refine flo_alone _ rfl ?_
          go_wp2_with fail
          go_at_call 13
          refine Calls.mono (SR2h.out) ?_
          rintro e wC ⟨rfl, tC⟩
          have TC := TB.trans tC
          go_wp2_with fail
          refine ⟨fun W => Turns [] wC W, fun W h => tC.trans h, Turns.refl _ _, ?_⟩
          refine flo_read _ rfl (fun K hK => ?_)
          go_simp
          first | (refine hK _ ?_) | (refine ⟨fun W hS => ?_, hK _ ?_⟩; · (skip; try go_simp))
          clear hK K
          refine flo_end ?_
          have TD := TC.drew
          have H9 := Lib.hid (H8.out.turns TD)
          have q1i := Lib.hid (q1g.out.turns TD)
          have q3i := Lib.hid (q3g.out.turns TD)
          have hx9 := Lib.hid (hx8.out.turns TD)
          have hy9 := Lib.hid (hy8.out.turns TD)
          clear SR2h tA tB tC TB TC H8 q1g q3g hx8 hy8
          go_wp2_with fail
          go_wp2_with fail
          refine wp_region_flo [(0, true), (1, true), (2, true), (4, true), (5, true), (6, true), (3, false), (7, false), (8, false), (9, true)] (fun W => Turns [] wC.drew W) (by kernel_rfl) rfl (by kernel_rfl) (by intro c d v a w h; cases d <;> first | (simpa [Exit.then, Exit.inBlock, Act.put] using h) | exact h) (Turns.refl _ _) ?_
          generalize wC.drew = wD at *
          have x0 : World.cell? (wD) ⟨p1, 0, none⟩ = some _ := (H9.out.blk 4 rfl).cell 0
          have x1 : World.cell? (wD) ⟨p1, 1, none⟩ = some _ := (H9.out.blk 4 rfl).cell 1
          have y0 : World.cell? (wD) ⟨p3, 0, none⟩ = some _ := (H9.out.blk 2 rfl).cell 0
          have y1 : World.cell? (wD) ⟨p3, 1, none⟩ = some _ := (H9.out.blk 2 rfl).cell 1
          have a3 : World.cell? (wD) ⟨b9, 3, none⟩ = some _ := (H9.out.blk 5 rfl).cell 3
          refine flo_read _ rfl (fun K hK => ?_)
          go_simp
          first | (refine hK _ ?_) | (refine ⟨fun W hS => ?_, hK _ ?_⟩; · (have X0 := hS.old x0; have X1 := hS.old x1; have Y0 := hS.old y0; have Y1 := hS.old y1; have A3 := hS.old a3; try go_simp))
          clear hK K
          refine flo_read _ rfl (fun K hK => ?_)
          go_simp
          first | (refine hK _ ?_) | (refine ⟨fun W hS => ?_, hK _ ?_⟩; · (have X0 := hS.old x0; have X1 := hS.old x1; have Y0 := hS.old y0; have Y1 := hS.old y1; have A3 := hS.old a3; try go_simp))
          clear hK K
          refine flo_read _ rfl (fun K hK => ?_)
          go_simp
          first | (refine hK _ ?_) | (refine ⟨fun W hS => ?_, hK _ ?_⟩; · (have X0 := hS.old x0; have X1 := hS.old x1; have Y0 := hS.old y0; have Y1 := hS.old y1; have A3 := hS.old a3; try go_simp))
          clear hK K
          refine flo_read _ rfl (fun K hK => ?_)
          go_simp
          first | (refine hK _ ?_) | (refine ⟨fun W hS => ?_, hK _ ?_⟩; · (have X0 := hS.old x0; have X1 := hS.old x1; have Y0 := hS.old y0; have Y1 := hS.old y1; have A3 := hS.old a3; try go_simp))
          clear hK K
          refine flo_read _ rfl (fun K hK => ?_)
          go_simp
          first | (refine hK _ ?_) | (refine ⟨fun W hS => ?_, hK _ ?_⟩; · (have X0 := hS.old x0; have X1 := hS.old x1; have Y0 := hS.old y0; have Y1 := hS.old y1; have A3 := hS.old a3; try go_simp))
          clear hK K
          refine flo_read _ rfl (fun K hK => ?_)
          go_simp
          first | (refine hK _ ?_) | (refine ⟨fun W hS => ?_, hK _ ?_⟩; · (have X0 := hS.old x0; have X1 := hS.old x1; have Y0 := hS.old y0; have Y1 := hS.old y1; have A3 := hS.old a3; try go_simp))
          clear hK K
          clear x0 x1 y0 y1 a3 TD
          have L1 := Lib.hid (held_is wD start node (.slice A1 R'.length d1) R' q1i.out.rt hok2.out hn0 hn1)
          refine flo_alone _ rfl ?_
          go_wp2_with fail
          go_at_call 17
          refine Calls.mono (L1.out) ?_
          rintro e wE ⟨ua, rfl, oa, tE⟩
          have L2 := Lib.hid (rheld_is wE start node (.slice A3 R'.length d3) R' (q3i.out.turns tE).rt hok2.out)
          have oah := Lib.hid oa.reads
          clear L1 oa
          go_wp2_with fail
          refine ⟨fun W => Turns [] wE W, fun W h => tE.trans h, Turns.refl _ _, ?_⟩
          refine flo_alone _ rfl ?_
          go_wp2_with fail
          go_at_call 18
          refine Calls.mono (L2.out) ?_
          rintro e wF ⟨ub, rfl, ob, tF⟩
          have SS := Lib.hid (Rs.same_is wF ua ub _ (oah.out.mv (fun a u => tF.old)) ob.reads)
          have TF := tE.trans tF
          clear L2 ob oah
          go_wp2_with fail
          refine ⟨fun W => Turns [] wF W, fun W h => tF.trans h, Turns.refl _ _, ?_⟩
          refine flo_alone _ rfl ?_
          go_wp2_with fail
          go_at_call 16
          refine Calls.mono (SS.out) ?_
          rintro e wG ⟨rfl, tG⟩
          go_wp2_with fail
          refine ⟨fun W => Turns [] wG W, fun W h => tG.trans h, Turns.refl _ _, ?_⟩
          refine flo_read _ rfl (fun K hK => ?_)
          go_simp
          first | (refine hK _ ?_) | (refine ⟨fun W hS => ?_, hK _ ?_⟩; · (skip; try go_simp))
          clear hK K
          refine flo_end ?_
          have TG := (TF.trans tG).drew
          have HA := Lib.hid (H9.out.turns TG)
          have q3j := Lib.hid (q3i.out.turns TG)
          have hxA := Lib.hid (hx9.out.turns TG)
          have hyA := Lib.hid (hy9.out.turns TG)
          clear SS tE tF tG TF H9 q1i q3i hx9 hy9
          go_wp2_with fail
          go_wp2_with fail
          refine wp_region_flo [(0, true), (1, true), (2, true), (3, true), (4, true), (5, true), (6, true), (7, true), (8, true), (9, true), (10, true), (11, true), (12, true), (13, true), (14, true), (15, true), (16, true), (17, true), (18, true), (19, true), (20, true), (21, true), (22, true), (23, true), (24, true), (25, true), (26, true), (27, true), (28, true), (29, true), (30, true), (31, true), (32, true), (33, true), (34, true), (36, true), (35, false), (37, false), (38, true), (39, true)] (fun W => Turns [] wG.drew W) (by kernel_rfl) rfl (by kernel_rfl) (by intro c d v a w h; cases d <;> first | (simpa [Exit.then, Exit.inBlock, Act.put] using h) | exact h) (Turns.refl _ _) ?_
          generalize wG.drew = wH at *
          have x0 : World.cell? (wH) ⟨p6, 0, none⟩ = some _ := (HA.out.blk 1 rfl).cell 0
          have x1 : World.cell? (wH) ⟨p6, 1, none⟩ = some _ := (HA.out.blk 1 rfl).cell 1
          have x2 : World.cell? (wH) ⟨p6, 2, none⟩ = some _ := (HA.out.blk 1 rfl).cell 2
          have x3 : World.cell? (wH) ⟨p6, 3, none⟩ = some _ := (HA.out.blk 1 rfl).cell 3
          have y0 : World.cell? (wH) ⟨p7, 0, none⟩ = some _ := (HA.out.blk 0 rfl).cell 0
          have y1 : World.cell? (wH) ⟨p7, 1, none⟩ = some _ := (HA.out.blk 0 rfl).cell 1
          have y2 : World.cell? (wH) ⟨p7, 2, none⟩ = some _ := (HA.out.blk 0 rfl).cell 2
          have y3 : World.cell? (wH) ⟨p7, 3, none⟩ = some _ := (HA.out.blk 0 rfl).cell 3
          have bb : ((ib : Bool) != ib) = false := by simp
          refine flo_read _ rfl (fun K hK => ?_)
          go_simp
          first | (refine hK _ ?_) | (refine ⟨fun W hS => ?_, hK _ ?_⟩; · (have X0 := hS.old x0; have X1 := hS.old x1; have X2 := hS.old x2; have X3 := hS.old x3; have Y0 := hS.old y0; have Y1 := hS.old y1; have Y2 := hS.old y2; have Y3 := hS.old y3; try go_simp))
          clear hK K
          refine flo_read _ rfl (fun K hK => ?_)
          go_simp
          first | (refine hK _ ?_) | (refine ⟨fun W hS => ?_, hK _ ?_⟩; · (have X0 := hS.old x0; have X1 := hS.old x1; have X2 := hS.old x2; have X3 := hS.old x3; have Y0 := hS.old y0; have Y1 := hS.old y1; have Y2 := hS.old y2; have Y3 := hS.old y3; try go_simp))
          clear hK K
          refine flo_read _ rfl (fun K hK => ?_)
          go_simp
          first | (refine hK _ ?_) | (refine ⟨fun W hS => ?_, hK _ ?_⟩; · (have X0 := hS.old x0; have X1 := hS.old x1; have X2 := hS.old x2; have X3 := hS.old x3; have Y0 := hS.old y0; have Y1 := hS.old y1; have Y2 := hS.old y2; have Y3 := hS.old y3; try go_simp))
          clear hK K
          refine flo_read _ rfl (fun K hK => ?_)
          go_simp
          first | (refine hK _ ?_) | (refine ⟨fun W hS => ?_, hK _ ?_⟩; · (have X0 := hS.old x0; have X1 := hS.old x1; have X2 := hS.old x2; have X3 := hS.old x3; have Y0 := hS.old y0; have Y1 := hS.old y1; have Y2 := hS.old y2; have Y3 := hS.old y3; try go_simp))
          clear hK K
          refine flo_read _ rfl (fun K hK => ?_)
          go_simp
          first | (refine hK _ ?_) | (refine ⟨fun W hS => ?_, hK _ ?_⟩; · (have X0 := hS.old x0; have X1 := hS.old x1; have X2 := hS.old x2; have X3 := hS.old x3; have Y0 := hS.old y0; have Y1 := hS.old y1; have Y2 := hS.old y2; have Y3 := hS.old y3; try go_simp))
          clear hK K
          refine flo_read _ rfl (fun K hK => ?_)
          go_simp
          first | (refine hK _ ?_) | (refine ⟨fun W hS => ?_, hK _ ?_⟩; · (have X0 := hS.old x0; have X1 := hS.old x1; have X2 := hS.old x2; have X3 := hS.old x3; have Y0 := hS.old y0; have Y1 := hS.old y1; have Y2 := hS.old y2; have Y3 := hS.old y3; try go_simp))
          clear hK K
          refine flo_read _ rfl (fun K hK => ?_)
          go_simp
          first | (refine hK _ ?_) | (refine ⟨fun W hS => ?_, hK _ ?_⟩; · (have X0 := hS.old x0; have X1 := hS.old x1; have X2 := hS.old x2; have X3 := hS.old x3; have Y0 := hS.old y0; have Y1 := hS.old y1; have Y2 := hS.old y2; have Y3 := hS.old y3; try go_simp))
          clear hK K
          refine flo_read _ rfl (fun K hK => ?_)
          go_simp
          first | (refine hK _ ?_) | (refine ⟨fun W hS => ?_, hK _ ?_⟩; · (have X0 := hS.old x0; have X1 := hS.old x1; have X2 := hS.old x2; have X3 := hS.old x3; have Y0 := hS.old y0; have Y1 := hS.old y1; have Y2 := hS.old y2; have Y3 := hS.old y3; try go_simp))
          clear hK K
          refine flo_read _ rfl (fun K hK => ?_)
          go_simp
          first | (refine hK _ ?_) | (refine ⟨fun W hS => ?_, hK _ ?_⟩; · (have X0 := hS.old x0; have X1 := hS.old x1; have X2 := hS.old x2; have X3 := hS.old x3; have Y0 := hS.old y0; have Y1 := hS.old y1; have Y2 := hS.old y2; have Y3 := hS.old y3; try go_simp))
          clear hK K
          refine flo_read _ rfl (fun K hK => ?_)
          go_simp
          first | (refine hK _ ?_) | (refine ⟨fun W hS => ?_, hK _ ?_⟩; · (have X0 := hS.old x0; have X1 := hS.old x1; have X2 := hS.old x2; have X3 := hS.old x3; have Y0 := hS.old y0; have Y1 := hS.old y1; have Y2 := hS.old y2; have Y3 := hS.old y3; try go_simp))
          clear hK K
          refine flo_read _ rfl (fun K hK => ?_)
          go_simp
          first | (refine hK _ ?_) | (refine ⟨fun W hS => ?_, hK _ ?_⟩; · (have X0 := hS.old x0; have X1 := hS.old x1; have X2 := hS.old x2; have X3 := hS.old x3; have Y0 := hS.old y0; have Y1 := hS.old y1; have Y2 := hS.old y2; have Y3 := hS.old y3; try go_simp))
          clear hK K
          refine flo_read _ rfl (fun K hK => ?_)
          go_simp
          first | (refine hK _ ?_) | (refine ⟨fun W hS => ?_, hK _ ?_⟩; · (have X0 := hS.old x0; have X1 := hS.old x1; have X2 := hS.old x2; have X3 := hS.old x3; have Y0 := hS.old y0; have Y1 := hS.old y1; have Y2 := hS.old y2; have Y3 := hS.old y3; try go_simp))
          clear hK K
          refine flo_read _ rfl (fun K hK => ?_)
          go_simp
          first | (refine hK _ ?_) | (refine ⟨fun W hS => ?_, hK _ ?_⟩; · (have X0 := hS.old x0; have X1 := hS.old x1; have X2 := hS.old x2; have X3 := hS.old x3; have Y0 := hS.old y0; have Y1 := hS.old y1; have Y2 := hS.old y2; have Y3 := hS.old y3; try go_simp))
          clear hK K
          refine flo_read _ rfl (fun K hK => ?_)
          go_simp
          first | (refine hK _ ?_) | (refine ⟨fun W hS => ?_, hK _ ?_⟩; · (have X0 := hS.old x0; have X1 := hS.old x1; have X2 := hS.old x2; have X3 := hS.old x3; have Y0 := hS.old y0; have Y1 := hS.old y1; have Y2 := hS.old y2; have Y3 := hS.old y3; try go_simp))
          clear hK K
          refine flo_read _ rfl (fun K hK => ?_)
          go_simp
          first | (refine hK _ ?_) | (refine ⟨fun W hS => ?_, hK _ ?_⟩; · (have X0 := hS.old x0; have X1 := hS.old x1; have X2 := hS.old x2; have X3 := hS.old x3; have Y0 := hS.old y0; have Y1 := hS.old y1; have Y2 := hS.old y2; have Y3 := hS.old y3; try go_simp))
          clear hK K
          refine flo_read _ rfl (fun K hK => ?_)
          go_simp
          first | (refine hK _ ?_) | (refine ⟨fun W hS => ?_, hK _ ?_⟩; · (have X0 := hS.old x0; have X1 := hS.old x1; have X2 := hS.old x2; have X3 := hS.old x3; have Y0 := hS.old y0; have Y1 := hS.old y1; have Y2 := hS.old y2; have Y3 := hS.old y3; try go_simp))
          clear hK K
          refine flo_read _ rfl (fun K hK => ?_)
          go_simp
          first | (refine hK _ ?_) | (refine ⟨fun W hS => ?_, hK _ ?_⟩; · (have X0 := hS.old x0; have X1 := hS.old x1; have X2 := hS.old x2; have X3 := hS.old x3; have Y0 := hS.old y0; have Y1 := hS.old y1; have Y2 := hS.old y2; have Y3 := hS.old y3; try go_simp))
          clear hK K
          refine flo_read _ rfl (fun K hK => ?_)
          go_simp
          first | (refine hK _ ?_) | (refine ⟨fun W hS => ?_, hK _ ?_⟩; · (have X0 := hS.old x0; have X1 := hS.old x1; have X2 := hS.old x2; have X3 := hS.old x3; have Y0 := hS.old y0; have Y1 := hS.old y1; have Y2 := hS.old y2; have Y3 := hS.old y3; try go_simp))
          clear hK K
          refine flo_read _ rfl (fun K hK => ?_)
          go_simp
          first | (refine hK _ ?_) | (refine ⟨fun W hS => ?_, hK _ ?_⟩; · (have X0 := hS.old x0; have X1 := hS.old x1; have X2 := hS.old x2; have X3 := hS.old x3; have Y0 := hS.old y0; have Y1 := hS.old y1; have Y2 := hS.old y2; have Y3 := hS.old y3; try go_simp))
          clear hK K
          refine flo_read _ rfl (fun K hK => ?_)
          go_simp
          first | (refine hK _ ?_) | (refine ⟨fun W hS => ?_, hK _ ?_⟩; · (have X0 := hS.old x0; have X1 := hS.old x1; have X2 := hS.old x2; have X3 := hS.old x3; have Y0 := hS.old y0; have Y1 := hS.old y1; have Y2 := hS.old y2; have Y3 := hS.old y3; try go_simp))
          clear hK K
          refine flo_read _ rfl (fun K hK => ?_)
          go_simp
          first | (refine hK _ ?_) | (refine ⟨fun W hS => ?_, hK _ ?_⟩; · (have X0 := hS.old x0; have X1 := hS.old x1; have X2 := hS.old x2; have X3 := hS.old x3; have Y0 := hS.old y0; have Y1 := hS.old y1; have Y2 := hS.old y2; have Y3 := hS.old y3; try go_simp))
          clear hK K
          refine flo_read _ rfl (fun K hK => ?_)
          go_simp
          first | (refine hK _ ?_) | (refine ⟨fun W hS => ?_, hK _ ?_⟩; · (have X0 := hS.old x0; have X1 := hS.old x1; have X2 := hS.old x2; have X3 := hS.old x3; have Y0 := hS.old y0; have Y1 := hS.old y1; have Y2 := hS.old y2; have Y3 := hS.old y3; try go_simp))
          clear hK K
          refine flo_read _ rfl (fun K hK => ?_)
          go_simp
          first | (refine hK _ ?_) | (refine ⟨fun W hS => ?_, hK _ ?_⟩; · (have X0 := hS.old x0; have X1 := hS.old x1; have X2 := hS.old x2; have X3 := hS.old x3; have Y0 := hS.old y0; have Y1 := hS.old y1; have Y2 := hS.old y2; have Y3 := hS.old y3; try go_simp))
          clear hK K
          refine flo_read _ rfl (fun K hK => ?_)
          go_simp
          first | (refine hK _ ?_) | (refine ⟨fun W hS => ?_, hK _ ?_⟩; · (have X0 := hS.old x0; have X1 := hS.old x1; have X2 := hS.old x2; have X3 := hS.old x3; have Y0 := hS.old y0; have Y1 := hS.old y1; have Y2 := hS.old y2; have Y3 := hS.old y3; try go_simp))
          clear hK K
          refine flo_read _ rfl (fun K hK => ?_)
          go_simp
          first | (refine hK _ ?_) | (refine ⟨fun W hS => ?_, hK _ ?_⟩; · (have X0 := hS.old x0; have X1 := hS.old x1; have X2 := hS.old x2; have X3 := hS.old x3; have Y0 := hS.old y0; have Y1 := hS.old y1; have Y2 := hS.old y2; have Y3 := hS.old y3; try go_simp))
          clear hK K
          refine flo_read _ rfl (fun K hK => ?_)
          go_simp
          first | (refine hK _ ?_) | (refine ⟨fun W hS => ?_, hK _ ?_⟩; · (have X0 := hS.old x0; have X1 := hS.old x1; have X2 := hS.old x2; have X3 := hS.old x3; have Y0 := hS.old y0; have Y1 := hS.old y1; have Y2 := hS.old y2; have Y3 := hS.old y3; try go_simp))
          clear hK K
          refine flo_read _ rfl (fun K hK => ?_)
          go_simp
          first | (refine hK _ ?_) | (refine ⟨fun W hS => ?_, hK _ ?_⟩; · (have X0 := hS.old x0; have X1 := hS.old x1; have X2 := hS.old x2; have X3 := hS.old x3; have Y0 := hS.old y0; have Y1 := hS.old y1; have Y2 := hS.old y2; have Y3 := hS.old y3; try go_simp))
          clear hK K
          refine flo_read _ rfl (fun K hK => ?_)
          go_simp
          first | (refine hK _ ?_) | (refine ⟨fun W hS => ?_, hK _ ?_⟩; · (have X0 := hS.old x0; have X1 := hS.old x1; have X2 := hS.old x2; have X3 := hS.old x3; have Y0 := hS.old y0; have Y1 := hS.old y1; have Y2 := hS.old y2; have Y3 := hS.old y3; try go_simp))
          clear hK K
          refine flo_read _ rfl (fun K hK => ?_)
          go_simp
          first | (refine hK _ ?_) | (refine ⟨fun W hS => ?_, hK _ ?_⟩; · (have X0 := hS.old x0; have X1 := hS.old x1; have X2 := hS.old x2; have X3 := hS.old x3; have Y0 := hS.old y0; have Y1 := hS.old y1; have Y2 := hS.old y2; have Y3 := hS.old y3; try go_simp))
          clear hK K
          refine flo_read _ rfl (fun K hK => ?_)
          go_simp
          first | (refine hK _ ?_) | (refine ⟨fun W hS => ?_, hK _ ?_⟩; · (have X0 := hS.old x0; have X1 := hS.old x1; have X2 := hS.old x2; have X3 := hS.old x3; have Y0 := hS.old y0; have Y1 := hS.old y1; have Y2 := hS.old y2; have Y3 := hS.old y3; try go_simp))
          clear hK K
          refine flo_read _ rfl (fun K hK => ?_)
          go_simp
          first | (refine hK _ ?_) | (refine ⟨fun W hS => ?_, hK _ ?_⟩; · (have X0 := hS.old x0; have X1 := hS.old x1; have X2 := hS.old x2; have X3 := hS.old x3; have Y0 := hS.old y0; have Y1 := hS.old y1; have Y2 := hS.old y2; have Y3 := hS.old y3; try go_simp))
          clear hK K
          refine flo_read _ rfl (fun K hK => ?_)
          go_simp
          first | (refine hK _ ?_) | (refine ⟨fun W hS => ?_, hK _ ?_⟩; · (have X0 := hS.old x0; have X1 := hS.old x1; have X2 := hS.old x2; have X3 := hS.old x3; have Y0 := hS.old y0; have Y1 := hS.old y1; have Y2 := hS.old y2; have Y3 := hS.old y3; try go_simp))
          clear hK K
          refine flo_read _ rfl (fun K hK => ?_)
          go_simp
          first | (refine hK _ ?_) | (refine ⟨fun W hS => ?_, hK _ ?_⟩; · (have X0 := hS.old x0; have X1 := hS.old x1; have X2 := hS.old x2; have X3 := hS.old x3; have Y0 := hS.old y0; have Y1 := hS.old y1; have Y2 := hS.old y2; have Y3 := hS.old y3; try go_simp))
          clear hK K
          refine flo_read _ rfl (fun K hK => ?_)
          go_simp
          first | (refine hK _ ?_) | (refine ⟨fun W hS => ?_, hK _ ?_⟩; · (have X0 := hS.old x0; have X1 := hS.old x1; have X2 := hS.old x2; have X3 := hS.old x3; have Y0 := hS.old y0; have Y1 := hS.old y1; have Y2 := hS.old y2; have Y3 := hS.old y3; try go_simp))
          clear hK K
          refine flo_read _ rfl (fun K hK => ?_)
          go_simp
          first | (refine hK _ ?_) | (refine ⟨fun W hS => ?_, hK _ ?_⟩; · (have X0 := hS.old x0; have X1 := hS.old x1; have X2 := hS.old x2; have X3 := hS.old x3; have Y0 := hS.old y0; have Y1 := hS.old y1; have Y2 := hS.old y2; have Y3 := hS.old y3; try go_simp))
          clear hK K
          refine flo_read _ rfl (fun K hK => ?_)
          go_simp
          first | (refine hK _ ?_) | (refine ⟨fun W hS => ?_, hK _ ?_⟩; · (have X0 := hS.old x0; have X1 := hS.old x1; have X2 := hS.old x2; have X3 := hS.old x3; have Y0 := hS.old y0; have Y1 := hS.old y1; have Y2 := hS.old y2; have Y3 := hS.old y3; try go_simp))
          clear hK K
          clear x0 x1 x2 x3 y0 y1 y2 y3 TG
          have hol := hro.out.len
          have T1 := total_is wH _ r hxA.out.row (by omega)
          simp only [Rw.v] at T1
          have T1h := Lib.hid T1
          have T2h := Lib.hid (fun W (t : Turns [] wH W) => rtotal_is W _ r (hyA.out.turns t).row (by omega))
          simp only [Rw.v] at T2h
          obtain ⟨tt, htt⟩ : ∃ tt, totalR r = tt := ⟨_, rfl⟩
          rw [htt] at T1h T2h
          clear T1 htt
          refine flo_alone _ rfl ?_
          go_wp2_with fail
          go_at_call 19
          refine Calls.mono (T1h.out) ?_
          rintro e wI ⟨rfl, tI⟩
          go_wp2_with fail
          refine ⟨fun W => Turns [] wI W, fun W h => tI.trans h, Turns.refl _ _, ?_⟩
          refine flo_alone _ rfl ?_
          go_wp2_with fail
          go_at_call 20
          refine Calls.mono (T2h.out _ tI) ?_
          rintro e wJ ⟨rfl, tJ⟩
          go_wp2_with fail
          refine ⟨fun W => Turns [] wJ W, fun W h => tJ.trans h, Turns.refl _ _, ?_⟩
          have be : (tt != tt) = false := by simp
          refine flo_read _ rfl (fun K hK => ?_)
          go_simp
          first | (refine hK _ ?_) | (refine ⟨fun W hS => ?_, hK _ ?_⟩; · (skip; try go_simp))
          clear hK K
          refine flo_read _ rfl (fun K hK => ?_)
          go_simp
          first | (refine hK _ ?_) | (refine ⟨fun W hS => ?_, hK _ ?_⟩; · (skip; try go_simp))
          clear hK K
          refine flo_end ?_
          have TI := tI.trans tJ
          have HB := HA.out.turns TI
          have q3k := q3j.out.turns TI
          clear T1h T2h tI tJ HA q3j hxA hyA
          have y0 : World.cell? (wJ) ⟨p3, 0, none⟩ = some _ := (HB.blk 2 rfl).cell 0
          have y1 : World.cell? (wJ) ⟨p3, 1, none⟩ = some _ := (HB.blk 2 rfl).cell 1
          have t0 : World.cell? (wJ) ⟨w.heap.size, 0, none⟩ = some _ := (HB.blk 7 rfl).cell 0
          have tf0 : World.frozen? (wJ) ⟨w.heap.size, 0, none⟩ = false := (HB.blk 7 rfl).frozen 0
          have t1 : World.cell? (wJ) ⟨w.heap.size, 1, none⟩ = some _ := (HB.blk 7 rfl).cell 1
          have tf1 : World.frozen? (wJ) ⟨w.heap.size, 1, none⟩ = false := (HB.blk 7 rfl).frozen 1
          have HC := Lib.hid (((HB.set 7 rfl 0 (.int .i64 start)).set 7 rfl 1 (.slice A3 R'.length d3)).keep [6, 7])
          have TC := ((Turns.refl [w.heap.size] wJ).setCell (p := ⟨w.heap.size, 0, none⟩) (by simp) (.int .i64 start)).setCell (p := ⟨w.heap.size, 1, none⟩) (by simp) (.slice A3 R'.length d3)
          have q3l : Hid (RTS [w.heap.size] _ (.slice A3 R'.length d3) R') := Lib.hid (by
            obtain ⟨XX, hXX⟩ := q3k
            exact ⟨XX, fun W t => hXX W (TC.trans t)⟩)
          clear HB q3k TC TI
          go_wp2_with fail
          go_roundw
          case rel => exact ⟨k + 1, R', A3, d3, by omega, by go_num, hok2.out, q3l.out, HC.out⟩
          case measure => simp [RowKit.intOf]; omega
        · obtain rfl : k = l.length := by omega
          have g2 : decide ((l.length : Int) < (l.length : Int)) = false := by simp
          clear hok hRS hSt hWt hkk
          go_wp2_with fail
          go_at_call 7
          refine Calls.mono (alive_is _) ?_
          rintro e w2 ⟨rfl, t2⟩
          go_wp2_with fail
          go_ret
          exact ⟨rfl, H.t.trans t2⟩
end Go.Proofs.Ytphhfdlhkginkaa.Je
