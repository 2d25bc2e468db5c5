/- LedgerIdle: the law's walk. -/
import Derived.Test.YtphhfdlhkginkaaJd
import Derived.Test.YtphhfdlhkginkaaJg
import Derived.Test.YtphhfdlhkginkaaBs
import Derived.Test.YtphhfdlhkginkaaWg
set_option linter.unusedVariables false
set_option linter.unusedSimpArgs false
set_option maxRecDepth 100000
namespace Go.Proofs.Ytphhfdlhkginkaa.Jh
open Go.RowKit Go.MapKept Hm Hs Hr Hb Hf Hg Hi Hx Hy Hv Hz Hu Fa Fb Ff Fg Fq Ba Bb Bc Bd Be Bf Bg Bh Bi Bj Bk Bl Bm Bp Bq Br Bs Bt Bv Bw Bx By Cf Cn Sm Sat Ca Cb Cc Bn Ja Jb Jc Jd Jg
theorem good_bd {q : Int × Int} (h : goodR q = true) : 0 ≤ q.2 ∧ q.2 ≤ 2147483648 := by
  unfold goodR at h
  simp only [List.all_cons, List.all_nil, Bool.and_true, Bool.and_eq_true] at h
  have := h.2
  unfold inSpan at this
  rw [Bool.not_eq_true', Bool.or_eq_false_iff, decide_eq_false_iff_not, decide_eq_false_iff_not] at this
  omega
theorem fit_table {start : Int} {R : List Row} {c : Cfg} (h : fitB start R c = true) : tableB start R = true := by
  unfold fitB at h
  simp only [Bool.and_eq_true, beq_iff_eq] at h
  exact h.2.2.1
set_option maxHeartbeats 16000000 in
theorem idle_law (w : World) (start : Int) (v : Value) (R : List Row) (c : Cfg) (a n : Int) (h : RT w v R) (hr : RdS 2 w c.rv (rts c.rates)) : Calls Try.prog 5 #[.agg #[.int .i64 start, v], c.v, .agg #[.int .i64 a, .int .i64 n]] w fun e w' => e = .returned (.bool true) ∧ Turns [] w w' := by
  obtain ⟨A, cc, rfl, hlc, hcm⟩ := h.form
  have hFt := Lib.hid (fun W (t : Turns [] w W) => Jb.fits_is W start (.slice A R.length cc) R c (h.turns t) (hr.mv (fun a u => t.old)))
  have hfo := Lib.hid (fun hf => And.intro (fit_ok (start := start) (R := R) (c := c) hf) (table_mark (fit_table hf)))
  have hRT := Lib.hid (fun W (t : Turns [] w W) => RTS.of (G := []) h t (by simp))
  have hSw := Lib.hid (fun W (t : Turns [] w W) (hn : R.length ≤ 100000) => rsweep_is [] W start a _ R c (RTS.of (G := []) h t (by simp)) hn (hr.mv (fun a u => t.old)) (by simp))
  have hId := Lib.hid (fun W x r (t : Turns [] w W) (hx : RowIs W x r) => ridle_is W start a _ R x r c (h.turns t) hx (hr.mv (fun a u => t.old)))
  have hRs := Lib.hid (fun W k q (t : Turns [] w W) (hq : rateR (cfg c) k = some q) => drate_some W c k q (hr.mv (fun a u => t.old)) hq)
  have hRn := Lib.hid (fun W k (t : Turns [] w W) (hq : rateR (cfg c) k = none) => drate_none W c k (hr.mv (fun a u => t.old)) hq)
  have hrh := Lib.hid hr
  obtain ⟨Ar, cr, hrv, hlr, hcr⟩ := hr.form
  rw [rts_len] at hrv hlr
  have hsame := Lib.hid (fun (r : Row) (q : Int × Int) hR hm hs h1 h2 hk0 hk1 h0 h1' n0 n1 hn hq hB0 hB1 hi => idle_same (start := start) (at_ := a) (now := n) (c := cfg c) (R := R) (r := r) (q := q) hR hm hs h1 h2 hk0 hk1 h0 h1' n0 n1 hn hq hB0 hB1 hi)
  have hqs := Lib.hid (fun k q (hq : rateR (cfg c) k = some q) => rateR_some hq)
  have hck : (cfg c).skew = c.skew := rfl
  obtain ⟨nn, skew, ttl, valid, loss, hear, keys, queue, rv, rates⟩ := c
  simp only at hrv hlr hrh hck hqs
  subst hrv
  obtain ⟨C, hC⟩ : ∃ C : Ba.Cf, C = cfg ⟨nn, skew, ttl, valid, loss, hear, keys, queue, .slice Ar rates.length cr, rates⟩ := ⟨_, rfl⟩
  rw [← hC] at hSw hId hRs hRn hsame hck hqs
  unfold Cfg.v at hFt hSw hId hRs hRn ⊢
  simp only at hFt hSw hId hRs hRn ⊢
  have H := (((Sep.start w).alloc #[.int .i64 start, .slice A R.length cc] 24).alloc #[.int .i64 nn, .int .i64 skew, .int .i64 ttl, .int .i64 valid, .int .i64 loss, .int .i64 hear, .int .i64 keys, .int .i64 queue, .slice Ar rates.length cr] 27).alloc #[.int .i64 a, .int .i64 n] 53
  rw [World.size_alloc, World.size_alloc] at H
  have Hh := Lib.hid H
  have hh := Lib.hid h
  have hckh := Lib.hid hck
  clear h hr H hC hck hcr hlr
  obtain ⟨wo, hwo⟩ : ∃ wo, ((w.alloc (.cells #[.int .i64 start, .slice A R.length cc] 24)).alloc (.cells #[.int .i64 nn, .int .i64 skew, .int .i64 ttl, .int .i64 valid, .int .i64 loss, .int .i64 hear, .int .i64 keys, .int .i64 queue, .slice Ar rates.length cr] 27)).alloc (.cells #[.int .i64 a, .int .i64 n] 53) = wo := ⟨_, rfl⟩
  rw [hwo] at Hh
  have t0 : World.cell? (wo) ⟨w.heap.size, 0, none⟩ = some _ := (Hh.out.blk 2 rfl).cell 0
  have t1 : World.cell? (wo) ⟨w.heap.size, 1, none⟩ = some _ := (Hh.out.blk 2 rfl).cell 1
  have c0 : World.cell? (wo) ⟨w.heap.size + 1, 0, none⟩ = some _ := (Hh.out.blk 1 rfl).cell 0
  have c1 : World.cell? (wo) ⟨w.heap.size + 1, 1, none⟩ = some _ := (Hh.out.blk 1 rfl).cell 1
  have c2 : World.cell? (wo) ⟨w.heap.size + 1, 2, none⟩ = some _ := (Hh.out.blk 1 rfl).cell 2
  have c3 : World.cell? (wo) ⟨w.heap.size + 1, 3, none⟩ = some _ := (Hh.out.blk 1 rfl).cell 3
  have c4 : World.cell? (wo) ⟨w.heap.size + 1, 4, none⟩ = some _ := (Hh.out.blk 1 rfl).cell 4
  have c5 : World.cell? (wo) ⟨w.heap.size + 1, 5, none⟩ = some _ := (Hh.out.blk 1 rfl).cell 5
  have c6 : World.cell? (wo) ⟨w.heap.size + 1, 6, none⟩ = some _ := (Hh.out.blk 1 rfl).cell 6
  have c7 : World.cell? (wo) ⟨w.heap.size + 1, 7, none⟩ = some _ := (Hh.out.blk 1 rfl).cell 7
  have c8 : World.cell? (wo) ⟨w.heap.size + 1, 8, none⟩ = some _ := (Hh.out.blk 1 rfl).cell 8
  go_enter Try.func5, Try.ntmps5
  go_wp2_with fail
  try rw [hwo]
  clear hwo
  go_wp2_with fail
  go_at_call 6
  refine Calls.mono (hFt.out _ Hh.out.t) ?_
  rintro e w1 ⟨rfl, t1⟩
  have H1 := Lib.hid (Hh.out.turns t1)
  clear t0 t1 c0 c1 c2 c3 c4 c5 c6 c7 c8 hFt Hh
  have p0 : World.cell? (w1) ⟨w.heap.size + 1 + 1, 0, none⟩ = some _ := (H1.out.blk 0 rfl).cell 0
  have p1 : World.cell? (w1) ⟨w.heap.size + 1 + 1, 1, none⟩ = some _ := (H1.out.blk 0 rfl).cell 1
  have c0 : World.cell? (w1) ⟨w.heap.size + 1, 0, none⟩ = some _ := (H1.out.blk 1 rfl).cell 0
  have c1 : World.cell? (w1) ⟨w.heap.size + 1, 1, none⟩ = some _ := (H1.out.blk 1 rfl).cell 1
  have c2 : World.cell? (w1) ⟨w.heap.size + 1, 2, none⟩ = some _ := (H1.out.blk 1 rfl).cell 2
  have c3 : World.cell? (w1) ⟨w.heap.size + 1, 3, none⟩ = some _ := (H1.out.blk 1 rfl).cell 3
  have c4 : World.cell? (w1) ⟨w.heap.size + 1, 4, none⟩ = some _ := (H1.out.blk 1 rfl).cell 4
  have c5 : World.cell? (w1) ⟨w.heap.size + 1, 5, none⟩ = some _ := (H1.out.blk 1 rfl).cell 5
  have c6 : World.cell? (w1) ⟨w.heap.size + 1, 6, none⟩ = some _ := (H1.out.blk 1 rfl).cell 6
  have c7 : World.cell? (w1) ⟨w.heap.size + 1, 7, none⟩ = some _ := (H1.out.blk 1 rfl).cell 7
  have c8 : World.cell? (w1) ⟨w.heap.size + 1, 8, none⟩ = some _ := (H1.out.blk 1 rfl).cell 8
  cases hfb : fitB start R ⟨nn, skew, ttl, valid, loss, hear, keys, queue, .slice Ar rates.length cr, rates⟩ with
  | false =>
    clear hfo
    go_wp2_with fail
    go_at_call 7
    refine Calls.mono (alive_is _) ?_
    rintro e w2 ⟨rfl, t2⟩
    go_wp2_with fail
    go_ret
    exact ⟨rfl, H1.out.t.trans t2⟩
  | true =>
    obtain ⟨⟨hok, hkeys, hrl, hsk0, hsk1, hgood⟩, hst0, hmk⟩ := hfo.out hfb
    try simp only at hkeys hrl hsk0 hsk1 hgood
    clear hfo
    by_cases a0 : a < 0
    · have g1 := decide_eq_true a0
      clear a0
      go_wp2_with fail
      go_at_call 7
      refine Calls.mono (alive_is _) ?_
      rintro e w2 ⟨rfl, t2⟩
      go_wp2_with fail
      go_ret
      exact ⟨rfl, H1.out.t.trans t2⟩
    · have g1 := decide_eq_false a0
      by_cases n0 : n < 0
      · have g2 := decide_eq_true n0
        clear n0
        go_wp2_with fail
        go_at_call 7
        refine Calls.mono (alive_is _) ?_
        rintro e w2 ⟨rfl, t2⟩
        go_wp2_with fail
        go_ret
        exact ⟨rfl, H1.out.t.trans t2⟩
      · have g2 := decide_eq_false n0
        by_cases a1 : a > 4611686018427387904
        · have g3 := decide_eq_true a1
          clear a1
          go_wp2_with fail
          go_at_call 7
          refine Calls.mono (alive_is _) ?_
          rintro e w2 ⟨rfl, t2⟩
          go_wp2_with fail
          go_ret
          exact ⟨rfl, H1.out.t.trans t2⟩
        · have g3 := decide_eq_false a1
          by_cases n1 : n > 4611686018427387904
          · have g4 := decide_eq_true n1
            clear n1
            go_wp2_with fail
            go_at_call 7
            refine Calls.mono (alive_is _) ?_
            rintro e w2 ⟨rfl, t2⟩
            go_wp2_with fail
            go_ret
            exact ⟨rfl, H1.out.t.trans t2⟩
          · have g4 := decide_eq_false n1
            have e1 : wrap64 (2 * skew) = 2 * skew := wr (by omega) (by omega)
            have e2 : wrap64 (a - 2 * skew) = a - 2 * skew := wr (by omega) (by omega)
            by_cases h5 : n < a - 2 * skew
            · have g5 := decide_eq_true h5
              clear h5
              go_wp2_with fail
              go_at_call 7
              refine Calls.mono (alive_is _) ?_
              rintro e w2 ⟨rfl, t2⟩
              go_wp2_with fail
              go_ret
              exact ⟨rfl, H1.out.t.trans t2⟩
            · have g5 := decide_eq_false h5
              have hall := Lib.hid (fun (r : Row) (q : Int × Int) (hm : r ∈ R) hq hi hb => hsame.out r q hok.rise hm hst0 (hmk r hm).1 (hmk r hm).2 (by rw [hckh.out]; exact hsk0) (by rw [hckh.out]; exact hsk1) (by omega) (by omega) (by omega) (by omega) (by rw [hckh.out]; omega) hq (good_bd (hgood q hb)).1 (good_bd (hgood q hb)).2 hi)
              have hokh := Lib.hid hok
              clear a0 n0 a1 n1 h5 hok hst0 hmk hsame hgood hkeys hrl hsk0 hsk1 hfb
              have t0 : World.cell? (w1) ⟨w.heap.size, 0, none⟩ = some _ := (H1.out.blk 2 rfl).cell 0
              have t1 : World.cell? (w1) ⟨w.heap.size, 1, none⟩ = some _ := (H1.out.blk 2 rfl).cell 1
              have S1 := Lib.hid (hSw.out w1 H1.out.t (by have := hokh.out.len; omega))
              go_wp2_with fail
              go_at_call 24
              refine Calls.mono (S1.out) ?_
              rintro e w2 ⟨v', rfl, hX, t2⟩
              obtain ⟨AX, cX, hvX, _⟩ := hX.rt.form
              subst hvX
              have H2 := Lib.hid ((H1.out.turns t2).alloc #[.int .i64 start, .slice AX (sweepR start C a R).length cX] 24)
              have hX2 := Lib.hid (hX.turns ((Turns.refl [] w2).alloc (.cells #[.int .i64 start, .slice AX (sweepR start C a R).length cX] 24)))
              have hsok := Lib.hid (sweep_ok (start := start) (c := C) (now := a) hokh.out)
              obtain ⟨X, hXd⟩ : ∃ X, sweepR start C a R = X := ⟨_, rfl⟩
              rw [hXd] at H2 hX2 hall hsok
              rw [hXd]
              obtain ⟨wx, hwx⟩ : ∃ wx, w2.alloc (.cells #[.int .i64 start, .slice AX X.length cX] 24) = wx := ⟨_, rfl⟩
              rw [hwx] at H2 hX2
              clear t0 t1 p0 p1 c0 c1 c2 c3 c4 c5 c6 c7 c8 g1 g2 g3 g4 g5 S1 H1 hX hXd hSw t2 hlc hcm e1 e2
              go_wp2_with fail
              try rw [hwx]
              clear hwx
              generalize w2.heap.size = bx at *
              go_loopw [11] (fun v11 wr => ∃ (k : Nat), k ≤ R.length ∧ v11 = .int .i64 k ∧ Turns [] wx wr) (fun v11 _ => R.length - (RowKit.intOf v11).toNat)
              case atStart => exact ⟨0, by omega, rfl, Turns.refl _ _⟩
              case round =>
                obtain ⟨k, hk, rfl, tr⟩ := hrel
                have hR16 := hokh.out.len
                have H := Lib.hid (H2.out.turns tr)
                have hX := Lib.hid (hX2.out.turns tr)
                have trh := Lib.hid tr
                clear H2 hX2 tr
                by_cases hlt : k < R.length
                · have g1 : decide ((k : Int) < (R.length : Int)) = true := decide_eq_true (by omega)
                  have g1b : decide (k < R.length) = true := decide_eq_true hlt
                  obtain ⟨y, hy⟩ : ∃ y, R[k]? = some y := ⟨_, List.getElem?_eq_getElem hlt⟩
                  have hym := List.mem_of_getElem? hy
                  obtain ⟨ad, c', x, hv, hxr, LX⟩ := (hRT.out _ H.out.t).at_ hy
                  injection hv with e1 e2 e3
                  subst e1 e3
                  obtain ⟨Ay, cy, rfl, hoy⟩ := row_form hxr.row
                  have hq0 := Lib.hid (fun q (h1 : rateR C y.key = some q) => hqs.out y.key q h1)
                  have hall2 := Lib.hid (fun q => hall.out y q hym)
                  have H3 := Lib.hid (H.out.alloc #[.int .i64 y.key, .int .i64 y.avail, .int .i64 y.mark, .slice Ay y.out.length cy] 38)
                  have T3 := (Turns.refl [] wr).alloc (.cells #[.int .i64 y.key, .int .i64 y.avail, .int .i64 y.mark, .slice Ay y.out.length cy] 38)
                  have hX3 := Lib.hid (hX.out.turns T3)
                  have tr3 := Lib.hid (trh.out.trans T3)
                  have IC := Lib.hid (hId.out _ _ y H3.out.t (hxr.turns T3).row)
                  simp only [Rw.v] at IC
                  generalize hby : wr.heap.size = bq at *
                  have t0 : World.cell? (wr) ⟨w.heap.size, 0, none⟩ = some _ := (H.out.blk 3 rfl).cell 0
                  have t1 : World.cell? (wr) ⟨w.heap.size, 1, none⟩ = some _ := (H.out.blk 3 rfl).cell 1
                  obtain ⟨x0, x1, x2, x3⟩ := LX
                  clear hy e2 hxr hoy T3 trh hX hym
                  have ta0 : World.cell? ((wr.alloc (.cells #[.int .i64 y.key, .int .i64 y.avail, .int .i64 y.mark, .slice Ay y.out.length cy] 38))) ⟨w.heap.size, 0, none⟩ = some _ := (H3.out.blk 4 rfl).cell 0
                  have ta1 : World.cell? ((wr.alloc (.cells #[.int .i64 y.key, .int .i64 y.avail, .int .i64 y.mark, .slice Ay y.out.length cy] 38))) ⟨w.heap.size, 1, none⟩ = some _ := (H3.out.blk 4 rfl).cell 1
                  have ca0 : World.cell? ((wr.alloc (.cells #[.int .i64 y.key, .int .i64 y.avail, .int .i64 y.mark, .slice Ay y.out.length cy] 38))) ⟨w.heap.size + 1, 0, none⟩ = some _ := (H3.out.blk 3 rfl).cell 0
                  have ca1 : World.cell? ((wr.alloc (.cells #[.int .i64 y.key, .int .i64 y.avail, .int .i64 y.mark, .slice Ay y.out.length cy] 38))) ⟨w.heap.size + 1, 1, none⟩ = some _ := (H3.out.blk 3 rfl).cell 1
                  have ca2 : World.cell? ((wr.alloc (.cells #[.int .i64 y.key, .int .i64 y.avail, .int .i64 y.mark, .slice Ay y.out.length cy] 38))) ⟨w.heap.size + 1, 2, none⟩ = some _ := (H3.out.blk 3 rfl).cell 2
                  have ca3 : World.cell? ((wr.alloc (.cells #[.int .i64 y.key, .int .i64 y.avail, .int .i64 y.mark, .slice Ay y.out.length cy] 38))) ⟨w.heap.size + 1, 3, none⟩ = some _ := (H3.out.blk 3 rfl).cell 3
                  have ca4 : World.cell? ((wr.alloc (.cells #[.int .i64 y.key, .int .i64 y.avail, .int .i64 y.mark, .slice Ay y.out.length cy] 38))) ⟨w.heap.size + 1, 4, none⟩ = some _ := (H3.out.blk 3 rfl).cell 4
                  have ca5 : World.cell? ((wr.alloc (.cells #[.int .i64 y.key, .int .i64 y.avail, .int .i64 y.mark, .slice Ay y.out.length cy] 38))) ⟨w.heap.size + 1, 5, none⟩ = some _ := (H3.out.blk 3 rfl).cell 5
                  have ca6 : World.cell? ((wr.alloc (.cells #[.int .i64 y.key, .int .i64 y.avail, .int .i64 y.mark, .slice Ay y.out.length cy] 38))) ⟨w.heap.size + 1, 6, none⟩ = some _ := (H3.out.blk 3 rfl).cell 6
                  have ca7 : World.cell? ((wr.alloc (.cells #[.int .i64 y.key, .int .i64 y.avail, .int .i64 y.mark, .slice Ay y.out.length cy] 38))) ⟨w.heap.size + 1, 7, none⟩ = some _ := (H3.out.blk 3 rfl).cell 7
                  have ca8 : World.cell? ((wr.alloc (.cells #[.int .i64 y.key, .int .i64 y.avail, .int .i64 y.mark, .slice Ay y.out.length cy] 38))) ⟨w.heap.size + 1, 8, none⟩ = some _ := (H3.out.blk 3 rfl).cell 8
                  have ya0 : World.cell? ((wr.alloc (.cells #[.int .i64 y.key, .int .i64 y.avail, .int .i64 y.mark, .slice Ay y.out.length cy] 38))) ⟨bq, 0, none⟩ = some _ := (H3.out.blk 0 rfl).cell 0
                  have ya1 : World.cell? ((wr.alloc (.cells #[.int .i64 y.key, .int .i64 y.avail, .int .i64 y.mark, .slice Ay y.out.length cy] 38))) ⟨bq, 1, none⟩ = some _ := (H3.out.blk 0 rfl).cell 1
                  have ya2 : World.cell? ((wr.alloc (.cells #[.int .i64 y.key, .int .i64 y.avail, .int .i64 y.mark, .slice Ay y.out.length cy] 38))) ⟨bq, 2, none⟩ = some _ := (H3.out.blk 0 rfl).cell 2
                  have ya3 : World.cell? ((wr.alloc (.cells #[.int .i64 y.key, .int .i64 y.avail, .int .i64 y.mark, .slice Ay y.out.length cy] 38))) ⟨bq, 3, none⟩ = some _ := (H3.out.blk 0 rfl).cell 3
                  obtain ⟨b, hb⟩ : ∃ b, idleR start C a y = b := ⟨_, rfl⟩
                  rw [hb] at IC
                  go_wp2_with fail
                  go_at_call 25
                  refine Calls.mono (IC.out) ?_
                  rintro e w4 ⟨rfl, t4⟩
                  have H4 := Lib.hid (H3.out.turns t4)
                  have tr4 := Lib.hid (tr3.out.trans t4)
                  have hX4 := Lib.hid (hX3.out.turns t4)
                  clear t0 t1 x0 x1 x2 x3 H3 IC t4 tr3 hX3
                  clear ta0 ta1 ca0 ca1 ca2 ca3 ca4 ca5 ca6 ca7 ca8 ya0 ya1 ya2 ya3
                  have ta0 : World.cell? (w4) ⟨w.heap.size, 0, none⟩ = some _ := (H4.out.blk 4 rfl).cell 0
                  have ta1 : World.cell? (w4) ⟨w.heap.size, 1, none⟩ = some _ := (H4.out.blk 4 rfl).cell 1
                  have ca0 : World.cell? (w4) ⟨w.heap.size + 1, 0, none⟩ = some _ := (H4.out.blk 3 rfl).cell 0
                  have ca1 : World.cell? (w4) ⟨w.heap.size + 1, 1, none⟩ = some _ := (H4.out.blk 3 rfl).cell 1
                  have ca2 : World.cell? (w4) ⟨w.heap.size + 1, 2, none⟩ = some _ := (H4.out.blk 3 rfl).cell 2
                  have ca3 : World.cell? (w4) ⟨w.heap.size + 1, 3, none⟩ = some _ := (H4.out.blk 3 rfl).cell 3
                  have ca4 : World.cell? (w4) ⟨w.heap.size + 1, 4, none⟩ = some _ := (H4.out.blk 3 rfl).cell 4
                  have ca5 : World.cell? (w4) ⟨w.heap.size + 1, 5, none⟩ = some _ := (H4.out.blk 3 rfl).cell 5
                  have ca6 : World.cell? (w4) ⟨w.heap.size + 1, 6, none⟩ = some _ := (H4.out.blk 3 rfl).cell 6
                  have ca7 : World.cell? (w4) ⟨w.heap.size + 1, 7, none⟩ = some _ := (H4.out.blk 3 rfl).cell 7
                  have ca8 : World.cell? (w4) ⟨w.heap.size + 1, 8, none⟩ = some _ := (H4.out.blk 3 rfl).cell 8
                  have ya0 : World.cell? (w4) ⟨bq, 0, none⟩ = some _ := (H4.out.blk 0 rfl).cell 0
                  have ya1 : World.cell? (w4) ⟨bq, 1, none⟩ = some _ := (H4.out.blk 0 rfl).cell 1
                  have ya2 : World.cell? (w4) ⟨bq, 2, none⟩ = some _ := (H4.out.blk 0 rfl).cell 2
                  have ya3 : World.cell? (w4) ⟨bq, 3, none⟩ = some _ := (H4.out.blk 0 rfl).cell 3
                  cases hq : rateR C y.key with
                  | none =>
                    have hbf : b = false := by rw [← hb]; exact idle_no hq
                    subst hbf
                    have Ra := Lib.hid (hRn.out w4 y.key H4.out.t hq)
                    clear hq hb hall2 hq0
                    go_wp2_with fail
                    go_at_call 26
                    refine Calls.mono (Ra.out) ?_
                    rintro e w5 ⟨rfl, t5⟩
                    have tr5 := tr4.out.trans t5
                    go_wp2_with fail
                    go_roundw
                    case rel => exact ⟨k + 1, by omega, by go_num, tr5⟩
                    case measure => simp [RowKit.intOf]; omega
                  | some q =>
                    have Ra := Lib.hid (hRs.out w4 y.key q H4.out.t hq)
                    have hqi := (hq0.out q hq).2
                    go_wp2_with fail
                    go_at_call 26
                    refine Calls.mono (Ra.out) ?_
                    rintro e w5 ⟨p, rfl, hp, t5⟩
                    have H5 := Lib.hid (H4.out.turns t5)
                    have tr5 := Lib.hid (tr4.out.trans t5)
                    have hX5 := Lib.hid (hX4.out.turns t5)
                    clear H4 Ra t5 tr4 hX4 hq0
                    clear ta0 ta1 ca0 ca1 ca2 ca3 ca4 ca5 ca6 ca7 ca8 ya0 ya1 ya2 ya3
                    cases b with
                    | false =>
                      clear hq hb hall2 hqi hp
                      have gp : decide ((p : Int) < 0) = false := decide_eq_false (by omega)
                      go_wp2_with fail
                      go_roundw
                      case rel => exact ⟨k + 1, by omega, by go_num, tr5.out⟩
                      case measure => simp [RowKit.intOf]; omega
                    | true =>
                      have gp : decide ((p : Int) < 0) = false := decide_eq_false (by omega)
                      have hsm := Lib.hid (hall2.out q hq hb (List.mem_of_getElem? hqi))
                      clear hall2 hqi hb hq
                      obtain ⟨adr, cr', hvr, LQ⟩ := rts_at hrh.out hp
                      injection hvr with f1 f2 f3
                      subst f1 f3
                      have hpl : p < rates.length := (List.getElem?_eq_some_iff.1 hp).1
                      have hplb : decide (p < rates.length) = true := decide_eq_true hpl
                      have LQh := Lib.hid LQ
                      clear LQ hp f2
                      have hXl := Lib.hid (rwAt_ok (start := start) hsok.out y.key).len
                      have hRl := Lib.hid (rwAt_ok (start := start) hokh.out y.key).len
                      have H6 := Lib.hid H5.out.drew
                      have tr6 := Lib.hid tr5.out.drew
                      have hX6 := Lib.hid (hX5.out.turns ((Turns.refl [] w5).drew))
                      clear H5 tr5 hX5
                      go_wp2_with fail
                      go_wp2_with fail
                      refine wp_region_flo3 (.read 0 [10] (.read 1 [9, 10] (.read 2 [10] (.read 3 [10] (.read 4 [9, 10] (.read 5 [9, 10] (.read 6 [9, 10] (.read 7 [9, 10] (.read 8 [10] (.fork 9 (.alone 10 (.alone 11 (.done))) 10 (.alone 9 (.alone 11 (.done))))))))))))) (fun j W => Turns [] w5.drew W) (by kernel_rfl) rfl (by kernel_rfl) (by intro c d v a w h; cases d <;> first | (simpa [Exit.then, Exit.inBlock, Act.put] using h) | exact h) ?_
                      generalize w5.drew = w6 at *
                      have L1 := Lib.hid (fun W (t : Turns [] w6 W) => look_is [] w6 W start y.key n q _ R (hRT.out w6 H6.out.t) t (by have := hRl.out; omega))
                      obtain ⟨va, hva⟩ : ∃ va, lookR start R y.key n q = va := ⟨_, rfl⟩
                      rw [hva] at L1 hsm
                      have ta0 : World.cell? (w6) ⟨w.heap.size, 0, none⟩ = some _ := (H6.out.blk 4 rfl).cell 0
                      have ta1 : World.cell? (w6) ⟨w.heap.size, 1, none⟩ = some _ := (H6.out.blk 4 rfl).cell 1
                      have ca0 : World.cell? (w6) ⟨w.heap.size + 1, 0, none⟩ = some _ := (H6.out.blk 3 rfl).cell 0
                      have ca1 : World.cell? (w6) ⟨w.heap.size + 1, 1, none⟩ = some _ := (H6.out.blk 3 rfl).cell 1
                      have ca2 : World.cell? (w6) ⟨w.heap.size + 1, 2, none⟩ = some _ := (H6.out.blk 3 rfl).cell 2
                      have ca3 : World.cell? (w6) ⟨w.heap.size + 1, 3, none⟩ = some _ := (H6.out.blk 3 rfl).cell 3
                      have ca4 : World.cell? (w6) ⟨w.heap.size + 1, 4, none⟩ = some _ := (H6.out.blk 3 rfl).cell 4
                      have ca5 : World.cell? (w6) ⟨w.heap.size + 1, 5, none⟩ = some _ := (H6.out.blk 3 rfl).cell 5
                      have ca6 : World.cell? (w6) ⟨w.heap.size + 1, 6, none⟩ = some _ := (H6.out.blk 3 rfl).cell 6
                      have ca7 : World.cell? (w6) ⟨w.heap.size + 1, 7, none⟩ = some _ := (H6.out.blk 3 rfl).cell 7
                      have ca8 : World.cell? (w6) ⟨w.heap.size + 1, 8, none⟩ = some _ := (H6.out.blk 3 rfl).cell 8
                      have ya0 : World.cell? (w6) ⟨bq, 0, none⟩ = some _ := (H6.out.blk 0 rfl).cell 0
                      have ya1 : World.cell? (w6) ⟨bq, 1, none⟩ = some _ := (H6.out.blk 0 rfl).cell 1
                      have ya2 : World.cell? (w6) ⟨bq, 2, none⟩ = some _ := (H6.out.blk 0 rfl).cell 2
                      have ya3 : World.cell? (w6) ⟨bq, 3, none⟩ = some _ := (H6.out.blk 0 rfl).cell 3
                      obtain ⟨x0, x1⟩ := LQh.out.turns H6.out.t
                      refine flo3_read _ rfl (fun W => Turns [] w6 W) (Turns.refl _ _) (fun j hj W hW => hW) (fun K hK => ?_)
                      go_simp
                      first | (refine hK _ ?_) | (refine ⟨fun W hS => ?_, hK _ ?_⟩; · (have T0 := hS.old ta0; have T1 := hS.old ta1; have Y0 := hS.old ya0; have C8 := hS.old ca8; have X0 := hS.old x0; have X1 := hS.old x1; try go_simp))
                      clear hK K
                      refine flo3_read _ rfl (fun W => Turns [] w6 W) (Turns.refl _ _) (fun j hj W hW => hW) (fun K hK => ?_)
                      go_simp
                      first | (refine hK _ ?_) | (refine ⟨fun W hS => ?_, hK _ ?_⟩; · (have T0 := hS.old ta0; have T1 := hS.old ta1; have Y0 := hS.old ya0; have C8 := hS.old ca8; have X0 := hS.old x0; have X1 := hS.old x1; try go_simp))
                      clear hK K
                      refine flo3_read _ rfl (fun W => Turns [] w6 W) (Turns.refl _ _) (fun j hj W hW => hW) (fun K hK => ?_)
                      go_simp
                      first | (refine hK _ ?_) | (refine ⟨fun W hS => ?_, hK _ ?_⟩; · (have T0 := hS.old ta0; have T1 := hS.old ta1; have Y0 := hS.old ya0; have C8 := hS.old ca8; have X0 := hS.old x0; have X1 := hS.old x1; try go_simp))
                      clear hK K
                      refine flo3_read _ rfl (fun W => Turns [] w6 W) (Turns.refl _ _) (fun j hj W hW => hW) (fun K hK => ?_)
                      go_simp
                      first | (refine hK _ ?_) | (refine ⟨fun W hS => ?_, hK _ ?_⟩; · (have T0 := hS.old ta0; have T1 := hS.old ta1; have Y0 := hS.old ya0; have C8 := hS.old ca8; have X0 := hS.old x0; have X1 := hS.old x1; try go_simp))
                      clear hK K
                      refine flo3_read _ rfl (fun W => Turns [] w6 W) (Turns.refl _ _) (fun j hj W hW => hW) (fun K hK => ?_)
                      go_simp
                      first | (refine hK _ ?_) | (refine ⟨fun W hS => ?_, hK _ ?_⟩; · (have T0 := hS.old ta0; have T1 := hS.old ta1; have Y0 := hS.old ya0; have C8 := hS.old ca8; have X0 := hS.old x0; have X1 := hS.old x1; try go_simp))
                      clear hK K
                      refine flo3_read _ rfl (fun W => Turns [] w6 W) (Turns.refl _ _) (fun j hj W hW => hW) (fun K hK => ?_)
                      go_simp
                      first | (refine hK _ ?_) | (refine ⟨fun W hS => ?_, hK _ ?_⟩; · (have T0 := hS.old ta0; have T1 := hS.old ta1; have Y0 := hS.old ya0; have C8 := hS.old ca8; have X0 := hS.old x0; have X1 := hS.old x1; try go_simp))
                      clear hK K
                      refine flo3_read _ rfl (fun W => Turns [] w6 W) (Turns.refl _ _) (fun j hj W hW => hW) (fun K hK => ?_)
                      go_simp
                      first | (refine hK _ ?_) | (refine ⟨fun W hS => ?_, hK _ ?_⟩; · (have T0 := hS.old ta0; have T1 := hS.old ta1; have Y0 := hS.old ya0; have C8 := hS.old ca8; have X0 := hS.old x0; have X1 := hS.old x1; try go_simp))
                      clear hK K
                      refine flo3_read _ rfl (fun W => Turns [] w6 W) (Turns.refl _ _) (fun j hj W hW => hW) (fun K hK => ?_)
                      go_simp
                      first | (refine hK _ ?_) | (refine ⟨fun W hS => ?_, hK _ ?_⟩; · (have T0 := hS.old ta0; have T1 := hS.old ta1; have Y0 := hS.old ya0; have C8 := hS.old ca8; have X0 := hS.old x0; have X1 := hS.old x1; try go_simp))
                      clear hK K
                      refine flo3_read _ rfl (fun W => Turns [] w6 W) (Turns.refl _ _) (fun j hj W hW => hW) (fun K hK => ?_)
                      go_simp
                      first | (refine hK _ ?_) | (refine ⟨fun W hS => ?_, hK _ ?_⟩; · (have T0 := hS.old ta0; have T1 := hS.old ta1; have Y0 := hS.old ya0; have C8 := hS.old ca8; have X0 := hS.old x0; have X1 := hS.old x1; try go_simp))
                      clear hK K
                      clear ta0 ta1 ca0 ca1 ca2 ca3 ca4 ca5 ca6 ca7 ca8 ya0 ya1 ya2 ya3
                      clear x0 x1 hva
                      refine flo3_fork _ rfl _ rfl ?_ ?_
                      · go_wp2_with fail
                        go_at_call 14
                        refine Calls.mono (L1.out _ (Turns.refl _ _)) ?_
                        rintro e w7 ⟨x_, rfl, ha, t7⟩
                        skip
                        obtain ⟨Aa, da, rfl, _⟩ := row_form (ha).row
                        simp only [Rw.v]
                        go_wp2_with fail
                        refine ⟨t7, _, fun _ _ h => h, ?_⟩
                        refine flo3_alone _ rfl ?_
                        go_wp2_with fail
                        have D := ((Sep.start w6).turns t7).alloc #[.int .i64 0, .int .i64 0, .int .i64 0, .slice none 0 0] 38
                        refine ⟨D.t, _, fun _ _ h => h, ?_⟩
                        generalize w7.alloc (.cells #[.int .i64 0, .int .i64 0, .int .i64 0, .slice none 0 0] 38) = w8 at *
                        have z0 : World.cell? (w8) ⟨w7.heap.size, 0, none⟩ = some _ := (D.blk 0 rfl).cell 0
                        have zf0 : World.frozen? (w8) ⟨w7.heap.size, 0, none⟩ = false := (D.blk 0 rfl).frozen 0
                        have z1 : World.cell? (w8) ⟨w7.heap.size, 1, none⟩ = some _ := (D.blk 0 rfl).cell 1
                        have zf1 : World.frozen? (w8) ⟨w7.heap.size, 1, none⟩ = false := (D.blk 0 rfl).frozen 1
                        have z2 : World.cell? (w8) ⟨w7.heap.size, 2, none⟩ = some _ := (D.blk 0 rfl).cell 2
                        have zf2 : World.frozen? (w8) ⟨w7.heap.size, 2, none⟩ = false := (D.blk 0 rfl).frozen 2
                        have z3 : World.cell? (w8) ⟨w7.heap.size, 3, none⟩ = some _ := (D.blk 0 rfl).cell 3
                        have zf3 : World.frozen? (w8) ⟨w7.heap.size, 3, none⟩ = false := (D.blk 0 rfl).frozen 3
                        replace D := (((D.set 0 rfl 0 (.int .i64 va.key)).set 0 rfl 1 (.int .i64 va.avail)).set 0 rfl 2 (.int .i64 va.mark)).set 0 rfl 3 (.slice Aa va.out.length da)
                        have B_w9 : Blk _ (w7.heap.size) #[.int .i64 va.key, .int .i64 va.avail, .int .i64 va.mark, .slice Aa va.out.length da] 38 := D.blk 0 rfl
                        refine flo3_alone _ rfl ?_
                        go_wp2_with fail
                        refine ⟨D.t, _, fun _ _ h => h, ?_⟩
                        refine flo3_end ?_
                        generalize (((w8.setCell ⟨w7.heap.size, 0, none⟩ (.int .i64 va.key)).setCell ⟨w7.heap.size, 1, none⟩ (.int .i64 va.avail)).setCell ⟨w7.heap.size, 2, none⟩ (.int .i64 va.mark)).setCell ⟨w7.heap.size, 3, none⟩ (.slice Aa va.out.length da) = w9 at *
                        clear z0 z1 z2 z3 zf0 zf1 zf2 zf3
                        generalize w7.heap.size = b_w9 at *
                        clear t7
                        have H9 := Lib.hid (H6.out.turns D.t)
                        have B9 := Lib.hid B_w9
                        have ha9 := Lib.hid (ha.turns D.t)
                        have tr9 := Lib.hid (tr6.out.trans D.t)
                        have hX9 := Lib.hid (hX6.out.turns D.t)
                        clear D ha tr6 hX6 H6 L1 B_w9
                        have HA := Lib.hid H9.out.drew
                        have BA := Lib.hid (B9.out.drew)
                        have haA := Lib.hid (ha9.out.turns ((Turns.refl [] w9).drew))
                        have trA := Lib.hid tr9.out.drew
                        have hXA := Lib.hid (hX9.out.turns ((Turns.refl [] w9).drew))
                        clear H9 B9 ha9 tr9 hX9
                        go_wp2_with fail
                        go_wp2_with fail
                        refine wp_region_flo3 (.read 0 [10] (.read 1 [9, 10] (.read 2 [10] (.read 3 [10] (.read 4 [9, 10] (.read 5 [9, 10] (.read 6 [9, 10] (.read 7 [9, 10] (.read 8 [10] (.fork 9 (.alone 10 (.alone 11 (.done))) 10 (.alone 9 (.alone 11 (.done))))))))))))) (fun j W => Turns [] w9.drew W) (by kernel_rfl) rfl (by kernel_rfl) (by intro c d v a w h; cases d <;> first | (simpa [Exit.then, Exit.inBlock, Act.put] using h) | exact h) ?_
                        generalize w9.drew = wA at *
                        have L2 := Lib.hid (fun W (t : Turns [] wA W) => look_is [] wA W start y.key n q _ X hXA.out t (by have := hXl.out; omega))
                        have ta0 : World.cell? (wA) ⟨w.heap.size, 0, none⟩ = some _ := (HA.out.blk 4 rfl).cell 0
                        have ta1 : World.cell? (wA) ⟨w.heap.size, 1, none⟩ = some _ := (HA.out.blk 4 rfl).cell 1
                        have ca0 : World.cell? (wA) ⟨w.heap.size + 1, 0, none⟩ = some _ := (HA.out.blk 3 rfl).cell 0
                        have ca1 : World.cell? (wA) ⟨w.heap.size + 1, 1, none⟩ = some _ := (HA.out.blk 3 rfl).cell 1
                        have ca2 : World.cell? (wA) ⟨w.heap.size + 1, 2, none⟩ = some _ := (HA.out.blk 3 rfl).cell 2
                        have ca3 : World.cell? (wA) ⟨w.heap.size + 1, 3, none⟩ = some _ := (HA.out.blk 3 rfl).cell 3
                        have ca4 : World.cell? (wA) ⟨w.heap.size + 1, 4, none⟩ = some _ := (HA.out.blk 3 rfl).cell 4
                        have ca5 : World.cell? (wA) ⟨w.heap.size + 1, 5, none⟩ = some _ := (HA.out.blk 3 rfl).cell 5
                        have ca6 : World.cell? (wA) ⟨w.heap.size + 1, 6, none⟩ = some _ := (HA.out.blk 3 rfl).cell 6
                        have ca7 : World.cell? (wA) ⟨w.heap.size + 1, 7, none⟩ = some _ := (HA.out.blk 3 rfl).cell 7
                        have ca8 : World.cell? (wA) ⟨w.heap.size + 1, 8, none⟩ = some _ := (HA.out.blk 3 rfl).cell 8
                        have ya0 : World.cell? (wA) ⟨bq, 0, none⟩ = some _ := (HA.out.blk 0 rfl).cell 0
                        have ya1 : World.cell? (wA) ⟨bq, 1, none⟩ = some _ := (HA.out.blk 0 rfl).cell 1
                        have ya2 : World.cell? (wA) ⟨bq, 2, none⟩ = some _ := (HA.out.blk 0 rfl).cell 2
                        have ya3 : World.cell? (wA) ⟨bq, 3, none⟩ = some _ := (HA.out.blk 0 rfl).cell 3
                        have u0 : World.cell? (wA) ⟨bx, 0, none⟩ = some _ := (HA.out.blk 1 rfl).cell 0
                        have u1 : World.cell? (wA) ⟨bx, 1, none⟩ = some _ := (HA.out.blk 1 rfl).cell 1
                        obtain ⟨x0, x1⟩ := LQh.out.turns HA.out.t
                        refine flo3_read _ rfl (fun W => Turns [] wA W) (Turns.refl _ _) (fun j hj W hW => hW) (fun K hK => ?_)
                        go_simp
                        first | (refine hK _ ?_) | (refine ⟨fun W hS => ?_, hK _ ?_⟩; · (have T0 := hS.old u0; have T1 := hS.old u1; have Y0 := hS.old ya0; have C8 := hS.old ca8; have X0 := hS.old x0; have X1 := hS.old x1; try go_simp))
                        clear hK K
                        refine flo3_read _ rfl (fun W => Turns [] wA W) (Turns.refl _ _) (fun j hj W hW => hW) (fun K hK => ?_)
                        go_simp
                        first | (refine hK _ ?_) | (refine ⟨fun W hS => ?_, hK _ ?_⟩; · (have T0 := hS.old u0; have T1 := hS.old u1; have Y0 := hS.old ya0; have C8 := hS.old ca8; have X0 := hS.old x0; have X1 := hS.old x1; try go_simp))
                        clear hK K
                        refine flo3_read _ rfl (fun W => Turns [] wA W) (Turns.refl _ _) (fun j hj W hW => hW) (fun K hK => ?_)
                        go_simp
                        first | (refine hK _ ?_) | (refine ⟨fun W hS => ?_, hK _ ?_⟩; · (have T0 := hS.old u0; have T1 := hS.old u1; have Y0 := hS.old ya0; have C8 := hS.old ca8; have X0 := hS.old x0; have X1 := hS.old x1; try go_simp))
                        clear hK K
                        refine flo3_read _ rfl (fun W => Turns [] wA W) (Turns.refl _ _) (fun j hj W hW => hW) (fun K hK => ?_)
                        go_simp
                        first | (refine hK _ ?_) | (refine ⟨fun W hS => ?_, hK _ ?_⟩; · (have T0 := hS.old u0; have T1 := hS.old u1; have Y0 := hS.old ya0; have C8 := hS.old ca8; have X0 := hS.old x0; have X1 := hS.old x1; try go_simp))
                        clear hK K
                        refine flo3_read _ rfl (fun W => Turns [] wA W) (Turns.refl _ _) (fun j hj W hW => hW) (fun K hK => ?_)
                        go_simp
                        first | (refine hK _ ?_) | (refine ⟨fun W hS => ?_, hK _ ?_⟩; · (have T0 := hS.old u0; have T1 := hS.old u1; have Y0 := hS.old ya0; have C8 := hS.old ca8; have X0 := hS.old x0; have X1 := hS.old x1; try go_simp))
                        clear hK K
                        refine flo3_read _ rfl (fun W => Turns [] wA W) (Turns.refl _ _) (fun j hj W hW => hW) (fun K hK => ?_)
                        go_simp
                        first | (refine hK _ ?_) | (refine ⟨fun W hS => ?_, hK _ ?_⟩; · (have T0 := hS.old u0; have T1 := hS.old u1; have Y0 := hS.old ya0; have C8 := hS.old ca8; have X0 := hS.old x0; have X1 := hS.old x1; try go_simp))
                        clear hK K
                        refine flo3_read _ rfl (fun W => Turns [] wA W) (Turns.refl _ _) (fun j hj W hW => hW) (fun K hK => ?_)
                        go_simp
                        first | (refine hK _ ?_) | (refine ⟨fun W hS => ?_, hK _ ?_⟩; · (have T0 := hS.old u0; have T1 := hS.old u1; have Y0 := hS.old ya0; have C8 := hS.old ca8; have X0 := hS.old x0; have X1 := hS.old x1; try go_simp))
                        clear hK K
                        refine flo3_read _ rfl (fun W => Turns [] wA W) (Turns.refl _ _) (fun j hj W hW => hW) (fun K hK => ?_)
                        go_simp
                        first | (refine hK _ ?_) | (refine ⟨fun W hS => ?_, hK _ ?_⟩; · (have T0 := hS.old u0; have T1 := hS.old u1; have Y0 := hS.old ya0; have C8 := hS.old ca8; have X0 := hS.old x0; have X1 := hS.old x1; try go_simp))
                        clear hK K
                        refine flo3_read _ rfl (fun W => Turns [] wA W) (Turns.refl _ _) (fun j hj W hW => hW) (fun K hK => ?_)
                        go_simp
                        first | (refine hK _ ?_) | (refine ⟨fun W hS => ?_, hK _ ?_⟩; · (have T0 := hS.old u0; have T1 := hS.old u1; have Y0 := hS.old ya0; have C8 := hS.old ca8; have X0 := hS.old x0; have X1 := hS.old x1; try go_simp))
                        clear hK K
                        clear ta0 ta1 ca0 ca1 ca2 ca3 ca4 ca5 ca6 ca7 ca8 ya0 ya1 ya2 ya3
                        clear x0 x1 u0 u1
                        rw [hsm.out] at L2
                        refine flo3_fork _ rfl _ rfl ?_ ?_
                        · go_wp2_with fail
                          go_at_call 14
                          refine Calls.mono (L2.out _ (Turns.refl _ _)) ?_
                          rintro e wB ⟨x_, rfl, hb, t7⟩
                          skip
                          obtain ⟨Ab, db, rfl, _⟩ := row_form (hb).row
                          simp only [Rw.v]
                          go_wp2_with fail
                          refine ⟨t7, _, fun _ _ h => h, ?_⟩
                          refine flo3_alone _ rfl ?_
                          go_wp2_with fail
                          have D := ((Sep.start wA).turns t7).alloc #[.int .i64 0, .int .i64 0, .int .i64 0, .slice none 0 0] 38
                          refine ⟨D.t, _, fun _ _ h => h, ?_⟩
                          generalize wB.alloc (.cells #[.int .i64 0, .int .i64 0, .int .i64 0, .slice none 0 0] 38) = wC at *
                          have z0 : World.cell? (wC) ⟨wB.heap.size, 0, none⟩ = some _ := (D.blk 0 rfl).cell 0
                          have zf0 : World.frozen? (wC) ⟨wB.heap.size, 0, none⟩ = false := (D.blk 0 rfl).frozen 0
                          have z1 : World.cell? (wC) ⟨wB.heap.size, 1, none⟩ = some _ := (D.blk 0 rfl).cell 1
                          have zf1 : World.frozen? (wC) ⟨wB.heap.size, 1, none⟩ = false := (D.blk 0 rfl).frozen 1
                          have z2 : World.cell? (wC) ⟨wB.heap.size, 2, none⟩ = some _ := (D.blk 0 rfl).cell 2
                          have zf2 : World.frozen? (wC) ⟨wB.heap.size, 2, none⟩ = false := (D.blk 0 rfl).frozen 2
                          have z3 : World.cell? (wC) ⟨wB.heap.size, 3, none⟩ = some _ := (D.blk 0 rfl).cell 3
                          have zf3 : World.frozen? (wC) ⟨wB.heap.size, 3, none⟩ = false := (D.blk 0 rfl).frozen 3
                          replace D := (((D.set 0 rfl 0 (.int .i64 va.key)).set 0 rfl 1 (.int .i64 va.avail)).set 0 rfl 2 (.int .i64 va.mark)).set 0 rfl 3 (.slice Ab va.out.length db)
                          have B_wD : Blk _ (wB.heap.size) #[.int .i64 va.key, .int .i64 va.avail, .int .i64 va.mark, .slice Ab va.out.length db] 38 := D.blk 0 rfl
                          refine flo3_alone _ rfl ?_
                          go_wp2_with fail
                          refine ⟨D.t, _, fun _ _ h => h, ?_⟩
                          refine flo3_end ?_
                          generalize (((wC.setCell ⟨wB.heap.size, 0, none⟩ (.int .i64 va.key)).setCell ⟨wB.heap.size, 1, none⟩ (.int .i64 va.avail)).setCell ⟨wB.heap.size, 2, none⟩ (.int .i64 va.mark)).setCell ⟨wB.heap.size, 3, none⟩ (.slice Ab va.out.length db) = wD at *
                          clear z0 z1 z2 z3 zf0 zf1 zf2 zf3
                          generalize wB.heap.size = b_wD at *
                          clear t7
                          have B1 := Lib.hid (BA.out.turns D.t (by simp))
                          have B2 := Lib.hid B_wD
                          have SR := Jb.sameRow_is wD _ _ va va (haA.out.turns D.t).row (hb.turns D.t).row
                          have trD := Lib.hid (trA.out.trans D.t)
                          rw [decide_eq_true (rfl : va = va)] at SR
                          simp only [Rw.v] at SR
                          have SRh := Lib.hid SR
                          clear SR D hb haA BA trA HA hXA L2 B_wD
                          have e0 : World.cell? (wD) ⟨b_w9, 0, none⟩ = some _ := (B1.out).cell 0
                          have e1 : World.cell? (wD) ⟨b_w9, 1, none⟩ = some _ := (B1.out).cell 1
                          have e2 : World.cell? (wD) ⟨b_w9, 2, none⟩ = some _ := (B1.out).cell 2
                          have e3 : World.cell? (wD) ⟨b_w9, 3, none⟩ = some _ := (B1.out).cell 3
                          have f0 : World.cell? (wD) ⟨b_wD, 0, none⟩ = some _ := (B2.out).cell 0
                          have f1 : World.cell? (wD) ⟨b_wD, 1, none⟩ = some _ := (B2.out).cell 1
                          have f2 : World.cell? (wD) ⟨b_wD, 2, none⟩ = some _ := (B2.out).cell 2
                          have f3 : World.cell? (wD) ⟨b_wD, 3, none⟩ = some _ := (B2.out).cell 3
                          go_wp2_with fail
                          go_at_call 13
                          refine Calls.mono (SRh.out) ?_
                          rintro e wE ⟨rfl, tE⟩
                          have trE := trD.out.trans tE
                          go_wp2_with fail
                          go_roundw
                          case rel => exact ⟨k + 1, by omega, by go_num, trE⟩
                          case measure => simp [RowKit.intOf]; omega
                        · go_wp2_with fail
                          have D := (Sep.start wA).alloc #[.int .i64 0, .int .i64 0, .int .i64 0, .slice none 0 0] 38
                          refine ⟨D.t, _, fun _ _ h => h, ?_⟩
                          generalize wA.alloc (.cells #[.int .i64 0, .int .i64 0, .int .i64 0, .slice none 0 0] 38) = wB at *
                          refine flo3_alone _ rfl ?_
                          go_wp2_with fail
                          go_at_call 14
                          refine Calls.mono (L2.out _ D.t) ?_
                          rintro e wC ⟨x_, rfl, hb, t7⟩
                          replace D := D.turns t7
                          skip
                          obtain ⟨Ab, db, rfl, _⟩ := row_form (hb).row
                          simp only [Rw.v]
                          go_wp2_with fail
                          refine ⟨D.t, _, fun _ _ h => h, ?_⟩
                          have z0 : World.cell? (wC) ⟨wA.heap.size, 0, none⟩ = some _ := (D.blk 0 rfl).cell 0
                          have zf0 : World.frozen? (wC) ⟨wA.heap.size, 0, none⟩ = false := (D.blk 0 rfl).frozen 0
                          have z1 : World.cell? (wC) ⟨wA.heap.size, 1, none⟩ = some _ := (D.blk 0 rfl).cell 1
                          have zf1 : World.frozen? (wC) ⟨wA.heap.size, 1, none⟩ = false := (D.blk 0 rfl).frozen 1
                          have z2 : World.cell? (wC) ⟨wA.heap.size, 2, none⟩ = some _ := (D.blk 0 rfl).cell 2
                          have zf2 : World.frozen? (wC) ⟨wA.heap.size, 2, none⟩ = false := (D.blk 0 rfl).frozen 2
                          have z3 : World.cell? (wC) ⟨wA.heap.size, 3, none⟩ = some _ := (D.blk 0 rfl).cell 3
                          have zf3 : World.frozen? (wC) ⟨wA.heap.size, 3, none⟩ = false := (D.blk 0 rfl).frozen 3
                          replace D := (((D.set 0 rfl 0 (.int .i64 va.key)).set 0 rfl 1 (.int .i64 va.avail)).set 0 rfl 2 (.int .i64 va.mark)).set 0 rfl 3 (.slice Ab va.out.length db)
                          have B_wD : Blk _ (wA.heap.size) #[.int .i64 va.key, .int .i64 va.avail, .int .i64 va.mark, .slice Ab va.out.length db] 38 := D.blk 0 rfl
                          refine flo3_alone _ rfl ?_
                          go_wp2_with fail
                          refine ⟨D.t, _, fun _ _ h => h, ?_⟩
                          refine flo3_end ?_
                          generalize (((wC.setCell ⟨wA.heap.size, 0, none⟩ (.int .i64 va.key)).setCell ⟨wA.heap.size, 1, none⟩ (.int .i64 va.avail)).setCell ⟨wA.heap.size, 2, none⟩ (.int .i64 va.mark)).setCell ⟨wA.heap.size, 3, none⟩ (.slice Ab va.out.length db) = wD at *
                          clear z0 z1 z2 z3 zf0 zf1 zf2 zf3
                          generalize wA.heap.size = b_wD at *
                          clear t7
                          have B1 := Lib.hid (BA.out.turns D.t (by simp))
                          have B2 := Lib.hid B_wD
                          have SR := Jb.sameRow_is wD _ _ va va (haA.out.turns D.t).row (hb.turns D.t).row
                          have trD := Lib.hid (trA.out.trans D.t)
                          rw [decide_eq_true (rfl : va = va)] at SR
                          simp only [Rw.v] at SR
                          have SRh := Lib.hid SR
                          clear SR D hb haA BA trA HA hXA L2 B_wD
                          have e0 : World.cell? (wD) ⟨b_w9, 0, none⟩ = some _ := (B1.out).cell 0
                          have e1 : World.cell? (wD) ⟨b_w9, 1, none⟩ = some _ := (B1.out).cell 1
                          have e2 : World.cell? (wD) ⟨b_w9, 2, none⟩ = some _ := (B1.out).cell 2
                          have e3 : World.cell? (wD) ⟨b_w9, 3, none⟩ = some _ := (B1.out).cell 3
                          have f0 : World.cell? (wD) ⟨b_wD, 0, none⟩ = some _ := (B2.out).cell 0
                          have f1 : World.cell? (wD) ⟨b_wD, 1, none⟩ = some _ := (B2.out).cell 1
                          have f2 : World.cell? (wD) ⟨b_wD, 2, none⟩ = some _ := (B2.out).cell 2
                          have f3 : World.cell? (wD) ⟨b_wD, 3, none⟩ = some _ := (B2.out).cell 3
                          go_wp2_with fail
                          go_at_call 13
                          refine Calls.mono (SRh.out) ?_
                          rintro e wE ⟨rfl, tE⟩
                          have trE := trD.out.trans tE
                          go_wp2_with fail
                          go_roundw
                          case rel => exact ⟨k + 1, by omega, by go_num, trE⟩
                          case measure => simp [RowKit.intOf]; omega
                      · go_wp2_with fail
                        have D := (Sep.start w6).alloc #[.int .i64 0, .int .i64 0, .int .i64 0, .slice none 0 0] 38
                        refine ⟨D.t, _, fun _ _ h => h, ?_⟩
                        generalize w6.alloc (.cells #[.int .i64 0, .int .i64 0, .int .i64 0, .slice none 0 0] 38) = w7 at *
                        refine flo3_alone _ rfl ?_
                        go_wp2_with fail
                        go_at_call 14
                        refine Calls.mono (L1.out _ D.t) ?_
                        rintro e w8 ⟨x_, rfl, ha, t7⟩
                        replace D := D.turns t7
                        skip
                        obtain ⟨Aa, da, rfl, _⟩ := row_form (ha).row
                        simp only [Rw.v]
                        go_wp2_with fail
                        refine ⟨D.t, _, fun _ _ h => h, ?_⟩
                        have z0 : World.cell? (w8) ⟨w6.heap.size, 0, none⟩ = some _ := (D.blk 0 rfl).cell 0
                        have zf0 : World.frozen? (w8) ⟨w6.heap.size, 0, none⟩ = false := (D.blk 0 rfl).frozen 0
                        have z1 : World.cell? (w8) ⟨w6.heap.size, 1, none⟩ = some _ := (D.blk 0 rfl).cell 1
                        have zf1 : World.frozen? (w8) ⟨w6.heap.size, 1, none⟩ = false := (D.blk 0 rfl).frozen 1
                        have z2 : World.cell? (w8) ⟨w6.heap.size, 2, none⟩ = some _ := (D.blk 0 rfl).cell 2
                        have zf2 : World.frozen? (w8) ⟨w6.heap.size, 2, none⟩ = false := (D.blk 0 rfl).frozen 2
                        have z3 : World.cell? (w8) ⟨w6.heap.size, 3, none⟩ = some _ := (D.blk 0 rfl).cell 3
                        have zf3 : World.frozen? (w8) ⟨w6.heap.size, 3, none⟩ = false := (D.blk 0 rfl).frozen 3
                        replace D := (((D.set 0 rfl 0 (.int .i64 va.key)).set 0 rfl 1 (.int .i64 va.avail)).set 0 rfl 2 (.int .i64 va.mark)).set 0 rfl 3 (.slice Aa va.out.length da)
                        have B_w9 : Blk _ (w6.heap.size) #[.int .i64 va.key, .int .i64 va.avail, .int .i64 va.mark, .slice Aa va.out.length da] 38 := D.blk 0 rfl
                        refine flo3_alone _ rfl ?_
                        go_wp2_with fail
                        refine ⟨D.t, _, fun _ _ h => h, ?_⟩
                        refine flo3_end ?_
                        generalize (((w8.setCell ⟨w6.heap.size, 0, none⟩ (.int .i64 va.key)).setCell ⟨w6.heap.size, 1, none⟩ (.int .i64 va.avail)).setCell ⟨w6.heap.size, 2, none⟩ (.int .i64 va.mark)).setCell ⟨w6.heap.size, 3, none⟩ (.slice Aa va.out.length da) = w9 at *
                        clear z0 z1 z2 z3 zf0 zf1 zf2 zf3
                        generalize w6.heap.size = b_w9 at *
                        clear t7
                        have H9 := Lib.hid (H6.out.turns D.t)
                        have B9 := Lib.hid B_w9
                        have ha9 := Lib.hid (ha.turns D.t)
                        have tr9 := Lib.hid (tr6.out.trans D.t)
                        have hX9 := Lib.hid (hX6.out.turns D.t)
                        clear D ha tr6 hX6 H6 L1 B_w9
                        have HA := Lib.hid H9.out.drew
                        have BA := Lib.hid (B9.out.drew)
                        have haA := Lib.hid (ha9.out.turns ((Turns.refl [] w9).drew))
                        have trA := Lib.hid tr9.out.drew
                        have hXA := Lib.hid (hX9.out.turns ((Turns.refl [] w9).drew))
                        clear H9 B9 ha9 tr9 hX9
                        go_wp2_with fail
                        go_wp2_with fail
                        refine wp_region_flo3 (.read 0 [10] (.read 1 [9, 10] (.read 2 [10] (.read 3 [10] (.read 4 [9, 10] (.read 5 [9, 10] (.read 6 [9, 10] (.read 7 [9, 10] (.read 8 [10] (.fork 9 (.alone 10 (.alone 11 (.done))) 10 (.alone 9 (.alone 11 (.done))))))))))))) (fun j W => Turns [] w9.drew W) (by kernel_rfl) rfl (by kernel_rfl) (by intro c d v a w h; cases d <;> first | (simpa [Exit.then, Exit.inBlock, Act.put] using h) | exact h) ?_
                        generalize w9.drew = wA at *
                        have L2 := Lib.hid (fun W (t : Turns [] wA W) => look_is [] wA W start y.key n q _ X hXA.out t (by have := hXl.out; omega))
                        have ta0 : World.cell? (wA) ⟨w.heap.size, 0, none⟩ = some _ := (HA.out.blk 4 rfl).cell 0
                        have ta1 : World.cell? (wA) ⟨w.heap.size, 1, none⟩ = some _ := (HA.out.blk 4 rfl).cell 1
                        have ca0 : World.cell? (wA) ⟨w.heap.size + 1, 0, none⟩ = some _ := (HA.out.blk 3 rfl).cell 0
                        have ca1 : World.cell? (wA) ⟨w.heap.size + 1, 1, none⟩ = some _ := (HA.out.blk 3 rfl).cell 1
                        have ca2 : World.cell? (wA) ⟨w.heap.size + 1, 2, none⟩ = some _ := (HA.out.blk 3 rfl).cell 2
                        have ca3 : World.cell? (wA) ⟨w.heap.size + 1, 3, none⟩ = some _ := (HA.out.blk 3 rfl).cell 3
                        have ca4 : World.cell? (wA) ⟨w.heap.size + 1, 4, none⟩ = some _ := (HA.out.blk 3 rfl).cell 4
                        have ca5 : World.cell? (wA) ⟨w.heap.size + 1, 5, none⟩ = some _ := (HA.out.blk 3 rfl).cell 5
                        have ca6 : World.cell? (wA) ⟨w.heap.size + 1, 6, none⟩ = some _ := (HA.out.blk 3 rfl).cell 6
                        have ca7 : World.cell? (wA) ⟨w.heap.size + 1, 7, none⟩ = some _ := (HA.out.blk 3 rfl).cell 7
                        have ca8 : World.cell? (wA) ⟨w.heap.size + 1, 8, none⟩ = some _ := (HA.out.blk 3 rfl).cell 8
                        have ya0 : World.cell? (wA) ⟨bq, 0, none⟩ = some _ := (HA.out.blk 0 rfl).cell 0
                        have ya1 : World.cell? (wA) ⟨bq, 1, none⟩ = some _ := (HA.out.blk 0 rfl).cell 1
                        have ya2 : World.cell? (wA) ⟨bq, 2, none⟩ = some _ := (HA.out.blk 0 rfl).cell 2
                        have ya3 : World.cell? (wA) ⟨bq, 3, none⟩ = some _ := (HA.out.blk 0 rfl).cell 3
                        have u0 : World.cell? (wA) ⟨bx, 0, none⟩ = some _ := (HA.out.blk 1 rfl).cell 0
                        have u1 : World.cell? (wA) ⟨bx, 1, none⟩ = some _ := (HA.out.blk 1 rfl).cell 1
                        obtain ⟨x0, x1⟩ := LQh.out.turns HA.out.t
                        refine flo3_read _ rfl (fun W => Turns [] wA W) (Turns.refl _ _) (fun j hj W hW => hW) (fun K hK => ?_)
                        go_simp
                        first | (refine hK _ ?_) | (refine ⟨fun W hS => ?_, hK _ ?_⟩; · (have T0 := hS.old u0; have T1 := hS.old u1; have Y0 := hS.old ya0; have C8 := hS.old ca8; have X0 := hS.old x0; have X1 := hS.old x1; try go_simp))
                        clear hK K
                        refine flo3_read _ rfl (fun W => Turns [] wA W) (Turns.refl _ _) (fun j hj W hW => hW) (fun K hK => ?_)
                        go_simp
                        first | (refine hK _ ?_) | (refine ⟨fun W hS => ?_, hK _ ?_⟩; · (have T0 := hS.old u0; have T1 := hS.old u1; have Y0 := hS.old ya0; have C8 := hS.old ca8; have X0 := hS.old x0; have X1 := hS.old x1; try go_simp))
                        clear hK K
                        refine flo3_read _ rfl (fun W => Turns [] wA W) (Turns.refl _ _) (fun j hj W hW => hW) (fun K hK => ?_)
                        go_simp
                        first | (refine hK _ ?_) | (refine ⟨fun W hS => ?_, hK _ ?_⟩; · (have T0 := hS.old u0; have T1 := hS.old u1; have Y0 := hS.old ya0; have C8 := hS.old ca8; have X0 := hS.old x0; have X1 := hS.old x1; try go_simp))
                        clear hK K
                        refine flo3_read _ rfl (fun W => Turns [] wA W) (Turns.refl _ _) (fun j hj W hW => hW) (fun K hK => ?_)
                        go_simp
                        first | (refine hK _ ?_) | (refine ⟨fun W hS => ?_, hK _ ?_⟩; · (have T0 := hS.old u0; have T1 := hS.old u1; have Y0 := hS.old ya0; have C8 := hS.old ca8; have X0 := hS.old x0; have X1 := hS.old x1; try go_simp))
                        clear hK K
                        refine flo3_read _ rfl (fun W => Turns [] wA W) (Turns.refl _ _) (fun j hj W hW => hW) (fun K hK => ?_)
                        go_simp
                        first | (refine hK _ ?_) | (refine ⟨fun W hS => ?_, hK _ ?_⟩; · (have T0 := hS.old u0; have T1 := hS.old u1; have Y0 := hS.old ya0; have C8 := hS.old ca8; have X0 := hS.old x0; have X1 := hS.old x1; try go_simp))
                        clear hK K
                        refine flo3_read _ rfl (fun W => Turns [] wA W) (Turns.refl _ _) (fun j hj W hW => hW) (fun K hK => ?_)
                        go_simp
                        first | (refine hK _ ?_) | (refine ⟨fun W hS => ?_, hK _ ?_⟩; · (have T0 := hS.old u0; have T1 := hS.old u1; have Y0 := hS.old ya0; have C8 := hS.old ca8; have X0 := hS.old x0; have X1 := hS.old x1; try go_simp))
                        clear hK K
                        refine flo3_read _ rfl (fun W => Turns [] wA W) (Turns.refl _ _) (fun j hj W hW => hW) (fun K hK => ?_)
                        go_simp
                        first | (refine hK _ ?_) | (refine ⟨fun W hS => ?_, hK _ ?_⟩; · (have T0 := hS.old u0; have T1 := hS.old u1; have Y0 := hS.old ya0; have C8 := hS.old ca8; have X0 := hS.old x0; have X1 := hS.old x1; try go_simp))
                        clear hK K
                        refine flo3_read _ rfl (fun W => Turns [] wA W) (Turns.refl _ _) (fun j hj W hW => hW) (fun K hK => ?_)
                        go_simp
                        first | (refine hK _ ?_) | (refine ⟨fun W hS => ?_, hK _ ?_⟩; · (have T0 := hS.old u0; have T1 := hS.old u1; have Y0 := hS.old ya0; have C8 := hS.old ca8; have X0 := hS.old x0; have X1 := hS.old x1; try go_simp))
                        clear hK K
                        refine flo3_read _ rfl (fun W => Turns [] wA W) (Turns.refl _ _) (fun j hj W hW => hW) (fun K hK => ?_)
                        go_simp
                        first | (refine hK _ ?_) | (refine ⟨fun W hS => ?_, hK _ ?_⟩; · (have T0 := hS.old u0; have T1 := hS.old u1; have Y0 := hS.old ya0; have C8 := hS.old ca8; have X0 := hS.old x0; have X1 := hS.old x1; try go_simp))
                        clear hK K
                        clear ta0 ta1 ca0 ca1 ca2 ca3 ca4 ca5 ca6 ca7 ca8 ya0 ya1 ya2 ya3
                        clear x0 x1 u0 u1
                        rw [hsm.out] at L2
                        refine flo3_fork _ rfl _ rfl ?_ ?_
                        · go_wp2_with fail
                          go_at_call 14
                          refine Calls.mono (L2.out _ (Turns.refl _ _)) ?_
                          rintro e wB ⟨x_, rfl, hb, t7⟩
                          skip
                          obtain ⟨Ab, db, rfl, _⟩ := row_form (hb).row
                          simp only [Rw.v]
                          go_wp2_with fail
                          refine ⟨t7, _, fun _ _ h => h, ?_⟩
                          refine flo3_alone _ rfl ?_
                          go_wp2_with fail
                          have D := ((Sep.start wA).turns t7).alloc #[.int .i64 0, .int .i64 0, .int .i64 0, .slice none 0 0] 38
                          refine ⟨D.t, _, fun _ _ h => h, ?_⟩
                          generalize wB.alloc (.cells #[.int .i64 0, .int .i64 0, .int .i64 0, .slice none 0 0] 38) = wC at *
                          have z0 : World.cell? (wC) ⟨wB.heap.size, 0, none⟩ = some _ := (D.blk 0 rfl).cell 0
                          have zf0 : World.frozen? (wC) ⟨wB.heap.size, 0, none⟩ = false := (D.blk 0 rfl).frozen 0
                          have z1 : World.cell? (wC) ⟨wB.heap.size, 1, none⟩ = some _ := (D.blk 0 rfl).cell 1
                          have zf1 : World.frozen? (wC) ⟨wB.heap.size, 1, none⟩ = false := (D.blk 0 rfl).frozen 1
                          have z2 : World.cell? (wC) ⟨wB.heap.size, 2, none⟩ = some _ := (D.blk 0 rfl).cell 2
                          have zf2 : World.frozen? (wC) ⟨wB.heap.size, 2, none⟩ = false := (D.blk 0 rfl).frozen 2
                          have z3 : World.cell? (wC) ⟨wB.heap.size, 3, none⟩ = some _ := (D.blk 0 rfl).cell 3
                          have zf3 : World.frozen? (wC) ⟨wB.heap.size, 3, none⟩ = false := (D.blk 0 rfl).frozen 3
                          replace D := (((D.set 0 rfl 0 (.int .i64 va.key)).set 0 rfl 1 (.int .i64 va.avail)).set 0 rfl 2 (.int .i64 va.mark)).set 0 rfl 3 (.slice Ab va.out.length db)
                          have B_wD : Blk _ (wB.heap.size) #[.int .i64 va.key, .int .i64 va.avail, .int .i64 va.mark, .slice Ab va.out.length db] 38 := D.blk 0 rfl
                          refine flo3_alone _ rfl ?_
                          go_wp2_with fail
                          refine ⟨D.t, _, fun _ _ h => h, ?_⟩
                          refine flo3_end ?_
                          generalize (((wC.setCell ⟨wB.heap.size, 0, none⟩ (.int .i64 va.key)).setCell ⟨wB.heap.size, 1, none⟩ (.int .i64 va.avail)).setCell ⟨wB.heap.size, 2, none⟩ (.int .i64 va.mark)).setCell ⟨wB.heap.size, 3, none⟩ (.slice Ab va.out.length db) = wD at *
                          clear z0 z1 z2 z3 zf0 zf1 zf2 zf3
                          generalize wB.heap.size = b_wD at *
                          clear t7
                          have B1 := Lib.hid (BA.out.turns D.t (by simp))
                          have B2 := Lib.hid B_wD
                          have SR := Jb.sameRow_is wD _ _ va va (haA.out.turns D.t).row (hb.turns D.t).row
                          have trD := Lib.hid (trA.out.trans D.t)
                          rw [decide_eq_true (rfl : va = va)] at SR
                          simp only [Rw.v] at SR
                          have SRh := Lib.hid SR
                          clear SR D hb haA BA trA HA hXA L2 B_wD
                          have e0 : World.cell? (wD) ⟨b_w9, 0, none⟩ = some _ := (B1.out).cell 0
                          have e1 : World.cell? (wD) ⟨b_w9, 1, none⟩ = some _ := (B1.out).cell 1
                          have e2 : World.cell? (wD) ⟨b_w9, 2, none⟩ = some _ := (B1.out).cell 2
                          have e3 : World.cell? (wD) ⟨b_w9, 3, none⟩ = some _ := (B1.out).cell 3
                          have f0 : World.cell? (wD) ⟨b_wD, 0, none⟩ = some _ := (B2.out).cell 0
                          have f1 : World.cell? (wD) ⟨b_wD, 1, none⟩ = some _ := (B2.out).cell 1
                          have f2 : World.cell? (wD) ⟨b_wD, 2, none⟩ = some _ := (B2.out).cell 2
                          have f3 : World.cell? (wD) ⟨b_wD, 3, none⟩ = some _ := (B2.out).cell 3
                          go_wp2_with fail
                          go_at_call 13
                          refine Calls.mono (SRh.out) ?_
                          rintro e wE ⟨rfl, tE⟩
                          have trE := trD.out.trans tE
                          go_wp2_with fail
                          go_roundw
                          case rel => exact ⟨k + 1, by omega, by go_num, trE⟩
                          case measure => simp [RowKit.intOf]; omega
                        · go_wp2_with fail
                          have D := (Sep.start wA).alloc #[.int .i64 0, .int .i64 0, .int .i64 0, .slice none 0 0] 38
                          refine ⟨D.t, _, fun _ _ h => h, ?_⟩
                          generalize wA.alloc (.cells #[.int .i64 0, .int .i64 0, .int .i64 0, .slice none 0 0] 38) = wB at *
                          refine flo3_alone _ rfl ?_
                          go_wp2_with fail
                          go_at_call 14
                          refine Calls.mono (L2.out _ D.t) ?_
                          rintro e wC ⟨x_, rfl, hb, t7⟩
                          replace D := D.turns t7
                          skip
                          obtain ⟨Ab, db, rfl, _⟩ := row_form (hb).row
                          simp only [Rw.v]
                          go_wp2_with fail
                          refine ⟨D.t, _, fun _ _ h => h, ?_⟩
                          have z0 : World.cell? (wC) ⟨wA.heap.size, 0, none⟩ = some _ := (D.blk 0 rfl).cell 0
                          have zf0 : World.frozen? (wC) ⟨wA.heap.size, 0, none⟩ = false := (D.blk 0 rfl).frozen 0
                          have z1 : World.cell? (wC) ⟨wA.heap.size, 1, none⟩ = some _ := (D.blk 0 rfl).cell 1
                          have zf1 : World.frozen? (wC) ⟨wA.heap.size, 1, none⟩ = false := (D.blk 0 rfl).frozen 1
                          have z2 : World.cell? (wC) ⟨wA.heap.size, 2, none⟩ = some _ := (D.blk 0 rfl).cell 2
                          have zf2 : World.frozen? (wC) ⟨wA.heap.size, 2, none⟩ = false := (D.blk 0 rfl).frozen 2
                          have z3 : World.cell? (wC) ⟨wA.heap.size, 3, none⟩ = some _ := (D.blk 0 rfl).cell 3
                          have zf3 : World.frozen? (wC) ⟨wA.heap.size, 3, none⟩ = false := (D.blk 0 rfl).frozen 3
                          replace D := (((D.set 0 rfl 0 (.int .i64 va.key)).set 0 rfl 1 (.int .i64 va.avail)).set 0 rfl 2 (.int .i64 va.mark)).set 0 rfl 3 (.slice Ab va.out.length db)
                          have B_wD : Blk _ (wA.heap.size) #[.int .i64 va.key, .int .i64 va.avail, .int .i64 va.mark, .slice Ab va.out.length db] 38 := D.blk 0 rfl
                          refine flo3_alone _ rfl ?_
                          go_wp2_with fail
                          refine ⟨D.t, _, fun _ _ h => h, ?_⟩
                          refine flo3_end ?_
                          generalize (((wC.setCell ⟨wA.heap.size, 0, none⟩ (.int .i64 va.key)).setCell ⟨wA.heap.size, 1, none⟩ (.int .i64 va.avail)).setCell ⟨wA.heap.size, 2, none⟩ (.int .i64 va.mark)).setCell ⟨wA.heap.size, 3, none⟩ (.slice Ab va.out.length db) = wD at *
                          clear z0 z1 z2 z3 zf0 zf1 zf2 zf3
                          generalize wA.heap.size = b_wD at *
                          clear t7
                          have B1 := Lib.hid (BA.out.turns D.t (by simp))
                          have B2 := Lib.hid B_wD
                          have SR := Jb.sameRow_is wD _ _ va va (haA.out.turns D.t).row (hb.turns D.t).row
                          have trD := Lib.hid (trA.out.trans D.t)
                          rw [decide_eq_true (rfl : va = va)] at SR
                          simp only [Rw.v] at SR
                          have SRh := Lib.hid SR
                          clear SR D hb haA BA trA HA hXA L2 B_wD
                          have e0 : World.cell? (wD) ⟨b_w9, 0, none⟩ = some _ := (B1.out).cell 0
                          have e1 : World.cell? (wD) ⟨b_w9, 1, none⟩ = some _ := (B1.out).cell 1
                          have e2 : World.cell? (wD) ⟨b_w9, 2, none⟩ = some _ := (B1.out).cell 2
                          have e3 : World.cell? (wD) ⟨b_w9, 3, none⟩ = some _ := (B1.out).cell 3
                          have f0 : World.cell? (wD) ⟨b_wD, 0, none⟩ = some _ := (B2.out).cell 0
                          have f1 : World.cell? (wD) ⟨b_wD, 1, none⟩ = some _ := (B2.out).cell 1
                          have f2 : World.cell? (wD) ⟨b_wD, 2, none⟩ = some _ := (B2.out).cell 2
                          have f3 : World.cell? (wD) ⟨b_wD, 3, none⟩ = some _ := (B2.out).cell 3
                          go_wp2_with fail
                          go_at_call 13
                          refine Calls.mono (SRh.out) ?_
                          rintro e wE ⟨rfl, tE⟩
                          have trE := trD.out.trans tE
                          go_wp2_with fail
                          go_roundw
                          case rel => exact ⟨k + 1, by omega, by go_num, trE⟩
                          case measure => simp [RowKit.intOf]; omega
                · obtain rfl : k = R.length := by omega
                  have g1 : decide ((R.length : Int) < (R.length : Int)) = false := by simp
                  have t0 : World.cell? (wr) ⟨w.heap.size, 0, none⟩ = some _ := (H.out.blk 3 rfl).cell 0
                  have t1 : World.cell? (wr) ⟨w.heap.size, 1, none⟩ = some _ := (H.out.blk 3 rfl).cell 1
                  go_wp2_with fail
                  go_at_call 7
                  refine Calls.mono (alive_is _) ?_
                  rintro e w2 ⟨rfl, t2⟩
                  go_wp2_with fail
                  go_ret
                  exact ⟨rfl, H.out.t.trans t2⟩
end Go.Proofs.Ytphhfdlhkginkaa.Jh
