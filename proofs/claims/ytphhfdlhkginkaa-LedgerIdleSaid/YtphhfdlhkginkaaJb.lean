/- annonalaw09's Fits and sameRow. -/
import Derived.Test.YtphhfdlhkginkaaNr
import Derived.Test.YtphhfdlhkginkaaCd
import Derived.Test.YtphhfdlhkginkaaFd
import Derived.Test.YtphhfdlhkginkaaBc
import Derived.Test.YtphhfdlhkginkaaBk
import Derived.Test.YtphhfdlhkginkaaBn
set_option linter.unusedVariables false
set_option linter.unusedSimpArgs false
set_option maxRecDepth 100000
namespace Go.Proofs.Ytphhfdlhkginkaa.Jb
open Go.RowKit Go.MapKept Hm Hs Hr Hb Hf Hx Hy Hv Fa Fb Fc Ff Fg Fh Fi Fq Fr_ Nr Ba Bc Bk Cf Cn Ca Cb Cc Cd Bn
def fitB (start : Int) (R : List Row) (c : Cfg) : Bool := fitsB ⟨0, 0, [], start, R⟩ && (decide ((c.rates.length : Int) ≤ 60) && (tableB start R && (errR c == 0)))
set_option maxHeartbeats 4000000 in
theorem fits_is (w : World) (start : Int) (v : Value) (R : List Row) (c : Cfg) (h : RT w v R) (hr : RdS 2 w c.rv (rts c.rates)) : Calls Try.prog 6 #[.agg #[.int .i64 start, v], c.v] w fun e w' => e = .returned (.bool (fitB start R c)) ∧ Turns [] w w' := by
  obtain ⟨A, cc, rfl, hlc, hcm⟩ := h.form
  have hF := Lib.hid (fun W (t : Turns [] w W) => fitsToken_is W ⟨0, 0, [], start, R⟩ (.slice none 0 0) _ ⟨RdS.nil 1 W, h.turns t⟩)
  have hT := Lib.hid (fun W (t : Turns [] w W) => Fd.rtable_is W start _ R (h.turns t))
  have hC := Lib.hid (fun W (t : Turns [] w W) => dcheck_is W c (hr.mv (fun a u => t.old)))
  obtain ⟨Ar, cr, hrv, hlr, hcr⟩ := hr.form
  rw [rts_len] at hrv hlr
  unfold fitB
  have hlen : c.rates.length = c.rates.length := rfl
  generalize hfb : fitsB ⟨0, 0, [], start, R⟩ = fb at *
  generalize tableB start R = tb at *
  generalize errR c = er at *
  obtain ⟨n, skew, ttl, valid, loss, hear, keys, queue, rv, rates⟩ := c
  simp only at hrv hlr hC ⊢
  subst hrv
  unfold Cfg.v at hC ⊢
  unfold tkv at hF
  simp only at hC hF ⊢
  have H := ((Sep.start w).alloc #[.int .i64 start, .slice A R.length cc] 24).alloc #[.int .i64 n, .int .i64 skew, .int .i64 ttl, .int .i64 valid, .int .i64 loss, .int .i64 hear, .int .i64 keys, .int .i64 queue, .slice Ar rates.length cr] 27
  rw [World.size_alloc] at H
  have Hh := Lib.hid H
  clear h hr H hfb hlen
  cases fb with
  | false =>
    go_enter Try.func6, Try.ntmps6
    go_wp2_with fail
    go_at_call 27
    refine Calls.mono (hF.out _ Hh.out.t) ?_
    rintro e w1 ⟨rfl, t1⟩
    have H1 := Lib.hid (Hh.out.turns t1)
    clear t1 Hh hF
    have t0 : World.cell? (w1) ⟨w.heap.size, 0, none⟩ = some _ := (H1.out.blk 1 rfl).cell 0
    have t1 : World.cell? (w1) ⟨w.heap.size, 1, none⟩ = some _ := (H1.out.blk 1 rfl).cell 1
    have c0 : World.cell? (w1) ⟨w.heap.size + 1, 0, none⟩ = some _ := (H1.out.blk 0 rfl).cell 0
    have c1 : World.cell? (w1) ⟨w.heap.size + 1, 1, none⟩ = some _ := (H1.out.blk 0 rfl).cell 1
    have c2 : World.cell? (w1) ⟨w.heap.size + 1, 2, none⟩ = some _ := (H1.out.blk 0 rfl).cell 2
    have c3 : World.cell? (w1) ⟨w.heap.size + 1, 3, none⟩ = some _ := (H1.out.blk 0 rfl).cell 3
    have c4 : World.cell? (w1) ⟨w.heap.size + 1, 4, none⟩ = some _ := (H1.out.blk 0 rfl).cell 4
    have c5 : World.cell? (w1) ⟨w.heap.size + 1, 5, none⟩ = some _ := (H1.out.blk 0 rfl).cell 5
    have c6 : World.cell? (w1) ⟨w.heap.size + 1, 6, none⟩ = some _ := (H1.out.blk 0 rfl).cell 6
    have c7 : World.cell? (w1) ⟨w.heap.size + 1, 7, none⟩ = some _ := (H1.out.blk 0 rfl).cell 7
    have c8 : World.cell? (w1) ⟨w.heap.size + 1, 8, none⟩ = some _ := (H1.out.blk 0 rfl).cell 8
    go_wp2_with fail
    go_ret
    exact ⟨rfl, H1.out.t⟩
  | true =>
    by_cases h60 : (rates.length : Int) > 60
    · have g1 := decide_eq_true h60
      have g2 : decide ((rates.length : Int) ≤ 60) = false := decide_eq_false (by omega)
      rw [g2]
      clear h60 g2
      go_enter Try.func6, Try.ntmps6
      go_wp2_with fail
      go_at_call 27
      refine Calls.mono (hF.out _ Hh.out.t) ?_
      rintro e w1 ⟨rfl, t1⟩
      have H1 := Lib.hid (Hh.out.turns t1)
      clear t1 Hh hF
      have t0 : World.cell? (w1) ⟨w.heap.size, 0, none⟩ = some _ := (H1.out.blk 1 rfl).cell 0
      have t1 : World.cell? (w1) ⟨w.heap.size, 1, none⟩ = some _ := (H1.out.blk 1 rfl).cell 1
      have c0 : World.cell? (w1) ⟨w.heap.size + 1, 0, none⟩ = some _ := (H1.out.blk 0 rfl).cell 0
      have c1 : World.cell? (w1) ⟨w.heap.size + 1, 1, none⟩ = some _ := (H1.out.blk 0 rfl).cell 1
      have c2 : World.cell? (w1) ⟨w.heap.size + 1, 2, none⟩ = some _ := (H1.out.blk 0 rfl).cell 2
      have c3 : World.cell? (w1) ⟨w.heap.size + 1, 3, none⟩ = some _ := (H1.out.blk 0 rfl).cell 3
      have c4 : World.cell? (w1) ⟨w.heap.size + 1, 4, none⟩ = some _ := (H1.out.blk 0 rfl).cell 4
      have c5 : World.cell? (w1) ⟨w.heap.size + 1, 5, none⟩ = some _ := (H1.out.blk 0 rfl).cell 5
      have c6 : World.cell? (w1) ⟨w.heap.size + 1, 6, none⟩ = some _ := (H1.out.blk 0 rfl).cell 6
      have c7 : World.cell? (w1) ⟨w.heap.size + 1, 7, none⟩ = some _ := (H1.out.blk 0 rfl).cell 7
      have c8 : World.cell? (w1) ⟨w.heap.size + 1, 8, none⟩ = some _ := (H1.out.blk 0 rfl).cell 8
      go_wp2_with fail
      go_ret
      exact ⟨rfl, H1.out.t⟩
    · have g1 := decide_eq_false h60
      have g2 : decide ((rates.length : Int) ≤ 60) = true := decide_eq_true (by omega)
      rw [g2]
      simp only [Bool.true_and]
      clear h60 g2
      go_enter Try.func6, Try.ntmps6
      go_wp2_with fail
      go_at_call 27
      refine Calls.mono (hF.out _ Hh.out.t) ?_
      rintro e w1 ⟨rfl, t1⟩
      have H1 := Lib.hid (Hh.out.turns t1)
      clear t1 Hh hF
      have t0 : World.cell? (w1) ⟨w.heap.size, 0, none⟩ = some _ := (H1.out.blk 1 rfl).cell 0
      have t1 : World.cell? (w1) ⟨w.heap.size, 1, none⟩ = some _ := (H1.out.blk 1 rfl).cell 1
      have c0 : World.cell? (w1) ⟨w.heap.size + 1, 0, none⟩ = some _ := (H1.out.blk 0 rfl).cell 0
      have c1 : World.cell? (w1) ⟨w.heap.size + 1, 1, none⟩ = some _ := (H1.out.blk 0 rfl).cell 1
      have c2 : World.cell? (w1) ⟨w.heap.size + 1, 2, none⟩ = some _ := (H1.out.blk 0 rfl).cell 2
      have c3 : World.cell? (w1) ⟨w.heap.size + 1, 3, none⟩ = some _ := (H1.out.blk 0 rfl).cell 3
      have c4 : World.cell? (w1) ⟨w.heap.size + 1, 4, none⟩ = some _ := (H1.out.blk 0 rfl).cell 4
      have c5 : World.cell? (w1) ⟨w.heap.size + 1, 5, none⟩ = some _ := (H1.out.blk 0 rfl).cell 5
      have c6 : World.cell? (w1) ⟨w.heap.size + 1, 6, none⟩ = some _ := (H1.out.blk 0 rfl).cell 6
      have c7 : World.cell? (w1) ⟨w.heap.size + 1, 7, none⟩ = some _ := (H1.out.blk 0 rfl).cell 7
      have c8 : World.cell? (w1) ⟨w.heap.size + 1, 8, none⟩ = some _ := (H1.out.blk 0 rfl).cell 8
      go_wp2_with fail
      go_at_call 28
      refine Calls.mono (hT.out _ H1.out.t) ?_
      rintro e w2 ⟨rfl, t2⟩
      have H2 := Lib.hid (H1.out.turns t2)
      clear t2 H1 hT t0 t1 c0 c1 c2 c3 c4 c5 c6 c7 c8
      have c0 : World.cell? (w2) ⟨w.heap.size + 1, 0, none⟩ = some _ := (H2.out.blk 0 rfl).cell 0
      have c1 : World.cell? (w2) ⟨w.heap.size + 1, 1, none⟩ = some _ := (H2.out.blk 0 rfl).cell 1
      have c2 : World.cell? (w2) ⟨w.heap.size + 1, 2, none⟩ = some _ := (H2.out.blk 0 rfl).cell 2
      have c3 : World.cell? (w2) ⟨w.heap.size + 1, 3, none⟩ = some _ := (H2.out.blk 0 rfl).cell 3
      have c4 : World.cell? (w2) ⟨w.heap.size + 1, 4, none⟩ = some _ := (H2.out.blk 0 rfl).cell 4
      have c5 : World.cell? (w2) ⟨w.heap.size + 1, 5, none⟩ = some _ := (H2.out.blk 0 rfl).cell 5
      have c6 : World.cell? (w2) ⟨w.heap.size + 1, 6, none⟩ = some _ := (H2.out.blk 0 rfl).cell 6
      have c7 : World.cell? (w2) ⟨w.heap.size + 1, 7, none⟩ = some _ := (H2.out.blk 0 rfl).cell 7
      have c8 : World.cell? (w2) ⟨w.heap.size + 1, 8, none⟩ = some _ := (H2.out.blk 0 rfl).cell 8
      go_wp2_with fail
      go_at_call 29
      refine Calls.mono (hC.out _ H2.out.t) ?_
      rintro e w3 ⟨rfl, t3⟩
      have T3 := H2.out.t.trans t3
      clear t3 H2 hC c0 c1 c2 c3 c4 c5 c6 c7 c8
      cases tb with
      | false =>
        go_wp2_with fail
        go_ret
        exact ⟨rfl, T3⟩
      | true =>
        go_wp2_with fail
        go_ret
        exact ⟨rfl, T3⟩
set_option maxHeartbeats 4000000 in
theorem sameRow_is (w : World) (x y : Rw) (r s : Row) (hx : RowIs w x r) (hy : RowIs w y s) : Calls Try.prog 13 #[x.v, y.v] w fun e w' => e = .returned (.bool (decide (r = s))) ∧ Turns [] w w' := by
  obtain ⟨Ax, cx, rfl, hox⟩ := row_form hx
  obtain ⟨Ay, cy, rfl, hoy⟩ := row_form hy
  have H := ((((Sep.start w).alloc #[.int .i64 r.key, .int .i64 r.avail, .int .i64 r.mark, .slice Ax r.out.length cx] 38).alloc #[.int .i64 s.key, .int .i64 s.avail, .int .i64 s.mark, .slice Ay s.out.length cy] 38).alloc #[.int .i64 r.key, .int .i64 r.avail, .int .i64 r.mark, .slice Ax r.out.length cx] 38).alloc #[.int .i64 s.key, .int .i64 s.avail, .int .i64 s.mark, .slice Ay s.out.length cy] 38
  rw [World.size_alloc, World.size_alloc, World.size_alloc] at H
  have S := rsameTable_is _ 0 0 _ _ [r] [s] ⟨[⟨r.key, r.avail, r.mark, .slice Ax r.out.length cx⟩], one_row (H.blk 1 rfl) rfl, Bj.RowsIs.one (hx.turns H.t)⟩ ⟨[⟨s.key, s.avail, s.mark, .slice Ay s.out.length cy⟩], one_row (H.blk 0 rfl) rfl, Bj.RowsIs.one (hy.turns H.t)⟩
  have e : sameTB 0 0 [r] [s] = decide (r = s) := by unfold sameTB; simp
  rw [e] at S
  have Sh := Lib.hid S
  have Th := Lib.hid H.t
  clear S H hx hy hox hoy e
  unfold Rw.v
  simp only
  go_enter Try.func13, Try.ntmps13
  go_wp2_with fail
  go_at_call 10
  refine Calls.mono (Sh.out) ?_
  rintro e w1 ⟨rfl, t1⟩
  go_wp2_with fail
  go_ret
  exact ⟨rfl, Th.out.trans t1⟩
end Go.Proofs.Ytphhfdlhkginkaa.Jb
