/- frame.Table: may a table be? -/
import Derived.Test.YtohokckpheljbaaFa
set_option linter.unusedVariables false
set_option linter.unusedSimpArgs false
set_option maxRecDepth 100000
namespace Go.Proofs.Ytohokckpheljbaa.Fb
open Go.RowKit Go.MapKept Hm Hs Hf Hx Hy Hv Fa
/-- a row may be, of a start -/
def rowB (start : Int) (r : Row) : Bool := keyB r.key && (inB r.avail 0 2147483648 && (inB r.mark start 4611686018427387904 && lsB r.out))
def okRows (start : Int) : Option Row → List Row → Bool
  | _, [] => true
  | p, x :: r => rowB start x && ((match p with | none => true | some q => decide (q.key < x.key)) && okRows start (some x) r)
def tableB (start : Int) (R : List Row) : Bool := okRows start none R && (inB start 0 4611686018427387904 && decide ((R.length : Int) ≤ 16))
set_option maxHeartbeats 8000000 in
theorem table_is (w : World) (start : Int) (v : Value) (R : List Row) (h : RT w v R) : Calls Try.prog 26 #[.agg #[.int .i64 start, v]] w fun e w' => e = .returned (.bool (tableB start R)) ∧ Turns [] w w' := by
  obtain ⟨A, c, rfl, hlc, hcm⟩ := h.form
  have hh := Lib.hid h
  unfold tableB
  obtain ⟨q, hq⟩ : ∃ q, okRows start none R = q := ⟨_, rfl⟩
  rw [hq]
  have hqh := Lib.hid hq
  have B0 := Blk.new w #[.int .i64 start, .slice A R.length c] 37
  have T0 := (Turns.refl [] w).alloc (.cells #[.int .i64 start, .slice A R.length c] 37)
  have I0 := Lib.hid (fun w => in_is start 0 4611686018427387904 w)
  generalize hb0 : inB start 0 4611686018427387904 = s0 at *
  clear h hq hb0
  have t0 : World.cell? (w.alloc (.cells #[.int .i64 start, .slice A R.length c] 37)) ⟨w.heap.size, 0, none⟩ = some _ := (B0).cell 0
  have t1 : World.cell? (w.alloc (.cells #[.int .i64 start, .slice A R.length c] 37)) ⟨w.heap.size, 1, none⟩ = some _ := (B0).cell 1
  generalize hw0 : w.alloc (.cells #[.int .i64 start, .slice A R.length c] 37) = w0 at *
  go_enter Try.func26, Try.ntmps26
  go_wp2_with fail
  try rw [hw0]
  clear hw0
  go_loopw [8] (fun v8 wr => ∃ (k : Nat), k ≤ R.length ∧ v8 = .int .i64 k ∧ okRows start (prev_ R k) (R.drop k) = q ∧ Turns [] w0 wr) (fun v8 _ => R.length - (RowKit.intOf v8).toNat)
  case atStart => exact ⟨0, by omega, rfl, hqh.out, Turns.refl _ _⟩
  case round =>
    obtain ⟨k, hk, rfl, hpk, T⟩ := hrel
    by_cases hlt : k < R.length
    · have g1 : decide ((k : Int) < (R.length : Int)) = true := decide_eq_true (by omega)
      have g1b : decide (k < R.length) = true := decide_eq_true hlt
      obtain ⟨r, hr⟩ : ∃ r, R[k]? = some r := ⟨_, List.getElem?_eq_getElem hlt⟩
      obtain ⟨ad, c', x, hv, hxr, LX⟩ := (hh.out.turns T0).at_ hr
      injection hv with e1 e2 e3
      subst e1 e3
      obtain ⟨x0, x1, x2, x3⟩ := LX.turns T
      have hnx := prev_next hr
      rw [drop_cons hr] at hpk
      unfold okRows rowB at hpk
      have hL := hxr.out
      rw [← hxr.key, ← hxr.avail, ← hxr.mark] at hpk
      have I1 := Lib.hid (fun w => kright_is x.key w)
      have I2 := Lib.hid (fun w => in_is x.avail 0 2147483648 w)
      have I3 := Lib.hid (fun w => in_is x.mark start 4611686018427387904 w)
      have I4 := Lib.hid (fun W (t : Turns [] w0 W) => leases_is W x.out r.out (hL.mv (fun a u => t.old)))
      have Ta := (T.alloc (.cells #[.int .i64 x.key, .int .i64 x.avail, .int .i64 x.mark, x.out] 86)).drew
      have B := (Blk.new wr #[.int .i64 x.key, .int .i64 x.avail, .int .i64 x.mark, x.out] 86).drew
      have hkey := Lib.hid hxr.key
      generalize hb1 : keyB x.key = b1 at *
      generalize hb2 : inB x.avail 0 2147483648 = b2 at *
      generalize hb3 : inB x.mark start 4611686018427387904 = b3 at *
      generalize hb4 : lsB r.out = b4 at *
      obtain ⟨xk, xa, xm, xo⟩ := x
      obtain ⟨Ao, co, hxo, _⟩ := ls_form hL
      simp only at hxo x0 x1 x2 x3 hkey I1 I2 I3 I4 Ta B
      subst hxo
      clear e2 LX hb1 hb2 hb3 hb4 hxr hL
      generalize hxb : wr.heap.size = xb at B
      have hwh := Lib.hid hxb
      have B00 := B0
      cases b1 with
      | false =>
        simp only [Bool.false_and] at hpk
        subst hpk
        go_wp2_with fail
        clear x0 x1 x2 x3 t0 t1
        go_wp2_with fail
        refine wp_region_flo [(0, true), (1, true), (2, false), (3, true), (4, true), (5, true), (6, true), (7, false), (8, true), (9, true), (10, true), (11, true), (12, true), (13, true), (14, true), (15, false), (16, true), (17, true), (18, true), (19, true), (20, true), (21, false), (22, true), (23, true), (24, true), (25, true), (26, true), (27, true), (28, true), (29, true), (30, true), (31, true), (32, true), (33, true), (34, true), (35, true), (36, true), (37, true), (38, true), (39, true)] (fun W => Turns [] (wr.alloc (.cells #[.int .i64 xk, .int .i64 xa, .int .i64 xm, .slice Ao r.out.length co] 86)).drew W) (by kernel_rfl) rfl (by kernel_rfl) (by intro c d v a w h; cases d <;> first | (simpa [Exit.then, Exit.inBlock, Act.put] using h) | exact h) (Turns.refl _ _) ?_
        generalize (wr.alloc (.cells #[.int .i64 xk, .int .i64 xa, .int .i64 xm, .slice Ao r.out.length co] 86)).drew = w1 at *
        subst hxb
        have b0 : World.cell? (w1) ⟨wr.heap.size, 0, none⟩ = some _ := (B).cell 0
        have b1 : World.cell? (w1) ⟨wr.heap.size, 1, none⟩ = some _ := (B).cell 1
        refine flo_read _ rfl (fun K hK => ?_)
        go_simp
        first | (refine hK _ ?_) | (refine ⟨fun W hS => ?_, hK _ ?_⟩; · (have Y0 := hS.old b0; try go_simp))
        clear hK K
        refine flo_read _ rfl (fun K hK => ?_)
        go_simp
        first | (refine hK _ ?_) | (refine ⟨fun W hS => ?_, hK _ ?_⟩; · (have Y0 := hS.old b0; try go_simp))
        clear hK K
        refine flo_alone _ rfl ?_
        go_wp2_with fail
        go_at_call 64
        refine Calls.mono (I1.out _) ?_
        rintro e w2 ⟨rfl, t2⟩
        go_wp2_with fail
        refine ⟨fun W => Turns [] w2 W, fun W h => t2.trans h, Turns.refl _ _, ?_⟩
        have B2 := B.turns t2 (by simp)
        have T2 := Ta.trans t2
        clear b0 b1 B
        have b1 : World.cell? (w2) ⟨wr.heap.size, 1, none⟩ = some _ := (B2).cell 1
        refine flo_read _ rfl (fun K hK => ?_)
        go_simp
        first | (refine hK _ ?_) | (refine ⟨fun W hS => ?_, hK _ ?_⟩; · (have Y1 := hS.old b1; try go_simp))
        clear hK K
        refine flo_read _ rfl (fun K hK => ?_)
        go_simp
        first | (refine hK _ ?_) | (refine ⟨fun W hS => ?_, hK _ ?_⟩; · (have Y1 := hS.old b1; try go_simp))
        clear hK K
        refine flo_read _ rfl (fun K hK => ?_)
        go_simp
        first | (refine hK _ ?_) | (refine ⟨fun W hS => ?_, hK _ ?_⟩; · (have Y1 := hS.old b1; try go_simp))
        clear hK K
        refine flo_read _ rfl (fun K hK => ?_)
        go_simp
        first | (refine hK _ ?_) | (refine ⟨fun W hS => ?_, hK _ ?_⟩; · (have Y1 := hS.old b1; try go_simp))
        clear hK K
        refine flo_alone _ rfl ?_
        go_wp2_with fail
        refine ⟨fun W => Turns [] w2 W, fun W h => h, Turns.refl _ _, ?_⟩
        refine flo_read _ rfl (fun K hK => ?_)
        go_simp
        first | (refine hK _ ?_) | (refine ⟨fun W hS => ?_, hK _ ?_⟩; · (skip; try go_simp))
        clear hK K
        refine flo_read _ rfl (fun K hK => ?_)
        go_simp
        first | (refine hK _ ?_) | (refine ⟨fun W hS => ?_, hK _ ?_⟩; · (skip; try go_simp))
        clear hK K
        refine flo_read _ rfl (fun K hK => ?_)
        go_simp
        first | (refine hK _ ?_) | (refine ⟨fun W hS => ?_, hK _ ?_⟩; · (skip; try go_simp))
        clear hK K
        refine flo_read _ rfl (fun K hK => ?_)
        go_simp
        first | (refine hK _ ?_) | (refine ⟨fun W hS => ?_, hK _ ?_⟩; · (skip; try go_simp))
        clear hK K
        refine flo_read _ rfl (fun K hK => ?_)
        go_simp
        first | (refine hK _ ?_) | (refine ⟨fun W hS => ?_, hK _ ?_⟩; · (skip; try go_simp))
        clear hK K
        refine flo_read _ rfl (fun K hK => ?_)
        go_simp
        first | (refine hK _ ?_) | (refine ⟨fun W hS => ?_, hK _ ?_⟩; · (skip; try go_simp))
        clear hK K
        refine flo_read _ rfl (fun K hK => ?_)
        go_simp
        first | (refine hK _ ?_) | (refine ⟨fun W hS => ?_, hK _ ?_⟩; · (skip; try go_simp))
        clear hK K
        refine flo_alone _ rfl ?_
        go_wp2_with fail
        refine ⟨fun W => Turns [] w2 W, fun W h => h, Turns.refl _ _, ?_⟩
        refine flo_read _ rfl (fun K hK => ?_)
        go_simp
        first | (refine hK _ ?_) | (refine ⟨fun W hS => ?_, hK _ ?_⟩; · (skip; try go_simp))
        clear hK K
        refine flo_read _ rfl (fun K hK => ?_)
        go_simp
        first | (refine hK _ ?_) | (refine ⟨fun W hS => ?_, hK _ ?_⟩; · (skip; try go_simp))
        clear hK K
        refine flo_read _ rfl (fun K hK => ?_)
        go_simp
        first | (refine hK _ ?_) | (refine ⟨fun W hS => ?_, hK _ ?_⟩; · (skip; try go_simp))
        clear hK K
        refine flo_read _ rfl (fun K hK => ?_)
        go_simp
        first | (refine hK _ ?_) | (refine ⟨fun W hS => ?_, hK _ ?_⟩; · (skip; try go_simp))
        clear hK K
        refine flo_read _ rfl (fun K hK => ?_)
        go_simp
        first | (refine hK _ ?_) | (refine ⟨fun W hS => ?_, hK _ ?_⟩; · (skip; try go_simp))
        clear hK K
        refine flo_alone _ rfl ?_
        go_wp2_with fail
        refine ⟨fun W => Turns [] w2 W, fun W h => h, Turns.refl _ _, ?_⟩
        refine flo_read _ rfl (fun K hK => ?_)
        go_simp
        first | (refine hK _ ?_) | (refine ⟨fun W hS => ?_, hK _ ?_⟩; · (skip; try go_simp))
        clear hK K
        refine flo_read _ rfl (fun K hK => ?_)
        go_simp
        first | (refine hK _ ?_) | (refine ⟨fun W hS => ?_, hK _ ?_⟩; · (skip; try go_simp))
        clear hK K
        refine flo_read _ rfl (fun K hK => ?_)
        go_simp
        first | (refine hK _ ?_) | (refine ⟨fun W hS => ?_, hK _ ?_⟩; · (skip; try go_simp))
        clear hK K
        refine flo_read _ rfl (fun K hK => ?_)
        go_simp
        first | (refine hK _ ?_) | (refine ⟨fun W hS => ?_, hK _ ?_⟩; · (skip; try go_simp))
        clear hK K
        refine flo_read _ rfl (fun K hK => ?_)
        go_simp
        first | (refine hK _ ?_) | (refine ⟨fun W hS => ?_, hK _ ?_⟩; · (skip; try go_simp))
        clear hK K
        refine flo_read _ rfl (fun K hK => ?_)
        go_simp
        first | (refine hK _ ?_) | (refine ⟨fun W hS => ?_, hK _ ?_⟩; · (skip; try go_simp))
        clear hK K
        refine flo_read _ rfl (fun K hK => ?_)
        go_simp
        first | (refine hK _ ?_) | (refine ⟨fun W hS => ?_, hK _ ?_⟩; · (skip; try go_simp))
        clear hK K
        refine flo_read _ rfl (fun K hK => ?_)
        go_simp
        first | (refine hK _ ?_) | (refine ⟨fun W hS => ?_, hK _ ?_⟩; · (skip; try go_simp))
        clear hK K
        refine flo_read _ rfl (fun K hK => ?_)
        go_simp
        first | (refine hK _ ?_) | (refine ⟨fun W hS => ?_, hK _ ?_⟩; · (skip; try go_simp))
        clear hK K
        refine flo_read _ rfl (fun K hK => ?_)
        go_simp
        first | (refine hK _ ?_) | (refine ⟨fun W hS => ?_, hK _ ?_⟩; · (skip; try go_simp))
        clear hK K
        refine flo_read _ rfl (fun K hK => ?_)
        go_simp
        first | (refine hK _ ?_) | (refine ⟨fun W hS => ?_, hK _ ?_⟩; · (skip; try go_simp))
        clear hK K
        refine flo_read _ rfl (fun K hK => ?_)
        go_simp
        first | (refine hK _ ?_) | (refine ⟨fun W hS => ?_, hK _ ?_⟩; · (skip; try go_simp))
        clear hK K
        refine flo_read _ rfl (fun K hK => ?_)
        go_simp
        first | (refine hK _ ?_) | (refine ⟨fun W hS => ?_, hK _ ?_⟩; · (skip; try go_simp))
        clear hK K
        refine flo_read _ rfl (fun K hK => ?_)
        go_simp
        first | (refine hK _ ?_) | (refine ⟨fun W hS => ?_, hK _ ?_⟩; · (skip; try go_simp))
        clear hK K
        refine flo_read _ rfl (fun K hK => ?_)
        go_simp
        first | (refine hK _ ?_) | (refine ⟨fun W hS => ?_, hK _ ?_⟩; · (skip; try go_simp))
        clear hK K
        refine flo_read _ rfl (fun K hK => ?_)
        go_simp
        first | (refine hK _ ?_) | (refine ⟨fun W hS => ?_, hK _ ?_⟩; · (skip; try go_simp))
        clear hK K
        refine flo_read _ rfl (fun K hK => ?_)
        go_simp
        first | (refine hK _ ?_) | (refine ⟨fun W hS => ?_, hK _ ?_⟩; · (skip; try go_simp))
        clear hK K
        refine flo_read _ rfl (fun K hK => ?_)
        go_simp
        first | (refine hK _ ?_) | (refine ⟨fun W hS => ?_, hK _ ?_⟩; · (skip; try go_simp))
        clear hK K
        refine flo_end ?_
        go_wp2_with fail
        go_ret
        exact ⟨rfl, T0.trans T2⟩
      | true =>
        simp only [Bool.true_and] at hpk
        cases b2 with
        | false =>
          simp only [Bool.false_and] at hpk
          subst hpk
          go_wp2_with fail
          clear x0 x1 x2 x3 t0 t1
          go_wp2_with fail
          refine wp_region_flo [(0, true), (1, true), (2, false), (3, true), (4, true), (5, true), (6, true), (7, false), (8, true), (9, true), (10, true), (11, true), (12, true), (13, true), (14, true), (15, false), (16, true), (17, true), (18, true), (19, true), (20, true), (21, false), (22, true), (23, true), (24, true), (25, true), (26, true), (27, true), (28, true), (29, true), (30, true), (31, true), (32, true), (33, true), (34, true), (35, true), (36, true), (37, true), (38, true), (39, true)] (fun W => Turns [] (wr.alloc (.cells #[.int .i64 xk, .int .i64 xa, .int .i64 xm, .slice Ao r.out.length co] 86)).drew W) (by kernel_rfl) rfl (by kernel_rfl) (by intro c d v a w h; cases d <;> first | (simpa [Exit.then, Exit.inBlock, Act.put] using h) | exact h) (Turns.refl _ _) ?_
          generalize (wr.alloc (.cells #[.int .i64 xk, .int .i64 xa, .int .i64 xm, .slice Ao r.out.length co] 86)).drew = w1 at *
          subst hxb
          have b0 : World.cell? (w1) ⟨wr.heap.size, 0, none⟩ = some _ := (B).cell 0
          have b1 : World.cell? (w1) ⟨wr.heap.size, 1, none⟩ = some _ := (B).cell 1
          refine flo_read _ rfl (fun K hK => ?_)
          go_simp
          first | (refine hK _ ?_) | (refine ⟨fun W hS => ?_, hK _ ?_⟩; · (have Y0 := hS.old b0; try go_simp))
          clear hK K
          refine flo_read _ rfl (fun K hK => ?_)
          go_simp
          first | (refine hK _ ?_) | (refine ⟨fun W hS => ?_, hK _ ?_⟩; · (have Y0 := hS.old b0; try go_simp))
          clear hK K
          refine flo_alone _ rfl ?_
          go_wp2_with fail
          go_at_call 64
          refine Calls.mono (I1.out _) ?_
          rintro e w2 ⟨rfl, t2⟩
          go_wp2_with fail
          refine ⟨fun W => Turns [] w2 W, fun W h => t2.trans h, Turns.refl _ _, ?_⟩
          have B2 := B.turns t2 (by simp)
          have T2 := Ta.trans t2
          clear b0 b1 B
          have b1 : World.cell? (w2) ⟨wr.heap.size, 1, none⟩ = some _ := (B2).cell 1
          refine flo_read _ rfl (fun K hK => ?_)
          go_simp
          first | (refine hK _ ?_) | (refine ⟨fun W hS => ?_, hK _ ?_⟩; · (have Y1 := hS.old b1; try go_simp))
          clear hK K
          refine flo_read _ rfl (fun K hK => ?_)
          go_simp
          first | (refine hK _ ?_) | (refine ⟨fun W hS => ?_, hK _ ?_⟩; · (have Y1 := hS.old b1; try go_simp))
          clear hK K
          refine flo_read _ rfl (fun K hK => ?_)
          go_simp
          first | (refine hK _ ?_) | (refine ⟨fun W hS => ?_, hK _ ?_⟩; · (have Y1 := hS.old b1; try go_simp))
          clear hK K
          refine flo_read _ rfl (fun K hK => ?_)
          go_simp
          first | (refine hK _ ?_) | (refine ⟨fun W hS => ?_, hK _ ?_⟩; · (have Y1 := hS.old b1; try go_simp))
          clear hK K
          refine flo_alone _ rfl ?_
          go_wp2_with fail
          go_at_call 60
          refine Calls.mono (I2.out _) ?_
          rintro e w3 ⟨rfl, t3⟩
          go_wp2_with fail
          refine ⟨fun W => Turns [] w3 W, fun W h => t3.trans h, Turns.refl _ _, ?_⟩
          have B3 := B2.turns t3 (by simp)
          have T3 := T2.trans t3
          have t0 := T3.old (B00.cell 0)
          clear b1 B2
          have b2 : World.cell? (w3) ⟨wr.heap.size, 2, none⟩ = some _ := (B3).cell 2
          refine flo_read _ rfl (fun K hK => ?_)
          go_simp
          first | (refine hK _ ?_) | (refine ⟨fun W hS => ?_, hK _ ?_⟩; · (have Y2 := hS.old b2; have Y3 := hS.old t0; try go_simp))
          clear hK K
          refine flo_read _ rfl (fun K hK => ?_)
          go_simp
          first | (refine hK _ ?_) | (refine ⟨fun W hS => ?_, hK _ ?_⟩; · (have Y2 := hS.old b2; have Y3 := hS.old t0; try go_simp))
          clear hK K
          refine flo_read _ rfl (fun K hK => ?_)
          go_simp
          first | (refine hK _ ?_) | (refine ⟨fun W hS => ?_, hK _ ?_⟩; · (have Y2 := hS.old b2; have Y3 := hS.old t0; try go_simp))
          clear hK K
          refine flo_read _ rfl (fun K hK => ?_)
          go_simp
          first | (refine hK _ ?_) | (refine ⟨fun W hS => ?_, hK _ ?_⟩; · (have Y2 := hS.old b2; have Y3 := hS.old t0; try go_simp))
          clear hK K
          refine flo_read _ rfl (fun K hK => ?_)
          go_simp
          first | (refine hK _ ?_) | (refine ⟨fun W hS => ?_, hK _ ?_⟩; · (have Y2 := hS.old b2; have Y3 := hS.old t0; try go_simp))
          clear hK K
          refine flo_read _ rfl (fun K hK => ?_)
          go_simp
          first | (refine hK _ ?_) | (refine ⟨fun W hS => ?_, hK _ ?_⟩; · (have Y2 := hS.old b2; have Y3 := hS.old t0; try go_simp))
          clear hK K
          refine flo_read _ rfl (fun K hK => ?_)
          go_simp
          first | (refine hK _ ?_) | (refine ⟨fun W hS => ?_, hK _ ?_⟩; · (have Y2 := hS.old b2; have Y3 := hS.old t0; try go_simp))
          clear hK K
          refine flo_alone _ rfl ?_
          go_wp2_with fail
          refine ⟨fun W => Turns [] w3 W, fun W h => h, Turns.refl _ _, ?_⟩
          refine flo_read _ rfl (fun K hK => ?_)
          go_simp
          first | (refine hK _ ?_) | (refine ⟨fun W hS => ?_, hK _ ?_⟩; · (skip; try go_simp))
          clear hK K
          refine flo_read _ rfl (fun K hK => ?_)
          go_simp
          first | (refine hK _ ?_) | (refine ⟨fun W hS => ?_, hK _ ?_⟩; · (skip; try go_simp))
          clear hK K
          refine flo_read _ rfl (fun K hK => ?_)
          go_simp
          first | (refine hK _ ?_) | (refine ⟨fun W hS => ?_, hK _ ?_⟩; · (skip; try go_simp))
          clear hK K
          refine flo_read _ rfl (fun K hK => ?_)
          go_simp
          first | (refine hK _ ?_) | (refine ⟨fun W hS => ?_, hK _ ?_⟩; · (skip; try go_simp))
          clear hK K
          refine flo_read _ rfl (fun K hK => ?_)
          go_simp
          first | (refine hK _ ?_) | (refine ⟨fun W hS => ?_, hK _ ?_⟩; · (skip; try go_simp))
          clear hK K
          refine flo_alone _ rfl ?_
          go_wp2_with fail
          refine ⟨fun W => Turns [] w3 W, fun W h => h, Turns.refl _ _, ?_⟩
          refine flo_read _ rfl (fun K hK => ?_)
          go_simp
          first | (refine hK _ ?_) | (refine ⟨fun W hS => ?_, hK _ ?_⟩; · (skip; try go_simp))
          clear hK K
          refine flo_read _ rfl (fun K hK => ?_)
          go_simp
          first | (refine hK _ ?_) | (refine ⟨fun W hS => ?_, hK _ ?_⟩; · (skip; try go_simp))
          clear hK K
          refine flo_read _ rfl (fun K hK => ?_)
          go_simp
          first | (refine hK _ ?_) | (refine ⟨fun W hS => ?_, hK _ ?_⟩; · (skip; try go_simp))
          clear hK K
          refine flo_read _ rfl (fun K hK => ?_)
          go_simp
          first | (refine hK _ ?_) | (refine ⟨fun W hS => ?_, hK _ ?_⟩; · (skip; try go_simp))
          clear hK K
          refine flo_read _ rfl (fun K hK => ?_)
          go_simp
          first | (refine hK _ ?_) | (refine ⟨fun W hS => ?_, hK _ ?_⟩; · (skip; try go_simp))
          clear hK K
          refine flo_read _ rfl (fun K hK => ?_)
          go_simp
          first | (refine hK _ ?_) | (refine ⟨fun W hS => ?_, hK _ ?_⟩; · (skip; try go_simp))
          clear hK K
          refine flo_read _ rfl (fun K hK => ?_)
          go_simp
          first | (refine hK _ ?_) | (refine ⟨fun W hS => ?_, hK _ ?_⟩; · (skip; try go_simp))
          clear hK K
          refine flo_read _ rfl (fun K hK => ?_)
          go_simp
          first | (refine hK _ ?_) | (refine ⟨fun W hS => ?_, hK _ ?_⟩; · (skip; try go_simp))
          clear hK K
          refine flo_read _ rfl (fun K hK => ?_)
          go_simp
          first | (refine hK _ ?_) | (refine ⟨fun W hS => ?_, hK _ ?_⟩; · (skip; try go_simp))
          clear hK K
          refine flo_read _ rfl (fun K hK => ?_)
          go_simp
          first | (refine hK _ ?_) | (refine ⟨fun W hS => ?_, hK _ ?_⟩; · (skip; try go_simp))
          clear hK K
          refine flo_read _ rfl (fun K hK => ?_)
          go_simp
          first | (refine hK _ ?_) | (refine ⟨fun W hS => ?_, hK _ ?_⟩; · (skip; try go_simp))
          clear hK K
          refine flo_read _ rfl (fun K hK => ?_)
          go_simp
          first | (refine hK _ ?_) | (refine ⟨fun W hS => ?_, hK _ ?_⟩; · (skip; try go_simp))
          clear hK K
          refine flo_read _ rfl (fun K hK => ?_)
          go_simp
          first | (refine hK _ ?_) | (refine ⟨fun W hS => ?_, hK _ ?_⟩; · (skip; try go_simp))
          clear hK K
          refine flo_read _ rfl (fun K hK => ?_)
          go_simp
          first | (refine hK _ ?_) | (refine ⟨fun W hS => ?_, hK _ ?_⟩; · (skip; try go_simp))
          clear hK K
          refine flo_read _ rfl (fun K hK => ?_)
          go_simp
          first | (refine hK _ ?_) | (refine ⟨fun W hS => ?_, hK _ ?_⟩; · (skip; try go_simp))
          clear hK K
          refine flo_read _ rfl (fun K hK => ?_)
          go_simp
          first | (refine hK _ ?_) | (refine ⟨fun W hS => ?_, hK _ ?_⟩; · (skip; try go_simp))
          clear hK K
          refine flo_read _ rfl (fun K hK => ?_)
          go_simp
          first | (refine hK _ ?_) | (refine ⟨fun W hS => ?_, hK _ ?_⟩; · (skip; try go_simp))
          clear hK K
          refine flo_read _ rfl (fun K hK => ?_)
          go_simp
          first | (refine hK _ ?_) | (refine ⟨fun W hS => ?_, hK _ ?_⟩; · (skip; try go_simp))
          clear hK K
          refine flo_end ?_
          go_wp2_with fail
          go_ret
          exact ⟨rfl, T0.trans T3⟩
        | true =>
          simp only [Bool.true_and] at hpk
          cases b3 with
          | false =>
            simp only [Bool.false_and] at hpk
            subst hpk
            go_wp2_with fail
            clear x0 x1 x2 x3 t0 t1
            go_wp2_with fail
            refine wp_region_flo [(0, true), (1, true), (2, false), (3, true), (4, true), (5, true), (6, true), (7, false), (8, true), (9, true), (10, true), (11, true), (12, true), (13, true), (14, true), (15, false), (16, true), (17, true), (18, true), (19, true), (20, true), (21, false), (22, true), (23, true), (24, true), (25, true), (26, true), (27, true), (28, true), (29, true), (30, true), (31, true), (32, true), (33, true), (34, true), (35, true), (36, true), (37, true), (38, true), (39, true)] (fun W => Turns [] (wr.alloc (.cells #[.int .i64 xk, .int .i64 xa, .int .i64 xm, .slice Ao r.out.length co] 86)).drew W) (by kernel_rfl) rfl (by kernel_rfl) (by intro c d v a w h; cases d <;> first | (simpa [Exit.then, Exit.inBlock, Act.put] using h) | exact h) (Turns.refl _ _) ?_
            generalize (wr.alloc (.cells #[.int .i64 xk, .int .i64 xa, .int .i64 xm, .slice Ao r.out.length co] 86)).drew = w1 at *
            subst hxb
            have b0 : World.cell? (w1) ⟨wr.heap.size, 0, none⟩ = some _ := (B).cell 0
            have b1 : World.cell? (w1) ⟨wr.heap.size, 1, none⟩ = some _ := (B).cell 1
            refine flo_read _ rfl (fun K hK => ?_)
            go_simp
            first | (refine hK _ ?_) | (refine ⟨fun W hS => ?_, hK _ ?_⟩; · (have Y0 := hS.old b0; try go_simp))
            clear hK K
            refine flo_read _ rfl (fun K hK => ?_)
            go_simp
            first | (refine hK _ ?_) | (refine ⟨fun W hS => ?_, hK _ ?_⟩; · (have Y0 := hS.old b0; try go_simp))
            clear hK K
            refine flo_alone _ rfl ?_
            go_wp2_with fail
            go_at_call 64
            refine Calls.mono (I1.out _) ?_
            rintro e w2 ⟨rfl, t2⟩
            go_wp2_with fail
            refine ⟨fun W => Turns [] w2 W, fun W h => t2.trans h, Turns.refl _ _, ?_⟩
            have B2 := B.turns t2 (by simp)
            have T2 := Ta.trans t2
            clear b0 b1 B
            have b1 : World.cell? (w2) ⟨wr.heap.size, 1, none⟩ = some _ := (B2).cell 1
            refine flo_read _ rfl (fun K hK => ?_)
            go_simp
            first | (refine hK _ ?_) | (refine ⟨fun W hS => ?_, hK _ ?_⟩; · (have Y1 := hS.old b1; try go_simp))
            clear hK K
            refine flo_read _ rfl (fun K hK => ?_)
            go_simp
            first | (refine hK _ ?_) | (refine ⟨fun W hS => ?_, hK _ ?_⟩; · (have Y1 := hS.old b1; try go_simp))
            clear hK K
            refine flo_read _ rfl (fun K hK => ?_)
            go_simp
            first | (refine hK _ ?_) | (refine ⟨fun W hS => ?_, hK _ ?_⟩; · (have Y1 := hS.old b1; try go_simp))
            clear hK K
            refine flo_read _ rfl (fun K hK => ?_)
            go_simp
            first | (refine hK _ ?_) | (refine ⟨fun W hS => ?_, hK _ ?_⟩; · (have Y1 := hS.old b1; try go_simp))
            clear hK K
            refine flo_alone _ rfl ?_
            go_wp2_with fail
            go_at_call 60
            refine Calls.mono (I2.out _) ?_
            rintro e w3 ⟨rfl, t3⟩
            go_wp2_with fail
            refine ⟨fun W => Turns [] w3 W, fun W h => t3.trans h, Turns.refl _ _, ?_⟩
            have B3 := B2.turns t3 (by simp)
            have T3 := T2.trans t3
            have t0 := T3.old (B00.cell 0)
            clear b1 B2
            have b2 : World.cell? (w3) ⟨wr.heap.size, 2, none⟩ = some _ := (B3).cell 2
            refine flo_read _ rfl (fun K hK => ?_)
            go_simp
            first | (refine hK _ ?_) | (refine ⟨fun W hS => ?_, hK _ ?_⟩; · (have Y2 := hS.old b2; have Y3 := hS.old t0; try go_simp))
            clear hK K
            refine flo_read _ rfl (fun K hK => ?_)
            go_simp
            first | (refine hK _ ?_) | (refine ⟨fun W hS => ?_, hK _ ?_⟩; · (have Y2 := hS.old b2; have Y3 := hS.old t0; try go_simp))
            clear hK K
            refine flo_read _ rfl (fun K hK => ?_)
            go_simp
            first | (refine hK _ ?_) | (refine ⟨fun W hS => ?_, hK _ ?_⟩; · (have Y2 := hS.old b2; have Y3 := hS.old t0; try go_simp))
            clear hK K
            refine flo_read _ rfl (fun K hK => ?_)
            go_simp
            first | (refine hK _ ?_) | (refine ⟨fun W hS => ?_, hK _ ?_⟩; · (have Y2 := hS.old b2; have Y3 := hS.old t0; try go_simp))
            clear hK K
            refine flo_read _ rfl (fun K hK => ?_)
            go_simp
            first | (refine hK _ ?_) | (refine ⟨fun W hS => ?_, hK _ ?_⟩; · (have Y2 := hS.old b2; have Y3 := hS.old t0; try go_simp))
            clear hK K
            refine flo_read _ rfl (fun K hK => ?_)
            go_simp
            first | (refine hK _ ?_) | (refine ⟨fun W hS => ?_, hK _ ?_⟩; · (have Y2 := hS.old b2; have Y3 := hS.old t0; try go_simp))
            clear hK K
            refine flo_read _ rfl (fun K hK => ?_)
            go_simp
            first | (refine hK _ ?_) | (refine ⟨fun W hS => ?_, hK _ ?_⟩; · (have Y2 := hS.old b2; have Y3 := hS.old t0; try go_simp))
            clear hK K
            refine flo_alone _ rfl ?_
            go_wp2_with fail
            go_at_call 60
            refine Calls.mono (I3.out _) ?_
            rintro e w4 ⟨rfl, t4⟩
            go_wp2_with fail
            refine ⟨fun W => Turns [] w4 W, fun W h => t4.trans h, Turns.refl _ _, ?_⟩
            have B4 := B3.turns t4 (by simp)
            have T4 := T3.trans t4
            clear b2 t0 B3
            have b3 : World.cell? (w4) ⟨wr.heap.size, 3, none⟩ = some _ := (B4).cell 3
            refine flo_read _ rfl (fun K hK => ?_)
            go_simp
            first | (refine hK _ ?_) | (refine ⟨fun W hS => ?_, hK _ ?_⟩; · (have Y2 := hS.old b3; try go_simp))
            clear hK K
            refine flo_read _ rfl (fun K hK => ?_)
            go_simp
            first | (refine hK _ ?_) | (refine ⟨fun W hS => ?_, hK _ ?_⟩; · (have Y2 := hS.old b3; try go_simp))
            clear hK K
            refine flo_read _ rfl (fun K hK => ?_)
            go_simp
            first | (refine hK _ ?_) | (refine ⟨fun W hS => ?_, hK _ ?_⟩; · (have Y2 := hS.old b3; try go_simp))
            clear hK K
            refine flo_read _ rfl (fun K hK => ?_)
            go_simp
            first | (refine hK _ ?_) | (refine ⟨fun W hS => ?_, hK _ ?_⟩; · (have Y2 := hS.old b3; try go_simp))
            clear hK K
            refine flo_read _ rfl (fun K hK => ?_)
            go_simp
            first | (refine hK _ ?_) | (refine ⟨fun W hS => ?_, hK _ ?_⟩; · (have Y2 := hS.old b3; try go_simp))
            clear hK K
            refine flo_alone _ rfl ?_
            go_wp2_with fail
            refine ⟨fun W => Turns [] w4 W, fun W h => h, Turns.refl _ _, ?_⟩
            refine flo_read _ rfl (fun K hK => ?_)
            go_simp
            first | (refine hK _ ?_) | (refine ⟨fun W hS => ?_, hK _ ?_⟩; · (skip; try go_simp))
            clear hK K
            refine flo_read _ rfl (fun K hK => ?_)
            go_simp
            first | (refine hK _ ?_) | (refine ⟨fun W hS => ?_, hK _ ?_⟩; · (skip; try go_simp))
            clear hK K
            refine flo_read _ rfl (fun K hK => ?_)
            go_simp
            first | (refine hK _ ?_) | (refine ⟨fun W hS => ?_, hK _ ?_⟩; · (skip; try go_simp))
            clear hK K
            refine flo_read _ rfl (fun K hK => ?_)
            go_simp
            first | (refine hK _ ?_) | (refine ⟨fun W hS => ?_, hK _ ?_⟩; · (skip; try go_simp))
            clear hK K
            refine flo_read _ rfl (fun K hK => ?_)
            go_simp
            first | (refine hK _ ?_) | (refine ⟨fun W hS => ?_, hK _ ?_⟩; · (skip; try go_simp))
            clear hK K
            refine flo_read _ rfl (fun K hK => ?_)
            go_simp
            first | (refine hK _ ?_) | (refine ⟨fun W hS => ?_, hK _ ?_⟩; · (skip; try go_simp))
            clear hK K
            refine flo_read _ rfl (fun K hK => ?_)
            go_simp
            first | (refine hK _ ?_) | (refine ⟨fun W hS => ?_, hK _ ?_⟩; · (skip; try go_simp))
            clear hK K
            refine flo_read _ rfl (fun K hK => ?_)
            go_simp
            first | (refine hK _ ?_) | (refine ⟨fun W hS => ?_, hK _ ?_⟩; · (skip; try go_simp))
            clear hK K
            refine flo_read _ rfl (fun K hK => ?_)
            go_simp
            first | (refine hK _ ?_) | (refine ⟨fun W hS => ?_, hK _ ?_⟩; · (skip; try go_simp))
            clear hK K
            refine flo_read _ rfl (fun K hK => ?_)
            go_simp
            first | (refine hK _ ?_) | (refine ⟨fun W hS => ?_, hK _ ?_⟩; · (skip; try go_simp))
            clear hK K
            refine flo_read _ rfl (fun K hK => ?_)
            go_simp
            first | (refine hK _ ?_) | (refine ⟨fun W hS => ?_, hK _ ?_⟩; · (skip; try go_simp))
            clear hK K
            refine flo_read _ rfl (fun K hK => ?_)
            go_simp
            first | (refine hK _ ?_) | (refine ⟨fun W hS => ?_, hK _ ?_⟩; · (skip; try go_simp))
            clear hK K
            refine flo_read _ rfl (fun K hK => ?_)
            go_simp
            first | (refine hK _ ?_) | (refine ⟨fun W hS => ?_, hK _ ?_⟩; · (skip; try go_simp))
            clear hK K
            refine flo_read _ rfl (fun K hK => ?_)
            go_simp
            first | (refine hK _ ?_) | (refine ⟨fun W hS => ?_, hK _ ?_⟩; · (skip; try go_simp))
            clear hK K
            refine flo_read _ rfl (fun K hK => ?_)
            go_simp
            first | (refine hK _ ?_) | (refine ⟨fun W hS => ?_, hK _ ?_⟩; · (skip; try go_simp))
            clear hK K
            refine flo_read _ rfl (fun K hK => ?_)
            go_simp
            first | (refine hK _ ?_) | (refine ⟨fun W hS => ?_, hK _ ?_⟩; · (skip; try go_simp))
            clear hK K
            refine flo_read _ rfl (fun K hK => ?_)
            go_simp
            first | (refine hK _ ?_) | (refine ⟨fun W hS => ?_, hK _ ?_⟩; · (skip; try go_simp))
            clear hK K
            refine flo_read _ rfl (fun K hK => ?_)
            go_simp
            first | (refine hK _ ?_) | (refine ⟨fun W hS => ?_, hK _ ?_⟩; · (skip; try go_simp))
            clear hK K
            refine flo_end ?_
            go_wp2_with fail
            go_ret
            exact ⟨rfl, T0.trans T4⟩
          | true =>
            simp only [Bool.true_and] at hpk
            cases b4 with
            | false =>
              simp only [Bool.false_and] at hpk
              subst hpk
              go_wp2_with fail
              clear x0 x1 x2 x3 t0 t1
              go_wp2_with fail
              refine wp_region_flo [(0, true), (1, true), (2, false), (3, true), (4, true), (5, true), (6, true), (7, false), (8, true), (9, true), (10, true), (11, true), (12, true), (13, true), (14, true), (15, false), (16, true), (17, true), (18, true), (19, true), (20, true), (21, false), (22, true), (23, true), (24, true), (25, true), (26, true), (27, true), (28, true), (29, true), (30, true), (31, true), (32, true), (33, true), (34, true), (35, true), (36, true), (37, true), (38, true), (39, true)] (fun W => Turns [] (wr.alloc (.cells #[.int .i64 xk, .int .i64 xa, .int .i64 xm, .slice Ao r.out.length co] 86)).drew W) (by kernel_rfl) rfl (by kernel_rfl) (by intro c d v a w h; cases d <;> first | (simpa [Exit.then, Exit.inBlock, Act.put] using h) | exact h) (Turns.refl _ _) ?_
              generalize (wr.alloc (.cells #[.int .i64 xk, .int .i64 xa, .int .i64 xm, .slice Ao r.out.length co] 86)).drew = w1 at *
              subst hxb
              have b0 : World.cell? (w1) ⟨wr.heap.size, 0, none⟩ = some _ := (B).cell 0
              have b1 : World.cell? (w1) ⟨wr.heap.size, 1, none⟩ = some _ := (B).cell 1
              refine flo_read _ rfl (fun K hK => ?_)
              go_simp
              first | (refine hK _ ?_) | (refine ⟨fun W hS => ?_, hK _ ?_⟩; · (have Y0 := hS.old b0; try go_simp))
              clear hK K
              refine flo_read _ rfl (fun K hK => ?_)
              go_simp
              first | (refine hK _ ?_) | (refine ⟨fun W hS => ?_, hK _ ?_⟩; · (have Y0 := hS.old b0; try go_simp))
              clear hK K
              refine flo_alone _ rfl ?_
              go_wp2_with fail
              go_at_call 64
              refine Calls.mono (I1.out _) ?_
              rintro e w2 ⟨rfl, t2⟩
              go_wp2_with fail
              refine ⟨fun W => Turns [] w2 W, fun W h => t2.trans h, Turns.refl _ _, ?_⟩
              have B2 := B.turns t2 (by simp)
              have T2 := Ta.trans t2
              clear b0 b1 B
              have b1 : World.cell? (w2) ⟨wr.heap.size, 1, none⟩ = some _ := (B2).cell 1
              refine flo_read _ rfl (fun K hK => ?_)
              go_simp
              first | (refine hK _ ?_) | (refine ⟨fun W hS => ?_, hK _ ?_⟩; · (have Y1 := hS.old b1; try go_simp))
              clear hK K
              refine flo_read _ rfl (fun K hK => ?_)
              go_simp
              first | (refine hK _ ?_) | (refine ⟨fun W hS => ?_, hK _ ?_⟩; · (have Y1 := hS.old b1; try go_simp))
              clear hK K
              refine flo_read _ rfl (fun K hK => ?_)
              go_simp
              first | (refine hK _ ?_) | (refine ⟨fun W hS => ?_, hK _ ?_⟩; · (have Y1 := hS.old b1; try go_simp))
              clear hK K
              refine flo_read _ rfl (fun K hK => ?_)
              go_simp
              first | (refine hK _ ?_) | (refine ⟨fun W hS => ?_, hK _ ?_⟩; · (have Y1 := hS.old b1; try go_simp))
              clear hK K
              refine flo_alone _ rfl ?_
              go_wp2_with fail
              go_at_call 60
              refine Calls.mono (I2.out _) ?_
              rintro e w3 ⟨rfl, t3⟩
              go_wp2_with fail
              refine ⟨fun W => Turns [] w3 W, fun W h => t3.trans h, Turns.refl _ _, ?_⟩
              have B3 := B2.turns t3 (by simp)
              have T3 := T2.trans t3
              have t0 := T3.old (B00.cell 0)
              clear b1 B2
              have b2 : World.cell? (w3) ⟨wr.heap.size, 2, none⟩ = some _ := (B3).cell 2
              refine flo_read _ rfl (fun K hK => ?_)
              go_simp
              first | (refine hK _ ?_) | (refine ⟨fun W hS => ?_, hK _ ?_⟩; · (have Y2 := hS.old b2; have Y3 := hS.old t0; try go_simp))
              clear hK K
              refine flo_read _ rfl (fun K hK => ?_)
              go_simp
              first | (refine hK _ ?_) | (refine ⟨fun W hS => ?_, hK _ ?_⟩; · (have Y2 := hS.old b2; have Y3 := hS.old t0; try go_simp))
              clear hK K
              refine flo_read _ rfl (fun K hK => ?_)
              go_simp
              first | (refine hK _ ?_) | (refine ⟨fun W hS => ?_, hK _ ?_⟩; · (have Y2 := hS.old b2; have Y3 := hS.old t0; try go_simp))
              clear hK K
              refine flo_read _ rfl (fun K hK => ?_)
              go_simp
              first | (refine hK _ ?_) | (refine ⟨fun W hS => ?_, hK _ ?_⟩; · (have Y2 := hS.old b2; have Y3 := hS.old t0; try go_simp))
              clear hK K
              refine flo_read _ rfl (fun K hK => ?_)
              go_simp
              first | (refine hK _ ?_) | (refine ⟨fun W hS => ?_, hK _ ?_⟩; · (have Y2 := hS.old b2; have Y3 := hS.old t0; try go_simp))
              clear hK K
              refine flo_read _ rfl (fun K hK => ?_)
              go_simp
              first | (refine hK _ ?_) | (refine ⟨fun W hS => ?_, hK _ ?_⟩; · (have Y2 := hS.old b2; have Y3 := hS.old t0; try go_simp))
              clear hK K
              refine flo_read _ rfl (fun K hK => ?_)
              go_simp
              first | (refine hK _ ?_) | (refine ⟨fun W hS => ?_, hK _ ?_⟩; · (have Y2 := hS.old b2; have Y3 := hS.old t0; try go_simp))
              clear hK K
              refine flo_alone _ rfl ?_
              go_wp2_with fail
              go_at_call 60
              refine Calls.mono (I3.out _) ?_
              rintro e w4 ⟨rfl, t4⟩
              go_wp2_with fail
              refine ⟨fun W => Turns [] w4 W, fun W h => t4.trans h, Turns.refl _ _, ?_⟩
              have B4 := B3.turns t4 (by simp)
              have T4 := T3.trans t4
              clear b2 t0 B3
              have b3 : World.cell? (w4) ⟨wr.heap.size, 3, none⟩ = some _ := (B4).cell 3
              refine flo_read _ rfl (fun K hK => ?_)
              go_simp
              first | (refine hK _ ?_) | (refine ⟨fun W hS => ?_, hK _ ?_⟩; · (have Y2 := hS.old b3; try go_simp))
              clear hK K
              refine flo_read _ rfl (fun K hK => ?_)
              go_simp
              first | (refine hK _ ?_) | (refine ⟨fun W hS => ?_, hK _ ?_⟩; · (have Y2 := hS.old b3; try go_simp))
              clear hK K
              refine flo_read _ rfl (fun K hK => ?_)
              go_simp
              first | (refine hK _ ?_) | (refine ⟨fun W hS => ?_, hK _ ?_⟩; · (have Y2 := hS.old b3; try go_simp))
              clear hK K
              refine flo_read _ rfl (fun K hK => ?_)
              go_simp
              first | (refine hK _ ?_) | (refine ⟨fun W hS => ?_, hK _ ?_⟩; · (have Y2 := hS.old b3; try go_simp))
              clear hK K
              refine flo_read _ rfl (fun K hK => ?_)
              go_simp
              first | (refine hK _ ?_) | (refine ⟨fun W hS => ?_, hK _ ?_⟩; · (have Y2 := hS.old b3; try go_simp))
              clear hK K
              refine flo_alone _ rfl ?_
              go_wp2_with fail
              go_at_call 65
              refine Calls.mono (I4.out _ T4) ?_
              rintro e w5 ⟨rfl, t5⟩
              go_wp2_with fail
              refine ⟨fun W => Turns [] w5 W, fun W h => t5.trans h, Turns.refl _ _, ?_⟩
              have B5 := B4.turns t5 (by simp)
              have T5 := T4.trans t5
              clear b3 B4
              refine flo_read _ rfl (fun K hK => ?_)
              go_simp
              first | (refine hK _ ?_) | (refine ⟨fun W hS => ?_, hK _ ?_⟩; · (skip; try go_simp))
              clear hK K
              refine flo_read _ rfl (fun K hK => ?_)
              go_simp
              first | (refine hK _ ?_) | (refine ⟨fun W hS => ?_, hK _ ?_⟩; · (skip; try go_simp))
              clear hK K
              refine flo_read _ rfl (fun K hK => ?_)
              go_simp
              first | (refine hK _ ?_) | (refine ⟨fun W hS => ?_, hK _ ?_⟩; · (skip; try go_simp))
              clear hK K
              refine flo_read _ rfl (fun K hK => ?_)
              go_simp
              first | (refine hK _ ?_) | (refine ⟨fun W hS => ?_, hK _ ?_⟩; · (skip; try go_simp))
              clear hK K
              refine flo_read _ rfl (fun K hK => ?_)
              go_simp
              first | (refine hK _ ?_) | (refine ⟨fun W hS => ?_, hK _ ?_⟩; · (skip; try go_simp))
              clear hK K
              refine flo_read _ rfl (fun K hK => ?_)
              go_simp
              first | (refine hK _ ?_) | (refine ⟨fun W hS => ?_, hK _ ?_⟩; · (skip; try go_simp))
              clear hK K
              refine flo_read _ rfl (fun K hK => ?_)
              go_simp
              first | (refine hK _ ?_) | (refine ⟨fun W hS => ?_, hK _ ?_⟩; · (skip; try go_simp))
              clear hK K
              refine flo_read _ rfl (fun K hK => ?_)
              go_simp
              first | (refine hK _ ?_) | (refine ⟨fun W hS => ?_, hK _ ?_⟩; · (skip; try go_simp))
              clear hK K
              refine flo_read _ rfl (fun K hK => ?_)
              go_simp
              first | (refine hK _ ?_) | (refine ⟨fun W hS => ?_, hK _ ?_⟩; · (skip; try go_simp))
              clear hK K
              refine flo_read _ rfl (fun K hK => ?_)
              go_simp
              first | (refine hK _ ?_) | (refine ⟨fun W hS => ?_, hK _ ?_⟩; · (skip; try go_simp))
              clear hK K
              refine flo_read _ rfl (fun K hK => ?_)
              go_simp
              first | (refine hK _ ?_) | (refine ⟨fun W hS => ?_, hK _ ?_⟩; · (skip; try go_simp))
              clear hK K
              refine flo_read _ rfl (fun K hK => ?_)
              go_simp
              first | (refine hK _ ?_) | (refine ⟨fun W hS => ?_, hK _ ?_⟩; · (skip; try go_simp))
              clear hK K
              refine flo_read _ rfl (fun K hK => ?_)
              go_simp
              first | (refine hK _ ?_) | (refine ⟨fun W hS => ?_, hK _ ?_⟩; · (skip; try go_simp))
              clear hK K
              refine flo_read _ rfl (fun K hK => ?_)
              go_simp
              first | (refine hK _ ?_) | (refine ⟨fun W hS => ?_, hK _ ?_⟩; · (skip; try go_simp))
              clear hK K
              refine flo_read _ rfl (fun K hK => ?_)
              go_simp
              first | (refine hK _ ?_) | (refine ⟨fun W hS => ?_, hK _ ?_⟩; · (skip; try go_simp))
              clear hK K
              refine flo_read _ rfl (fun K hK => ?_)
              go_simp
              first | (refine hK _ ?_) | (refine ⟨fun W hS => ?_, hK _ ?_⟩; · (skip; try go_simp))
              clear hK K
              refine flo_read _ rfl (fun K hK => ?_)
              go_simp
              first | (refine hK _ ?_) | (refine ⟨fun W hS => ?_, hK _ ?_⟩; · (skip; try go_simp))
              clear hK K
              refine flo_read _ rfl (fun K hK => ?_)
              go_simp
              first | (refine hK _ ?_) | (refine ⟨fun W hS => ?_, hK _ ?_⟩; · (skip; try go_simp))
              clear hK K
              refine flo_end ?_
              go_wp2_with fail
              go_ret
              exact ⟨rfl, T0.trans T5⟩
            | true =>
              simp only [Bool.true_and] at hpk
              by_cases hk0 : k = 0
              · have g2 : decide ((k : Int) > 0) = false := decide_eq_false (by omega)
                have g2b : decide (0 < k) = false := decide_eq_false (by omega)
                have ha : prev_ R k = none := by unfold prev_; rw [if_pos hk0]
                rw [ha] at hpk
                simp only [Bool.true_and] at hpk
                have hpkh := Lib.hid hpk
                have hnxh := Lib.hid hnx
                clear hpk hk0 ha hnx
                go_wp2_with fail
                clear x0 x1 x2 x3 t0 t1
                go_wp2_with fail
                refine wp_region_flo [(0, true), (1, true), (2, false), (3, true), (4, true), (5, true), (6, true), (7, false), (8, true), (9, true), (10, true), (11, true), (12, true), (13, true), (14, true), (15, false), (16, true), (17, true), (18, true), (19, true), (20, true), (21, false), (22, true), (23, true), (24, true), (25, true), (26, true), (27, true), (28, true), (29, true), (30, true), (31, true), (32, true), (33, true), (34, true), (35, true), (36, true), (37, true), (38, true), (39, true)] (fun W => Turns [] (wr.alloc (.cells #[.int .i64 xk, .int .i64 xa, .int .i64 xm, .slice Ao r.out.length co] 86)).drew W) (by kernel_rfl) rfl (by kernel_rfl) (by intro c d v a w h; cases d <;> first | (simpa [Exit.then, Exit.inBlock, Act.put] using h) | exact h) (Turns.refl _ _) ?_
                generalize (wr.alloc (.cells #[.int .i64 xk, .int .i64 xa, .int .i64 xm, .slice Ao r.out.length co] 86)).drew = w1 at *
                subst hxb
                have b0 : World.cell? (w1) ⟨wr.heap.size, 0, none⟩ = some _ := (B).cell 0
                have b1 : World.cell? (w1) ⟨wr.heap.size, 1, none⟩ = some _ := (B).cell 1
                refine flo_read _ rfl (fun K hK => ?_)
                go_simp
                first | (refine hK _ ?_) | (refine ⟨fun W hS => ?_, hK _ ?_⟩; · (have Y0 := hS.old b0; try go_simp))
                clear hK K
                refine flo_read _ rfl (fun K hK => ?_)
                go_simp
                first | (refine hK _ ?_) | (refine ⟨fun W hS => ?_, hK _ ?_⟩; · (have Y0 := hS.old b0; try go_simp))
                clear hK K
                refine flo_alone _ rfl ?_
                go_wp2_with fail
                go_at_call 64
                refine Calls.mono (I1.out _) ?_
                rintro e w2 ⟨rfl, t2⟩
                go_wp2_with fail
                refine ⟨fun W => Turns [] w2 W, fun W h => t2.trans h, Turns.refl _ _, ?_⟩
                have B2 := B.turns t2 (by simp)
                have T2 := Ta.trans t2
                clear b0 b1 B
                have b1 : World.cell? (w2) ⟨wr.heap.size, 1, none⟩ = some _ := (B2).cell 1
                refine flo_read _ rfl (fun K hK => ?_)
                go_simp
                first | (refine hK _ ?_) | (refine ⟨fun W hS => ?_, hK _ ?_⟩; · (have Y1 := hS.old b1; try go_simp))
                clear hK K
                refine flo_read _ rfl (fun K hK => ?_)
                go_simp
                first | (refine hK _ ?_) | (refine ⟨fun W hS => ?_, hK _ ?_⟩; · (have Y1 := hS.old b1; try go_simp))
                clear hK K
                refine flo_read _ rfl (fun K hK => ?_)
                go_simp
                first | (refine hK _ ?_) | (refine ⟨fun W hS => ?_, hK _ ?_⟩; · (have Y1 := hS.old b1; try go_simp))
                clear hK K
                refine flo_read _ rfl (fun K hK => ?_)
                go_simp
                first | (refine hK _ ?_) | (refine ⟨fun W hS => ?_, hK _ ?_⟩; · (have Y1 := hS.old b1; try go_simp))
                clear hK K
                refine flo_alone _ rfl ?_
                go_wp2_with fail
                go_at_call 60
                refine Calls.mono (I2.out _) ?_
                rintro e w3 ⟨rfl, t3⟩
                go_wp2_with fail
                refine ⟨fun W => Turns [] w3 W, fun W h => t3.trans h, Turns.refl _ _, ?_⟩
                have B3 := B2.turns t3 (by simp)
                have T3 := T2.trans t3
                have t0 := T3.old (B00.cell 0)
                clear b1 B2
                have b2 : World.cell? (w3) ⟨wr.heap.size, 2, none⟩ = some _ := (B3).cell 2
                refine flo_read _ rfl (fun K hK => ?_)
                go_simp
                first | (refine hK _ ?_) | (refine ⟨fun W hS => ?_, hK _ ?_⟩; · (have Y2 := hS.old b2; have Y3 := hS.old t0; try go_simp))
                clear hK K
                refine flo_read _ rfl (fun K hK => ?_)
                go_simp
                first | (refine hK _ ?_) | (refine ⟨fun W hS => ?_, hK _ ?_⟩; · (have Y2 := hS.old b2; have Y3 := hS.old t0; try go_simp))
                clear hK K
                refine flo_read _ rfl (fun K hK => ?_)
                go_simp
                first | (refine hK _ ?_) | (refine ⟨fun W hS => ?_, hK _ ?_⟩; · (have Y2 := hS.old b2; have Y3 := hS.old t0; try go_simp))
                clear hK K
                refine flo_read _ rfl (fun K hK => ?_)
                go_simp
                first | (refine hK _ ?_) | (refine ⟨fun W hS => ?_, hK _ ?_⟩; · (have Y2 := hS.old b2; have Y3 := hS.old t0; try go_simp))
                clear hK K
                refine flo_read _ rfl (fun K hK => ?_)
                go_simp
                first | (refine hK _ ?_) | (refine ⟨fun W hS => ?_, hK _ ?_⟩; · (have Y2 := hS.old b2; have Y3 := hS.old t0; try go_simp))
                clear hK K
                refine flo_read _ rfl (fun K hK => ?_)
                go_simp
                first | (refine hK _ ?_) | (refine ⟨fun W hS => ?_, hK _ ?_⟩; · (have Y2 := hS.old b2; have Y3 := hS.old t0; try go_simp))
                clear hK K
                refine flo_read _ rfl (fun K hK => ?_)
                go_simp
                first | (refine hK _ ?_) | (refine ⟨fun W hS => ?_, hK _ ?_⟩; · (have Y2 := hS.old b2; have Y3 := hS.old t0; try go_simp))
                clear hK K
                refine flo_alone _ rfl ?_
                go_wp2_with fail
                go_at_call 60
                refine Calls.mono (I3.out _) ?_
                rintro e w4 ⟨rfl, t4⟩
                go_wp2_with fail
                refine ⟨fun W => Turns [] w4 W, fun W h => t4.trans h, Turns.refl _ _, ?_⟩
                have B4 := B3.turns t4 (by simp)
                have T4 := T3.trans t4
                clear b2 t0 B3
                have b3 : World.cell? (w4) ⟨wr.heap.size, 3, none⟩ = some _ := (B4).cell 3
                refine flo_read _ rfl (fun K hK => ?_)
                go_simp
                first | (refine hK _ ?_) | (refine ⟨fun W hS => ?_, hK _ ?_⟩; · (have Y2 := hS.old b3; try go_simp))
                clear hK K
                refine flo_read _ rfl (fun K hK => ?_)
                go_simp
                first | (refine hK _ ?_) | (refine ⟨fun W hS => ?_, hK _ ?_⟩; · (have Y2 := hS.old b3; try go_simp))
                clear hK K
                refine flo_read _ rfl (fun K hK => ?_)
                go_simp
                first | (refine hK _ ?_) | (refine ⟨fun W hS => ?_, hK _ ?_⟩; · (have Y2 := hS.old b3; try go_simp))
                clear hK K
                refine flo_read _ rfl (fun K hK => ?_)
                go_simp
                first | (refine hK _ ?_) | (refine ⟨fun W hS => ?_, hK _ ?_⟩; · (have Y2 := hS.old b3; try go_simp))
                clear hK K
                refine flo_read _ rfl (fun K hK => ?_)
                go_simp
                first | (refine hK _ ?_) | (refine ⟨fun W hS => ?_, hK _ ?_⟩; · (have Y2 := hS.old b3; try go_simp))
                clear hK K
                refine flo_alone _ rfl ?_
                go_wp2_with fail
                go_at_call 65
                refine Calls.mono (I4.out _ T4) ?_
                rintro e w5 ⟨rfl, t5⟩
                go_wp2_with fail
                refine ⟨fun W => Turns [] w5 W, fun W h => t5.trans h, Turns.refl _ _, ?_⟩
                have B5 := B4.turns t5 (by simp)
                have T5 := T4.trans t5
                clear b3 B4
                refine flo_read _ rfl (fun K hK => ?_)
                go_simp
                first | (refine hK _ ?_) | (refine ⟨fun W hS => ?_, hK _ ?_⟩; · (skip; try go_simp))
                clear hK K
                refine flo_read _ rfl (fun K hK => ?_)
                go_simp
                first | (refine hK _ ?_) | (refine ⟨fun W hS => ?_, hK _ ?_⟩; · (skip; try go_simp))
                clear hK K
                refine flo_read _ rfl (fun K hK => ?_)
                go_simp
                first | (refine hK _ ?_) | (refine ⟨fun W hS => ?_, hK _ ?_⟩; · (skip; try go_simp))
                clear hK K
                refine flo_read _ rfl (fun K hK => ?_)
                go_simp
                first | (refine hK _ ?_) | (refine ⟨fun W hS => ?_, hK _ ?_⟩; · (skip; try go_simp))
                clear hK K
                refine flo_read _ rfl (fun K hK => ?_)
                go_simp
                first | (refine hK _ ?_) | (refine ⟨fun W hS => ?_, hK _ ?_⟩; · (skip; try go_simp))
                clear hK K
                refine flo_read _ rfl (fun K hK => ?_)
                go_simp
                first | (refine hK _ ?_) | (refine ⟨fun W hS => ?_, hK _ ?_⟩; · (skip; try go_simp))
                clear hK K
                refine flo_read _ rfl (fun K hK => ?_)
                go_simp
                first | (refine hK _ ?_) | (refine ⟨fun W hS => ?_, hK _ ?_⟩; · (skip; try go_simp))
                clear hK K
                refine flo_read _ rfl (fun K hK => ?_)
                go_simp
                first | (refine hK _ ?_) | (refine ⟨fun W hS => ?_, hK _ ?_⟩; · (skip; try go_simp))
                clear hK K
                refine flo_read _ rfl (fun K hK => ?_)
                go_simp
                first | (refine hK _ ?_) | (refine ⟨fun W hS => ?_, hK _ ?_⟩; · (skip; try go_simp))
                clear hK K
                refine flo_read _ rfl (fun K hK => ?_)
                go_simp
                first | (refine hK _ ?_) | (refine ⟨fun W hS => ?_, hK _ ?_⟩; · (skip; try go_simp))
                clear hK K
                refine flo_read _ rfl (fun K hK => ?_)
                go_simp
                first | (refine hK _ ?_) | (refine ⟨fun W hS => ?_, hK _ ?_⟩; · (skip; try go_simp))
                clear hK K
                refine flo_read _ rfl (fun K hK => ?_)
                go_simp
                first | (refine hK _ ?_) | (refine ⟨fun W hS => ?_, hK _ ?_⟩; · (skip; try go_simp))
                clear hK K
                refine flo_read _ rfl (fun K hK => ?_)
                go_simp
                first | (refine hK _ ?_) | (refine ⟨fun W hS => ?_, hK _ ?_⟩; · (skip; try go_simp))
                clear hK K
                refine flo_read _ rfl (fun K hK => ?_)
                go_simp
                first | (refine hK _ ?_) | (refine ⟨fun W hS => ?_, hK _ ?_⟩; · (skip; try go_simp))
                clear hK K
                refine flo_read _ rfl (fun K hK => ?_)
                go_simp
                first | (refine hK _ ?_) | (refine ⟨fun W hS => ?_, hK _ ?_⟩; · (skip; try go_simp))
                clear hK K
                refine flo_read _ rfl (fun K hK => ?_)
                go_simp
                first | (refine hK _ ?_) | (refine ⟨fun W hS => ?_, hK _ ?_⟩; · (skip; try go_simp))
                clear hK K
                refine flo_read _ rfl (fun K hK => ?_)
                go_simp
                first | (refine hK _ ?_) | (refine ⟨fun W hS => ?_, hK _ ?_⟩; · (skip; try go_simp))
                clear hK K
                refine flo_read _ rfl (fun K hK => ?_)
                go_simp
                first | (refine hK _ ?_) | (refine ⟨fun W hS => ?_, hK _ ?_⟩; · (skip; try go_simp))
                clear hK K
                refine flo_end ?_
                go_wp2_with fail
                go_roundw
                case rel => exact ⟨k + 1, by omega, by go_num, by rw [hnxh.out]; exact hpkh.out, T5⟩
                case measure => simp [RowKit.intOf]; omega
              · have g2 : decide ((k : Int) > 0) = true := decide_eq_true (by omega)
                have g2b : decide (0 < k) = true := decide_eq_true (by omega)
                obtain ⟨j, hj⟩ : ∃ j, k = j + 1 := ⟨k - 1, by omega⟩
                obtain ⟨y, hy⟩ : ∃ y, R[j]? = some y := ⟨_, List.getElem?_eq_getElem (by omega)⟩
                have ha : prev_ R k = some y := by rw [hj]; exact prev_next hy
                rw [ha] at hpk
                simp only at hpk
                obtain ⟨ad2, c2', z, hv2, hzr, LY⟩ := (hh.out.turns T0).at_ hy
                injection hv2 with e4 e5 e6
                injection e4 with e4
                subst e4 e6
                have hyc0 := LY.k
                rw [hzr.key] at hyc0
                have hyc := Lib.hid hyc0
                have w1_ : IntKind.i64.wrap ((k : Int) - 1) = (j : Int) := by rw [IntWalk.i64_in _ (by omega)]; omega
                have w2_ : (k : Int) - 1 = (j : Int) := by omega
                have w3_ : IntKind.i64.wrap (j : Int) = (j : Int) := IntWalk.i64_in _ (by omega)
                have hjl : j < R.length := by omega
                have hnxh := Lib.hid hnx
                have hkj := Lib.hid hj
                by_cases hr2 : y.key < xk
                · have g3 : decide (xk ≤ y.key) = false := decide_eq_false (by omega)
                  rw [decide_eq_true hr2, Bool.true_and] at hpk
                  have hpkh := Lib.hid hpk
                  clear hpk hk0 ha hnx hr2 LY hy e5 hj hr hyc0 hzr
                  go_wp2_with fail
                  clear x0 x1 x2 x3 t0 t1
                  go_wp2_with fail
                  refine wp_region_flo [(0, true), (1, true), (2, false), (3, true), (4, true), (5, true), (6, true), (7, false), (8, true), (9, true), (10, true), (11, true), (12, true), (13, true), (14, true), (15, false), (16, true), (17, true), (18, true), (19, true), (20, true), (21, false), (22, true), (23, true), (24, true), (25, true), (26, true), (27, true), (28, true), (29, true), (30, true), (31, true), (32, true), (33, true), (34, true), (35, true), (36, true), (37, true), (38, true), (39, true)] (fun W => Turns [] (wr.alloc (.cells #[.int .i64 xk, .int .i64 xa, .int .i64 xm, .slice Ao r.out.length co] 86)).drew W) (by kernel_rfl) rfl (by kernel_rfl) (by intro c d v a w h; cases d <;> first | (simpa [Exit.then, Exit.inBlock, Act.put] using h) | exact h) (Turns.refl _ _) ?_
                  generalize (wr.alloc (.cells #[.int .i64 xk, .int .i64 xa, .int .i64 xm, .slice Ao r.out.length co] 86)).drew = w1 at *
                  subst hxb
                  have b0 : World.cell? (w1) ⟨wr.heap.size, 0, none⟩ = some _ := (B).cell 0
                  have b1 : World.cell? (w1) ⟨wr.heap.size, 1, none⟩ = some _ := (B).cell 1
                  refine flo_read _ rfl (fun K hK => ?_)
                  go_simp
                  first | (refine hK _ ?_) | (refine ⟨fun W hS => ?_, hK _ ?_⟩; · (have Y0 := hS.old b0; try go_simp))
                  clear hK K
                  refine flo_read _ rfl (fun K hK => ?_)
                  go_simp
                  first | (refine hK _ ?_) | (refine ⟨fun W hS => ?_, hK _ ?_⟩; · (have Y0 := hS.old b0; try go_simp))
                  clear hK K
                  refine flo_alone _ rfl ?_
                  go_wp2_with fail
                  go_at_call 64
                  refine Calls.mono (I1.out _) ?_
                  rintro e w2 ⟨rfl, t2⟩
                  go_wp2_with fail
                  refine ⟨fun W => Turns [] w2 W, fun W h => t2.trans h, Turns.refl _ _, ?_⟩
                  have B2 := B.turns t2 (by simp)
                  have T2 := Ta.trans t2
                  clear b0 b1 B
                  have b1 : World.cell? (w2) ⟨wr.heap.size, 1, none⟩ = some _ := (B2).cell 1
                  refine flo_read _ rfl (fun K hK => ?_)
                  go_simp
                  first | (refine hK _ ?_) | (refine ⟨fun W hS => ?_, hK _ ?_⟩; · (have Y1 := hS.old b1; try go_simp))
                  clear hK K
                  refine flo_read _ rfl (fun K hK => ?_)
                  go_simp
                  first | (refine hK _ ?_) | (refine ⟨fun W hS => ?_, hK _ ?_⟩; · (have Y1 := hS.old b1; try go_simp))
                  clear hK K
                  refine flo_read _ rfl (fun K hK => ?_)
                  go_simp
                  first | (refine hK _ ?_) | (refine ⟨fun W hS => ?_, hK _ ?_⟩; · (have Y1 := hS.old b1; try go_simp))
                  clear hK K
                  refine flo_read _ rfl (fun K hK => ?_)
                  go_simp
                  first | (refine hK _ ?_) | (refine ⟨fun W hS => ?_, hK _ ?_⟩; · (have Y1 := hS.old b1; try go_simp))
                  clear hK K
                  refine flo_alone _ rfl ?_
                  go_wp2_with fail
                  go_at_call 60
                  refine Calls.mono (I2.out _) ?_
                  rintro e w3 ⟨rfl, t3⟩
                  go_wp2_with fail
                  refine ⟨fun W => Turns [] w3 W, fun W h => t3.trans h, Turns.refl _ _, ?_⟩
                  have B3 := B2.turns t3 (by simp)
                  have T3 := T2.trans t3
                  have t0 := T3.old (B00.cell 0)
                  clear b1 B2
                  have b2 : World.cell? (w3) ⟨wr.heap.size, 2, none⟩ = some _ := (B3).cell 2
                  refine flo_read _ rfl (fun K hK => ?_)
                  go_simp
                  first | (refine hK _ ?_) | (refine ⟨fun W hS => ?_, hK _ ?_⟩; · (have Y2 := hS.old b2; have Y3 := hS.old t0; try go_simp))
                  clear hK K
                  refine flo_read _ rfl (fun K hK => ?_)
                  go_simp
                  first | (refine hK _ ?_) | (refine ⟨fun W hS => ?_, hK _ ?_⟩; · (have Y2 := hS.old b2; have Y3 := hS.old t0; try go_simp))
                  clear hK K
                  refine flo_read _ rfl (fun K hK => ?_)
                  go_simp
                  first | (refine hK _ ?_) | (refine ⟨fun W hS => ?_, hK _ ?_⟩; · (have Y2 := hS.old b2; have Y3 := hS.old t0; try go_simp))
                  clear hK K
                  refine flo_read _ rfl (fun K hK => ?_)
                  go_simp
                  first | (refine hK _ ?_) | (refine ⟨fun W hS => ?_, hK _ ?_⟩; · (have Y2 := hS.old b2; have Y3 := hS.old t0; try go_simp))
                  clear hK K
                  refine flo_read _ rfl (fun K hK => ?_)
                  go_simp
                  first | (refine hK _ ?_) | (refine ⟨fun W hS => ?_, hK _ ?_⟩; · (have Y2 := hS.old b2; have Y3 := hS.old t0; try go_simp))
                  clear hK K
                  refine flo_read _ rfl (fun K hK => ?_)
                  go_simp
                  first | (refine hK _ ?_) | (refine ⟨fun W hS => ?_, hK _ ?_⟩; · (have Y2 := hS.old b2; have Y3 := hS.old t0; try go_simp))
                  clear hK K
                  refine flo_read _ rfl (fun K hK => ?_)
                  go_simp
                  first | (refine hK _ ?_) | (refine ⟨fun W hS => ?_, hK _ ?_⟩; · (have Y2 := hS.old b2; have Y3 := hS.old t0; try go_simp))
                  clear hK K
                  refine flo_alone _ rfl ?_
                  go_wp2_with fail
                  go_at_call 60
                  refine Calls.mono (I3.out _) ?_
                  rintro e w4 ⟨rfl, t4⟩
                  go_wp2_with fail
                  refine ⟨fun W => Turns [] w4 W, fun W h => t4.trans h, Turns.refl _ _, ?_⟩
                  have B4 := B3.turns t4 (by simp)
                  have T4 := T3.trans t4
                  clear b2 t0 B3
                  have b3 : World.cell? (w4) ⟨wr.heap.size, 3, none⟩ = some _ := (B4).cell 3
                  refine flo_read _ rfl (fun K hK => ?_)
                  go_simp
                  first | (refine hK _ ?_) | (refine ⟨fun W hS => ?_, hK _ ?_⟩; · (have Y2 := hS.old b3; try go_simp))
                  clear hK K
                  refine flo_read _ rfl (fun K hK => ?_)
                  go_simp
                  first | (refine hK _ ?_) | (refine ⟨fun W hS => ?_, hK _ ?_⟩; · (have Y2 := hS.old b3; try go_simp))
                  clear hK K
                  refine flo_read _ rfl (fun K hK => ?_)
                  go_simp
                  first | (refine hK _ ?_) | (refine ⟨fun W hS => ?_, hK _ ?_⟩; · (have Y2 := hS.old b3; try go_simp))
                  clear hK K
                  refine flo_read _ rfl (fun K hK => ?_)
                  go_simp
                  first | (refine hK _ ?_) | (refine ⟨fun W hS => ?_, hK _ ?_⟩; · (have Y2 := hS.old b3; try go_simp))
                  clear hK K
                  refine flo_read _ rfl (fun K hK => ?_)
                  go_simp
                  first | (refine hK _ ?_) | (refine ⟨fun W hS => ?_, hK _ ?_⟩; · (have Y2 := hS.old b3; try go_simp))
                  clear hK K
                  refine flo_alone _ rfl ?_
                  go_wp2_with fail
                  go_at_call 65
                  refine Calls.mono (I4.out _ T4) ?_
                  rintro e w5 ⟨rfl, t5⟩
                  go_wp2_with fail
                  refine ⟨fun W => Turns [] w5 W, fun W h => t5.trans h, Turns.refl _ _, ?_⟩
                  have B5 := B4.turns t5 (by simp)
                  have T5 := T4.trans t5
                  clear b3 B4
                  have z0 := T5.old hyc.out
                  have t1 := T5.old (B00.cell 1)
                  have b0 : World.cell? (w5) ⟨wr.heap.size, 0, none⟩ = some _ := (B5).cell 0
                  refine flo_read _ rfl (fun K hK => ?_)
                  go_simp
                  first | (refine hK _ ?_) | (refine ⟨fun W hS => ?_, hK _ ?_⟩; · (have Y0 := hS.old b0; have Z0 := hS.old z0; have Z1 := hS.old t1; try go_simp))
                  clear hK K
                  refine flo_read _ rfl (fun K hK => ?_)
                  go_simp
                  first | (refine hK _ ?_) | (refine ⟨fun W hS => ?_, hK _ ?_⟩; · (have Y0 := hS.old b0; have Z0 := hS.old z0; have Z1 := hS.old t1; try go_simp))
                  clear hK K
                  refine flo_read _ rfl (fun K hK => ?_)
                  go_simp
                  first | (refine hK _ ?_) | (refine ⟨fun W hS => ?_, hK _ ?_⟩; · (have Y0 := hS.old b0; have Z0 := hS.old z0; have Z1 := hS.old t1; try go_simp))
                  clear hK K
                  refine flo_read _ rfl (fun K hK => ?_)
                  go_simp
                  first | (refine hK _ ?_) | (refine ⟨fun W hS => ?_, hK _ ?_⟩; · (have Y0 := hS.old b0; have Z0 := hS.old z0; have Z1 := hS.old t1; try go_simp))
                  clear hK K
                  refine flo_read _ rfl (fun K hK => ?_)
                  go_simp
                  first | (refine hK _ ?_) | (refine ⟨fun W hS => ?_, hK _ ?_⟩; · (have Y0 := hS.old b0; have Z0 := hS.old z0; have Z1 := hS.old t1; try go_simp))
                  clear hK K
                  refine flo_read _ rfl (fun K hK => ?_)
                  go_simp
                  first | (refine hK _ ?_) | (refine ⟨fun W hS => ?_, hK _ ?_⟩; · (have Y0 := hS.old b0; have Z0 := hS.old z0; have Z1 := hS.old t1; try go_simp))
                  clear hK K
                  refine flo_read _ rfl (fun K hK => ?_)
                  go_simp
                  first | (refine hK _ ?_) | (refine ⟨fun W hS => ?_, hK _ ?_⟩; · (have Y0 := hS.old b0; have Z0 := hS.old z0; have Z1 := hS.old t1; try go_simp))
                  clear hK K
                  refine flo_read _ rfl (fun K hK => ?_)
                  go_simp
                  first | (refine hK _ ?_) | (refine ⟨fun W hS => ?_, hK _ ?_⟩; · (have Y0 := hS.old b0; have Z0 := hS.old z0; have Z1 := hS.old t1; try go_simp))
                  clear hK K
                  refine flo_read _ rfl (fun K hK => ?_)
                  go_simp
                  first | (refine hK _ ?_) | (refine ⟨fun W hS => ?_, hK _ ?_⟩; · (have Y0 := hS.old b0; have Z0 := hS.old z0; have Z1 := hS.old t1; try go_simp))
                  clear hK K
                  refine flo_read _ rfl (fun K hK => ?_)
                  go_simp
                  first | (refine hK _ ?_) | (refine ⟨fun W hS => ?_, hK _ ?_⟩; · (have Y0 := hS.old b0; have Z0 := hS.old z0; have Z1 := hS.old t1; try go_simp))
                  clear hK K
                  refine flo_read _ rfl (fun K hK => ?_)
                  go_simp
                  first | (refine hK _ ?_) | (refine ⟨fun W hS => ?_, hK _ ?_⟩; · (have Y0 := hS.old b0; have Z0 := hS.old z0; have Z1 := hS.old t1; try go_simp))
                  clear hK K
                  refine flo_read _ rfl (fun K hK => ?_)
                  go_simp
                  first | (refine hK _ ?_) | (refine ⟨fun W hS => ?_, hK _ ?_⟩; · (have Y0 := hS.old b0; have Z0 := hS.old z0; have Z1 := hS.old t1; try go_simp))
                  clear hK K
                  refine flo_read _ rfl (fun K hK => ?_)
                  go_simp
                  first | (refine hK _ ?_) | (refine ⟨fun W hS => ?_, hK _ ?_⟩; · (have Y0 := hS.old b0; have Z0 := hS.old z0; have Z1 := hS.old t1; try go_simp))
                  clear hK K
                  refine flo_read _ rfl (fun K hK => ?_)
                  go_simp
                  first | (refine hK _ ?_) | (refine ⟨fun W hS => ?_, hK _ ?_⟩; · (have Y0 := hS.old b0; have Z0 := hS.old z0; have Z1 := hS.old t1; try go_simp))
                  clear hK K
                  refine flo_read _ rfl (fun K hK => ?_)
                  go_simp
                  first | (refine hK _ ?_) | (refine ⟨fun W hS => ?_, hK _ ?_⟩; · (have Y0 := hS.old b0; have Z0 := hS.old z0; have Z1 := hS.old t1; try go_simp))
                  clear hK K
                  refine flo_read _ rfl (fun K hK => ?_)
                  go_simp
                  first | (refine hK _ ?_) | (refine ⟨fun W hS => ?_, hK _ ?_⟩; · (have Y0 := hS.old b0; have Z0 := hS.old z0; have Z1 := hS.old t1; try go_simp))
                  clear hK K
                  refine flo_read _ rfl (fun K hK => ?_)
                  go_simp
                  first | (refine hK _ ?_) | (refine ⟨fun W hS => ?_, hK _ ?_⟩; · (have Y0 := hS.old b0; have Z0 := hS.old z0; have Z1 := hS.old t1; try go_simp))
                  clear hK K
                  refine flo_read _ rfl (fun K hK => ?_)
                  go_simp
                  first | (refine hK _ ?_) | (refine ⟨fun W hS => ?_, hK _ ?_⟩; · (have Y0 := hS.old b0; have Z0 := hS.old z0; have Z1 := hS.old t1; try go_simp))
                  clear hK K
                  refine flo_end ?_
                  clear z0 t1 b0
                  go_wp2_with fail
                  go_roundw
                  case rel => exact ⟨k + 1, by omega, by go_num, by rw [hnxh.out]; exact hpkh.out, T5⟩
                  case measure => simp [RowKit.intOf]; omega
                · have g3 : decide (xk ≤ y.key) = true := decide_eq_true (by omega)
                  rw [decide_eq_false hr2, Bool.false_and] at hpk
                  subst hpk
                  clear hk0 ha hnx hr2 LY hy e5 hj hr hyc0 hzr
                  go_wp2_with fail
                  clear x0 x1 x2 x3 t0 t1
                  go_wp2_with fail
                  refine wp_region_flo [(0, true), (1, true), (2, false), (3, true), (4, true), (5, true), (6, true), (7, false), (8, true), (9, true), (10, true), (11, true), (12, true), (13, true), (14, true), (15, false), (16, true), (17, true), (18, true), (19, true), (20, true), (21, false), (22, true), (23, true), (24, true), (25, true), (26, true), (27, true), (28, true), (29, true), (30, true), (31, true), (32, true), (33, true), (34, true), (35, true), (36, true), (37, true), (38, true), (39, true)] (fun W => Turns [] (wr.alloc (.cells #[.int .i64 xk, .int .i64 xa, .int .i64 xm, .slice Ao r.out.length co] 86)).drew W) (by kernel_rfl) rfl (by kernel_rfl) (by intro c d v a w h; cases d <;> first | (simpa [Exit.then, Exit.inBlock, Act.put] using h) | exact h) (Turns.refl _ _) ?_
                  generalize (wr.alloc (.cells #[.int .i64 xk, .int .i64 xa, .int .i64 xm, .slice Ao r.out.length co] 86)).drew = w1 at *
                  subst hxb
                  have b0 : World.cell? (w1) ⟨wr.heap.size, 0, none⟩ = some _ := (B).cell 0
                  have b1 : World.cell? (w1) ⟨wr.heap.size, 1, none⟩ = some _ := (B).cell 1
                  refine flo_read _ rfl (fun K hK => ?_)
                  go_simp
                  first | (refine hK _ ?_) | (refine ⟨fun W hS => ?_, hK _ ?_⟩; · (have Y0 := hS.old b0; try go_simp))
                  clear hK K
                  refine flo_read _ rfl (fun K hK => ?_)
                  go_simp
                  first | (refine hK _ ?_) | (refine ⟨fun W hS => ?_, hK _ ?_⟩; · (have Y0 := hS.old b0; try go_simp))
                  clear hK K
                  refine flo_alone _ rfl ?_
                  go_wp2_with fail
                  go_at_call 64
                  refine Calls.mono (I1.out _) ?_
                  rintro e w2 ⟨rfl, t2⟩
                  go_wp2_with fail
                  refine ⟨fun W => Turns [] w2 W, fun W h => t2.trans h, Turns.refl _ _, ?_⟩
                  have B2 := B.turns t2 (by simp)
                  have T2 := Ta.trans t2
                  clear b0 b1 B
                  have b1 : World.cell? (w2) ⟨wr.heap.size, 1, none⟩ = some _ := (B2).cell 1
                  refine flo_read _ rfl (fun K hK => ?_)
                  go_simp
                  first | (refine hK _ ?_) | (refine ⟨fun W hS => ?_, hK _ ?_⟩; · (have Y1 := hS.old b1; try go_simp))
                  clear hK K
                  refine flo_read _ rfl (fun K hK => ?_)
                  go_simp
                  first | (refine hK _ ?_) | (refine ⟨fun W hS => ?_, hK _ ?_⟩; · (have Y1 := hS.old b1; try go_simp))
                  clear hK K
                  refine flo_read _ rfl (fun K hK => ?_)
                  go_simp
                  first | (refine hK _ ?_) | (refine ⟨fun W hS => ?_, hK _ ?_⟩; · (have Y1 := hS.old b1; try go_simp))
                  clear hK K
                  refine flo_read _ rfl (fun K hK => ?_)
                  go_simp
                  first | (refine hK _ ?_) | (refine ⟨fun W hS => ?_, hK _ ?_⟩; · (have Y1 := hS.old b1; try go_simp))
                  clear hK K
                  refine flo_alone _ rfl ?_
                  go_wp2_with fail
                  go_at_call 60
                  refine Calls.mono (I2.out _) ?_
                  rintro e w3 ⟨rfl, t3⟩
                  go_wp2_with fail
                  refine ⟨fun W => Turns [] w3 W, fun W h => t3.trans h, Turns.refl _ _, ?_⟩
                  have B3 := B2.turns t3 (by simp)
                  have T3 := T2.trans t3
                  have t0 := T3.old (B00.cell 0)
                  clear b1 B2
                  have b2 : World.cell? (w3) ⟨wr.heap.size, 2, none⟩ = some _ := (B3).cell 2
                  refine flo_read _ rfl (fun K hK => ?_)
                  go_simp
                  first | (refine hK _ ?_) | (refine ⟨fun W hS => ?_, hK _ ?_⟩; · (have Y2 := hS.old b2; have Y3 := hS.old t0; try go_simp))
                  clear hK K
                  refine flo_read _ rfl (fun K hK => ?_)
                  go_simp
                  first | (refine hK _ ?_) | (refine ⟨fun W hS => ?_, hK _ ?_⟩; · (have Y2 := hS.old b2; have Y3 := hS.old t0; try go_simp))
                  clear hK K
                  refine flo_read _ rfl (fun K hK => ?_)
                  go_simp
                  first | (refine hK _ ?_) | (refine ⟨fun W hS => ?_, hK _ ?_⟩; · (have Y2 := hS.old b2; have Y3 := hS.old t0; try go_simp))
                  clear hK K
                  refine flo_read _ rfl (fun K hK => ?_)
                  go_simp
                  first | (refine hK _ ?_) | (refine ⟨fun W hS => ?_, hK _ ?_⟩; · (have Y2 := hS.old b2; have Y3 := hS.old t0; try go_simp))
                  clear hK K
                  refine flo_read _ rfl (fun K hK => ?_)
                  go_simp
                  first | (refine hK _ ?_) | (refine ⟨fun W hS => ?_, hK _ ?_⟩; · (have Y2 := hS.old b2; have Y3 := hS.old t0; try go_simp))
                  clear hK K
                  refine flo_read _ rfl (fun K hK => ?_)
                  go_simp
                  first | (refine hK _ ?_) | (refine ⟨fun W hS => ?_, hK _ ?_⟩; · (have Y2 := hS.old b2; have Y3 := hS.old t0; try go_simp))
                  clear hK K
                  refine flo_read _ rfl (fun K hK => ?_)
                  go_simp
                  first | (refine hK _ ?_) | (refine ⟨fun W hS => ?_, hK _ ?_⟩; · (have Y2 := hS.old b2; have Y3 := hS.old t0; try go_simp))
                  clear hK K
                  refine flo_alone _ rfl ?_
                  go_wp2_with fail
                  go_at_call 60
                  refine Calls.mono (I3.out _) ?_
                  rintro e w4 ⟨rfl, t4⟩
                  go_wp2_with fail
                  refine ⟨fun W => Turns [] w4 W, fun W h => t4.trans h, Turns.refl _ _, ?_⟩
                  have B4 := B3.turns t4 (by simp)
                  have T4 := T3.trans t4
                  clear b2 t0 B3
                  have b3 : World.cell? (w4) ⟨wr.heap.size, 3, none⟩ = some _ := (B4).cell 3
                  refine flo_read _ rfl (fun K hK => ?_)
                  go_simp
                  first | (refine hK _ ?_) | (refine ⟨fun W hS => ?_, hK _ ?_⟩; · (have Y2 := hS.old b3; try go_simp))
                  clear hK K
                  refine flo_read _ rfl (fun K hK => ?_)
                  go_simp
                  first | (refine hK _ ?_) | (refine ⟨fun W hS => ?_, hK _ ?_⟩; · (have Y2 := hS.old b3; try go_simp))
                  clear hK K
                  refine flo_read _ rfl (fun K hK => ?_)
                  go_simp
                  first | (refine hK _ ?_) | (refine ⟨fun W hS => ?_, hK _ ?_⟩; · (have Y2 := hS.old b3; try go_simp))
                  clear hK K
                  refine flo_read _ rfl (fun K hK => ?_)
                  go_simp
                  first | (refine hK _ ?_) | (refine ⟨fun W hS => ?_, hK _ ?_⟩; · (have Y2 := hS.old b3; try go_simp))
                  clear hK K
                  refine flo_read _ rfl (fun K hK => ?_)
                  go_simp
                  first | (refine hK _ ?_) | (refine ⟨fun W hS => ?_, hK _ ?_⟩; · (have Y2 := hS.old b3; try go_simp))
                  clear hK K
                  refine flo_alone _ rfl ?_
                  go_wp2_with fail
                  go_at_call 65
                  refine Calls.mono (I4.out _ T4) ?_
                  rintro e w5 ⟨rfl, t5⟩
                  go_wp2_with fail
                  refine ⟨fun W => Turns [] w5 W, fun W h => t5.trans h, Turns.refl _ _, ?_⟩
                  have B5 := B4.turns t5 (by simp)
                  have T5 := T4.trans t5
                  clear b3 B4
                  have z0 := T5.old hyc.out
                  have t1 := T5.old (B00.cell 1)
                  have b0 : World.cell? (w5) ⟨wr.heap.size, 0, none⟩ = some _ := (B5).cell 0
                  refine flo_read _ rfl (fun K hK => ?_)
                  go_simp
                  first | (refine hK _ ?_) | (refine ⟨fun W hS => ?_, hK _ ?_⟩; · (have Y0 := hS.old b0; have Z0 := hS.old z0; have Z1 := hS.old t1; try go_simp))
                  clear hK K
                  refine flo_read _ rfl (fun K hK => ?_)
                  go_simp
                  first | (refine hK _ ?_) | (refine ⟨fun W hS => ?_, hK _ ?_⟩; · (have Y0 := hS.old b0; have Z0 := hS.old z0; have Z1 := hS.old t1; try go_simp))
                  clear hK K
                  refine flo_read _ rfl (fun K hK => ?_)
                  go_simp
                  first | (refine hK _ ?_) | (refine ⟨fun W hS => ?_, hK _ ?_⟩; · (have Y0 := hS.old b0; have Z0 := hS.old z0; have Z1 := hS.old t1; try go_simp))
                  clear hK K
                  refine flo_read _ rfl (fun K hK => ?_)
                  go_simp
                  first | (refine hK _ ?_) | (refine ⟨fun W hS => ?_, hK _ ?_⟩; · (have Y0 := hS.old b0; have Z0 := hS.old z0; have Z1 := hS.old t1; try go_simp))
                  clear hK K
                  refine flo_read _ rfl (fun K hK => ?_)
                  go_simp
                  first | (refine hK _ ?_) | (refine ⟨fun W hS => ?_, hK _ ?_⟩; · (have Y0 := hS.old b0; have Z0 := hS.old z0; have Z1 := hS.old t1; try go_simp))
                  clear hK K
                  refine flo_read _ rfl (fun K hK => ?_)
                  go_simp
                  first | (refine hK _ ?_) | (refine ⟨fun W hS => ?_, hK _ ?_⟩; · (have Y0 := hS.old b0; have Z0 := hS.old z0; have Z1 := hS.old t1; try go_simp))
                  clear hK K
                  refine flo_read _ rfl (fun K hK => ?_)
                  go_simp
                  first | (refine hK _ ?_) | (refine ⟨fun W hS => ?_, hK _ ?_⟩; · (have Y0 := hS.old b0; have Z0 := hS.old z0; have Z1 := hS.old t1; try go_simp))
                  clear hK K
                  refine flo_read _ rfl (fun K hK => ?_)
                  go_simp
                  first | (refine hK _ ?_) | (refine ⟨fun W hS => ?_, hK _ ?_⟩; · (have Y0 := hS.old b0; have Z0 := hS.old z0; have Z1 := hS.old t1; try go_simp))
                  clear hK K
                  refine flo_read _ rfl (fun K hK => ?_)
                  go_simp
                  first | (refine hK _ ?_) | (refine ⟨fun W hS => ?_, hK _ ?_⟩; · (have Y0 := hS.old b0; have Z0 := hS.old z0; have Z1 := hS.old t1; try go_simp))
                  clear hK K
                  refine flo_read _ rfl (fun K hK => ?_)
                  go_simp
                  first | (refine hK _ ?_) | (refine ⟨fun W hS => ?_, hK _ ?_⟩; · (have Y0 := hS.old b0; have Z0 := hS.old z0; have Z1 := hS.old t1; try go_simp))
                  clear hK K
                  refine flo_read _ rfl (fun K hK => ?_)
                  go_simp
                  first | (refine hK _ ?_) | (refine ⟨fun W hS => ?_, hK _ ?_⟩; · (have Y0 := hS.old b0; have Z0 := hS.old z0; have Z1 := hS.old t1; try go_simp))
                  clear hK K
                  refine flo_read _ rfl (fun K hK => ?_)
                  go_simp
                  first | (refine hK _ ?_) | (refine ⟨fun W hS => ?_, hK _ ?_⟩; · (have Y0 := hS.old b0; have Z0 := hS.old z0; have Z1 := hS.old t1; try go_simp))
                  clear hK K
                  refine flo_read _ rfl (fun K hK => ?_)
                  go_simp
                  first | (refine hK _ ?_) | (refine ⟨fun W hS => ?_, hK _ ?_⟩; · (have Y0 := hS.old b0; have Z0 := hS.old z0; have Z1 := hS.old t1; try go_simp))
                  clear hK K
                  refine flo_read _ rfl (fun K hK => ?_)
                  go_simp
                  first | (refine hK _ ?_) | (refine ⟨fun W hS => ?_, hK _ ?_⟩; · (have Y0 := hS.old b0; have Z0 := hS.old z0; have Z1 := hS.old t1; try go_simp))
                  clear hK K
                  refine flo_read _ rfl (fun K hK => ?_)
                  go_simp
                  first | (refine hK _ ?_) | (refine ⟨fun W hS => ?_, hK _ ?_⟩; · (have Y0 := hS.old b0; have Z0 := hS.old z0; have Z1 := hS.old t1; try go_simp))
                  clear hK K
                  refine flo_read _ rfl (fun K hK => ?_)
                  go_simp
                  first | (refine hK _ ?_) | (refine ⟨fun W hS => ?_, hK _ ?_⟩; · (have Y0 := hS.old b0; have Z0 := hS.old z0; have Z1 := hS.old t1; try go_simp))
                  clear hK K
                  refine flo_read _ rfl (fun K hK => ?_)
                  go_simp
                  first | (refine hK _ ?_) | (refine ⟨fun W hS => ?_, hK _ ?_⟩; · (have Y0 := hS.old b0; have Z0 := hS.old z0; have Z1 := hS.old t1; try go_simp))
                  clear hK K
                  refine flo_read _ rfl (fun K hK => ?_)
                  go_simp
                  first | (refine hK _ ?_) | (refine ⟨fun W hS => ?_, hK _ ?_⟩; · (have Y0 := hS.old b0; have Z0 := hS.old z0; have Z1 := hS.old t1; try go_simp))
                  clear hK K
                  refine flo_end ?_
                  go_wp2_with fail
                  go_ret
                  exact ⟨rfl, T0.trans T5⟩
    · obtain rfl : k = R.length := by omega
      have g1 : decide ((R.length : Int) < (R.length : Int)) = false := by simp
      rw [List.drop_length] at hpk
      unfold okRows at hpk
      subst hpk
      have u0 := T.old t0
      have u1 := T.old t1
      clear t0 t1
      cases s0 with
      | false =>
        go_wp2_with fail
        go_at_call 60
        refine Calls.mono (I0.out _) ?_
        rintro e w2 ⟨rfl, t2⟩
        go_wp2_with fail
        go_ret
        exact ⟨rfl, (T0.trans T).trans t2⟩
      | true =>
        go_wp2_with fail
        go_at_call 60
        refine Calls.mono (I0.out _) ?_
        rintro e w2 ⟨rfl, t2⟩
        have u0 := (T.trans t2).old (B0.cell 0)
        have u1 := (T.trans t2).old (B0.cell 1)
        go_wp2_with fail
        go_ret
        exact ⟨rfl, (T0.trans T).trans t2⟩
end Go.Proofs.Ytohokckpheljbaa.Fb
