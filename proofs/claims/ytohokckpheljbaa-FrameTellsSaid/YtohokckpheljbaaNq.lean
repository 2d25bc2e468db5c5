/- FrameTells: the law's walk. -/
import Derived.Test.YtohokckpheljbaaNl
import Derived.Test.YtohokckpheljbaaFd
import Derived.Test.YtohokckpheljbaaFp
import Derived.Test.YtohokckpheljbaaNo
set_option linter.unusedVariables false
set_option linter.unusedSimpArgs false
set_option maxRecDepth 100000
namespace Go.Proofs.Ytohokckpheljbaa.Nq
open Go.RowKit Go.MapKept Hm Hs Hr Hb Hf Hg Hv Hx Fa Fb Ff Fg Fi Fj Fq Kw Kn Kr Ks Kt Na Nb Nz Nc Nd Ne_ Nj Nk Nr Nl
/-- both frames lie in memory -/
structure Two (w W : World) (fa fb : Nat) (ca cb : Array Value) : Prop where
  a : Blk W fa ca 41
  b : Blk W fb cb 41
  t : Turns [] w W
theorem Two.turns {w W W' : World} {fa fb : Nat} {ca cb : Array Value} (h : Two w W fa fb ca cb) (t : Turns [] W W') : Two w W' fa fb ca cb := ⟨h.a.turns t (by simp), h.b.turns t (by simp), h.t.trans t⟩
theorem bb (q : Bool) : (q != q) = false := by cases q <;> rfl
set_option maxHeartbeats 40000000 in
theorem tells_is (w : World) (f g : Fr) (sv rv sv2 rv2 : Value) (hf : TokR w f.tok sv rv) (hg : TokR w g.tok sv2 rv2) (hb : 0 ≤ f.bits ∧ f.bits < 18446744073709551616) : Calls Try.prog 6 #[frv f sv rv, frv g sv2 rv2] w fun e w' => e = .returned (.bool true) ∧ Turns [] w w' := by
  obtain ⟨X, hX⟩ : ∃ X : Ending → World → Prop, X = fun e w' => e = .returned (.bool true) ∧ Turns [] w w' := ⟨_, rfl⟩
  rw [← hX]
  have hXh : Hid (∀ w', Turns [] w w' → X (.returned (.bool true)) w') := Lib.hid (fun w' h => by rw [hX]; exact ⟨rfl, h⟩)
  have hcv : Hid (∀ (W : World) (v : Value) (l : List Int), RdS 1 W v (bys l) → (convert 55 9 v).run Try.prog W = .ok (.string (strB l)) W) := Lib.hid (fun W v l h => RdS.str (P := Try.prog) (dst := 9) h Try.underlying55 Try.underlying5 Try.underlying9)
  have CF := Lib.hid (fun W (t : Turns [] w W) => fits_is W f sv rv (hf.turns t))
  have CG := Lib.hid (fun W (t : Turns [] w W) => fits_is W g sv2 rv2 (hg.turns t))
  have hfh := Lib.hid hf
  have hgh := Lib.hid hg
  have hbh := Lib.hid hb
  have T0 : Two w ((w.alloc (.cells (frc f sv rv) 41)).alloc (.cells (frc g sv2 rv2) 41)) w.heap.size (w.heap.size + 1) (frc f sv rv) (frc g sv2 rv2) :=
    ⟨(Blk.new w (frc f sv rv) _).alloc _, by have := Blk.new (w.alloc (.cells (frc f sv rv) 41)) (frc g sv2 rv2) 41; rw [World.size_alloc] at this; exact this, ((Turns.refl [] w).alloc _).alloc _⟩
  obtain ⟨A1, c1, rfl, _⟩ := rform hf.st
  obtain ⟨A2, c2, rfl, _⟩ := hf.rows.form
  obtain ⟨A3, c3, rfl, _⟩ := rform hg.st
  obtain ⟨A4, c4, rfl, _⟩ := hg.rows.form
  have hT0 := Lib.hid T0
  unfold frv
  unfold frv at CF CG
  clear hf hg hb hX T0
  cases hq1 : fitsB f.tok with
  | false =>
    rw [hq1] at CF
    clear hq1
    generalize fitsB g.tok = q2 at *
    go_enter Try.func6, Try.ntmps6
    go_upto_region 1 with fail
    generalize (w.alloc (.cells (frc f (.slice A1 f.tok.st.length c1) (.slice A2 f.tok.rows.length c2)) 41)).alloc (.cells (frc g (.slice A3 g.tok.st.length c3) (.slice A4 g.tok.rows.length c4)) 41) = w0 at *
    generalize w.heap.size + 1 = fb at *
    generalize w.heap.size = fa at *
    have C1 := Lib.hid (CF.out _ hT0.out.t)
    have x0 : World.cell? (w0) ⟨fa, 0, none⟩ = some _ := (hT0.out.a).cell 0
    have x1 : World.cell? (w0) ⟨fa, 1, none⟩ = some _ := (hT0.out.a).cell 1
    have x2 : World.cell? (w0) ⟨fa, 2, none⟩ = some _ := (hT0.out.a).cell 2
    have x3 : World.cell? (w0) ⟨fa, 3, none⟩ = some _ := (hT0.out.a).cell 3
    have x4 : World.cell? (w0) ⟨fa, 4, none⟩ = some _ := (hT0.out.a).cell 4
    have x5 : World.cell? (w0) ⟨fa, 5, none⟩ = some _ := (hT0.out.a).cell 5
    have x6 : World.cell? (w0) ⟨fa, 6, none⟩ = some _ := (hT0.out.a).cell 6
    have x7 : World.cell? (w0) ⟨fa, 7, none⟩ = some _ := (hT0.out.a).cell 7
    have x8 : World.cell? (w0) ⟨fa, 8, none⟩ = some _ := (hT0.out.a).cell 8
    have x9 : World.cell? (w0) ⟨fa, 9, none⟩ = some _ := (hT0.out.a).cell 9
    have x10 : World.cell? (w0) ⟨fa, 10, none⟩ = some _ := (hT0.out.a).cell 10
    go_wp2_with fail
    go_at_call 16
    refine Calls.mono (C1.out) ?_
    rintro e w1 ⟨rfl, t1⟩
    have hT1 := Lib.hid (hT0.out.turns t1)
    clear x0 x1 x2 x3 x4 x5 x6 x7 x8 x9 x10
    have C2 := Lib.hid (CG.out _ hT1.out.t)
    have z0 : World.cell? (w1) ⟨fb, 0, none⟩ = some _ := (hT1.out.b).cell 0
    have z1 : World.cell? (w1) ⟨fb, 1, none⟩ = some _ := (hT1.out.b).cell 1
    have z2 : World.cell? (w1) ⟨fb, 2, none⟩ = some _ := (hT1.out.b).cell 2
    have z3 : World.cell? (w1) ⟨fb, 3, none⟩ = some _ := (hT1.out.b).cell 3
    have z4 : World.cell? (w1) ⟨fb, 4, none⟩ = some _ := (hT1.out.b).cell 4
    have z5 : World.cell? (w1) ⟨fb, 5, none⟩ = some _ := (hT1.out.b).cell 5
    have z6 : World.cell? (w1) ⟨fb, 6, none⟩ = some _ := (hT1.out.b).cell 6
    have z7 : World.cell? (w1) ⟨fb, 7, none⟩ = some _ := (hT1.out.b).cell 7
    have z8 : World.cell? (w1) ⟨fb, 8, none⟩ = some _ := (hT1.out.b).cell 8
    have z9 : World.cell? (w1) ⟨fb, 9, none⟩ = some _ := (hT1.out.b).cell 9
    have z10 : World.cell? (w1) ⟨fb, 10, none⟩ = some _ := (hT1.out.b).cell 10
    go_wp2_with fail
    go_at_call 16
    refine Calls.mono (C2.out) ?_
    rintro e w2 ⟨rfl, t2⟩
    have hT2 := Lib.hid (hT1.out.turns t2)
    clear z0 z1 z2 z3 z4 z5 z6 z7 z8 z9 z10
    clear C1 C2 CF CG hT0 hT1 t1 t2
    go_wp2_with fail
    go_at_call 18
    refine Calls.mono (alive_is _) ?_
    rintro e wz ⟨rfl, tz⟩
    have hX := hXh.out _ (hT2.out.t.trans tz)
    go_wp2_with fail
    exact hX
  | true =>
    cases hq2 : fitsB g.tok with
    | false =>
      rw [hq1] at CF
      rw [hq2] at CG
      clear hq1 hq2
      go_enter Try.func6, Try.ntmps6
      go_upto_region 1 with fail
      generalize (w.alloc (.cells (frc f (.slice A1 f.tok.st.length c1) (.slice A2 f.tok.rows.length c2)) 41)).alloc (.cells (frc g (.slice A3 g.tok.st.length c3) (.slice A4 g.tok.rows.length c4)) 41) = w0 at *
      generalize w.heap.size + 1 = fb at *
      generalize w.heap.size = fa at *
      have C1 := Lib.hid (CF.out _ hT0.out.t)
      have x0 : World.cell? (w0) ⟨fa, 0, none⟩ = some _ := (hT0.out.a).cell 0
      have x1 : World.cell? (w0) ⟨fa, 1, none⟩ = some _ := (hT0.out.a).cell 1
      have x2 : World.cell? (w0) ⟨fa, 2, none⟩ = some _ := (hT0.out.a).cell 2
      have x3 : World.cell? (w0) ⟨fa, 3, none⟩ = some _ := (hT0.out.a).cell 3
      have x4 : World.cell? (w0) ⟨fa, 4, none⟩ = some _ := (hT0.out.a).cell 4
      have x5 : World.cell? (w0) ⟨fa, 5, none⟩ = some _ := (hT0.out.a).cell 5
      have x6 : World.cell? (w0) ⟨fa, 6, none⟩ = some _ := (hT0.out.a).cell 6
      have x7 : World.cell? (w0) ⟨fa, 7, none⟩ = some _ := (hT0.out.a).cell 7
      have x8 : World.cell? (w0) ⟨fa, 8, none⟩ = some _ := (hT0.out.a).cell 8
      have x9 : World.cell? (w0) ⟨fa, 9, none⟩ = some _ := (hT0.out.a).cell 9
      have x10 : World.cell? (w0) ⟨fa, 10, none⟩ = some _ := (hT0.out.a).cell 10
      go_wp2_with fail
      go_at_call 16
      refine Calls.mono (C1.out) ?_
      rintro e w1 ⟨rfl, t1⟩
      have hT1 := Lib.hid (hT0.out.turns t1)
      clear x0 x1 x2 x3 x4 x5 x6 x7 x8 x9 x10
      have C2 := Lib.hid (CG.out _ hT1.out.t)
      have z0 : World.cell? (w1) ⟨fb, 0, none⟩ = some _ := (hT1.out.b).cell 0
      have z1 : World.cell? (w1) ⟨fb, 1, none⟩ = some _ := (hT1.out.b).cell 1
      have z2 : World.cell? (w1) ⟨fb, 2, none⟩ = some _ := (hT1.out.b).cell 2
      have z3 : World.cell? (w1) ⟨fb, 3, none⟩ = some _ := (hT1.out.b).cell 3
      have z4 : World.cell? (w1) ⟨fb, 4, none⟩ = some _ := (hT1.out.b).cell 4
      have z5 : World.cell? (w1) ⟨fb, 5, none⟩ = some _ := (hT1.out.b).cell 5
      have z6 : World.cell? (w1) ⟨fb, 6, none⟩ = some _ := (hT1.out.b).cell 6
      have z7 : World.cell? (w1) ⟨fb, 7, none⟩ = some _ := (hT1.out.b).cell 7
      have z8 : World.cell? (w1) ⟨fb, 8, none⟩ = some _ := (hT1.out.b).cell 8
      have z9 : World.cell? (w1) ⟨fb, 9, none⟩ = some _ := (hT1.out.b).cell 9
      have z10 : World.cell? (w1) ⟨fb, 10, none⟩ = some _ := (hT1.out.b).cell 10
      go_wp2_with fail
      go_at_call 16
      refine Calls.mono (C2.out) ?_
      rintro e w2 ⟨rfl, t2⟩
      have hT2 := Lib.hid (hT1.out.turns t2)
      clear z0 z1 z2 z3 z4 z5 z6 z7 z8 z9 z10
      clear C1 C2 CF CG hT0 hT1 t1 t2
      go_wp2_with fail
      go_at_call 18
      refine Calls.mono (alive_is _) ?_
      rintro e wz ⟨rfl, tz⟩
      have hX := hXh.out _ (hT2.out.t.trans tz)
      go_wp2_with fail
      exact hX
    | true =>
      have hft := Lib.hid ((fitsB_eq _).1 hq1)
      rw [hq1] at CF
      rw [hq2] at CG
      clear hq1 hq2
      go_enter Try.func6, Try.ntmps6
      go_upto_region 1 with fail
      generalize (w.alloc (.cells (frc f (.slice A1 f.tok.st.length c1) (.slice A2 f.tok.rows.length c2)) 41)).alloc (.cells (frc g (.slice A3 g.tok.st.length c3) (.slice A4 g.tok.rows.length c4)) 41) = w0 at *
      generalize w.heap.size + 1 = fb at *
      generalize w.heap.size = fa at *
      have C1 := Lib.hid (CF.out _ hT0.out.t)
      have x0 : World.cell? (w0) ⟨fa, 0, none⟩ = some _ := (hT0.out.a).cell 0
      have x1 : World.cell? (w0) ⟨fa, 1, none⟩ = some _ := (hT0.out.a).cell 1
      have x2 : World.cell? (w0) ⟨fa, 2, none⟩ = some _ := (hT0.out.a).cell 2
      have x3 : World.cell? (w0) ⟨fa, 3, none⟩ = some _ := (hT0.out.a).cell 3
      have x4 : World.cell? (w0) ⟨fa, 4, none⟩ = some _ := (hT0.out.a).cell 4
      have x5 : World.cell? (w0) ⟨fa, 5, none⟩ = some _ := (hT0.out.a).cell 5
      have x6 : World.cell? (w0) ⟨fa, 6, none⟩ = some _ := (hT0.out.a).cell 6
      have x7 : World.cell? (w0) ⟨fa, 7, none⟩ = some _ := (hT0.out.a).cell 7
      have x8 : World.cell? (w0) ⟨fa, 8, none⟩ = some _ := (hT0.out.a).cell 8
      have x9 : World.cell? (w0) ⟨fa, 9, none⟩ = some _ := (hT0.out.a).cell 9
      have x10 : World.cell? (w0) ⟨fa, 10, none⟩ = some _ := (hT0.out.a).cell 10
      go_wp2_with fail
      go_at_call 16
      refine Calls.mono (C1.out) ?_
      rintro e w1 ⟨rfl, t1⟩
      have hT1 := Lib.hid (hT0.out.turns t1)
      clear x0 x1 x2 x3 x4 x5 x6 x7 x8 x9 x10
      have C2 := Lib.hid (CG.out _ hT1.out.t)
      have z0 : World.cell? (w1) ⟨fb, 0, none⟩ = some _ := (hT1.out.b).cell 0
      have z1 : World.cell? (w1) ⟨fb, 1, none⟩ = some _ := (hT1.out.b).cell 1
      have z2 : World.cell? (w1) ⟨fb, 2, none⟩ = some _ := (hT1.out.b).cell 2
      have z3 : World.cell? (w1) ⟨fb, 3, none⟩ = some _ := (hT1.out.b).cell 3
      have z4 : World.cell? (w1) ⟨fb, 4, none⟩ = some _ := (hT1.out.b).cell 4
      have z5 : World.cell? (w1) ⟨fb, 5, none⟩ = some _ := (hT1.out.b).cell 5
      have z6 : World.cell? (w1) ⟨fb, 6, none⟩ = some _ := (hT1.out.b).cell 6
      have z7 : World.cell? (w1) ⟨fb, 7, none⟩ = some _ := (hT1.out.b).cell 7
      have z8 : World.cell? (w1) ⟨fb, 8, none⟩ = some _ := (hT1.out.b).cell 8
      have z9 : World.cell? (w1) ⟨fb, 9, none⟩ = some _ := (hT1.out.b).cell 9
      have z10 : World.cell? (w1) ⟨fb, 10, none⟩ = some _ := (hT1.out.b).cell 10
      go_wp2_with fail
      go_at_call 16
      refine Calls.mono (C2.out) ?_
      rintro e w2 ⟨rfl, t2⟩
      have hT2 := Lib.hid (hT1.out.turns t2)
      clear z0 z1 z2 z3 z4 z5 z6 z7 z8 z9 z10
      clear C1 C2 CF CG hT0 hT1 t1 t2
      obtain ⟨q, hq⟩ : ∃ q, rightB f = q := ⟨_, rfl⟩
      have CR := Lib.hid (fun W (t : Turns [] w W) => Fp.rright_is W f _ _ (hfh.out.turns t))
      have CS := Lib.hid (fun W (t : Turns [] w W) => Fo.right_is W f _ _ (hfh.out.turns t) (by have := hft.out.1; omega))
      rw [hq] at CR CS
      have hqh := Lib.hid hq
      clear hq
      have CT := Lib.hid (fun W (t : Turns [] w W) => Fi.token_is W f.tok _ _ (hfh.out.turns t) (by have := hft.out.1; omega))
      have CU := Lib.hid (fun W (t : Turns [] w W) => Fi.rtoken_is W f.tok _ _ (hfh.out.turns t))
      generalize tokenB f.tok = qt at *
      have CV := Lib.hid (fun W (t : Turns [] w W) => Fb.table_is W f.tok.start _ _ (hfh.out.turns t).rows)
      have CW := Lib.hid (fun W (t : Turns [] w W) => Fd.rtable_is W f.tok.start _ _ (hfh.out.turns t).rows)
      generalize tableB f.tok.start f.tok.rows = qv at *
      have b1 := bb q
      have b2 := bb qt
      have b3 := bb qv
      unfold frv at CR CS
      unfold tkv at CT CU
      have C3 := Lib.hid (CR.out _ hT2.out.t)
      have x0 : World.cell? (w2) ⟨fa, 0, none⟩ = some _ := (hT2.out.a).cell 0
      have x1 : World.cell? (w2) ⟨fa, 1, none⟩ = some _ := (hT2.out.a).cell 1
      have x2 : World.cell? (w2) ⟨fa, 2, none⟩ = some _ := (hT2.out.a).cell 2
      have x3 : World.cell? (w2) ⟨fa, 3, none⟩ = some _ := (hT2.out.a).cell 3
      have x4 : World.cell? (w2) ⟨fa, 4, none⟩ = some _ := (hT2.out.a).cell 4
      have x5 : World.cell? (w2) ⟨fa, 5, none⟩ = some _ := (hT2.out.a).cell 5
      have x6 : World.cell? (w2) ⟨fa, 6, none⟩ = some _ := (hT2.out.a).cell 6
      have x7 : World.cell? (w2) ⟨fa, 7, none⟩ = some _ := (hT2.out.a).cell 7
      have x8 : World.cell? (w2) ⟨fa, 8, none⟩ = some _ := (hT2.out.a).cell 8
      have x9 : World.cell? (w2) ⟨fa, 9, none⟩ = some _ := (hT2.out.a).cell 9
      have x10 : World.cell? (w2) ⟨fa, 10, none⟩ = some _ := (hT2.out.a).cell 10
      go_wp2_with fail
      go_at_call 22
      refine Calls.mono (C3.out) ?_
      rintro e w3 ⟨rfl, t3⟩
      have hT4 := Lib.hid ((hT2.out.turns t3).turns (Turns.refl [] w3).drew)
      clear x0 x1 x2 x3 x4 x5 x6 x7 x8 x9 x10
      clear C3 CR t3
      go_wp2_with fail
      go_wp2_with fail
      refine wp_region_flo [(0, true), (2, true), (1, false), (3, true), (4, true), (5, true), (6, true), (8, true), (9, true), (7, false), (10, false), (11, true), (12, true), (13, true), (14, true), (15, true), (16, true), (18, true), (19, true), (20, true), (17, false), (21, false), (22, true), (23, true)] (fun W => Turns [] w3.drew W) (by kernel_rfl) rfl (by kernel_rfl) (by intro c d v a w h; cases d <;> first | (simpa [Exit.then, Exit.inBlock, Act.put] using h) | exact h) (Turns.refl _ _) ?_
      generalize w3.drew = w4 at *
      have x0 : World.cell? (w4) ⟨fa, 0, none⟩ = some _ := (hT4.out.a).cell 0
      have x1 : World.cell? (w4) ⟨fa, 1, none⟩ = some _ := (hT4.out.a).cell 1
      have x2 : World.cell? (w4) ⟨fa, 2, none⟩ = some _ := (hT4.out.a).cell 2
      have x3 : World.cell? (w4) ⟨fa, 3, none⟩ = some _ := (hT4.out.a).cell 3
      have x4 : World.cell? (w4) ⟨fa, 4, none⟩ = some _ := (hT4.out.a).cell 4
      have x5 : World.cell? (w4) ⟨fa, 5, none⟩ = some _ := (hT4.out.a).cell 5
      have x6 : World.cell? (w4) ⟨fa, 6, none⟩ = some _ := (hT4.out.a).cell 6
      have x7 : World.cell? (w4) ⟨fa, 7, none⟩ = some _ := (hT4.out.a).cell 7
      have x8 : World.cell? (w4) ⟨fa, 8, none⟩ = some _ := (hT4.out.a).cell 8
      have x9 : World.cell? (w4) ⟨fa, 9, none⟩ = some _ := (hT4.out.a).cell 9
      have x10 : World.cell? (w4) ⟨fa, 10, none⟩ = some _ := (hT4.out.a).cell 10
      refine flo_read _ rfl (fun K hK => ?_)
      go_simp
      first | (refine hK _ ?_) | (refine ⟨fun W hS => ?_, hK _ ?_⟩; · (have y0 := hS.old x0; have y1 := hS.old x1; have y2 := hS.old x2; have y3 := hS.old x3; have y4 := hS.old x4; have y5 := hS.old x5; have y6 := hS.old x6; have y7 := hS.old x7; have y8 := hS.old x8; have y9 := hS.old x9; have y10 := hS.old x10; try go_simp))
      clear hK K
      refine flo_read _ rfl (fun K hK => ?_)
      go_simp
      first | (refine hK _ ?_) | (refine ⟨fun W hS => ?_, hK _ ?_⟩; · (have y0 := hS.old x0; have y1 := hS.old x1; have y2 := hS.old x2; have y3 := hS.old x3; have y4 := hS.old x4; have y5 := hS.old x5; have y6 := hS.old x6; have y7 := hS.old x7; have y8 := hS.old x8; have y9 := hS.old x9; have y10 := hS.old x10; try go_simp))
      clear hK K
      clear x0 x1 x2 x3 x4 x5 x6 x7 x8 x9 x10
      refine flo_alone _ rfl ?_
      go_wp2_with fail
      go_at_call 23
      refine Calls.mono (CS.out _ hT4.out.t) ?_
      rintro e w5 ⟨rfl, t5⟩
      go_wp2_with fail
      refine ⟨fun W => Turns [] w5 W, fun W h => t5.trans h, Turns.refl _ _, ?_⟩
      have hT5 := Lib.hid (hT4.out.turns t5)
      have x0 : World.cell? (w5) ⟨fa, 0, none⟩ = some _ := (hT5.out.a).cell 0
      have x1 : World.cell? (w5) ⟨fa, 1, none⟩ = some _ := (hT5.out.a).cell 1
      have x2 : World.cell? (w5) ⟨fa, 2, none⟩ = some _ := (hT5.out.a).cell 2
      have x3 : World.cell? (w5) ⟨fa, 3, none⟩ = some _ := (hT5.out.a).cell 3
      have x4 : World.cell? (w5) ⟨fa, 4, none⟩ = some _ := (hT5.out.a).cell 4
      have x5 : World.cell? (w5) ⟨fa, 5, none⟩ = some _ := (hT5.out.a).cell 5
      have x6 : World.cell? (w5) ⟨fa, 6, none⟩ = some _ := (hT5.out.a).cell 6
      have x7 : World.cell? (w5) ⟨fa, 7, none⟩ = some _ := (hT5.out.a).cell 7
      have x8 : World.cell? (w5) ⟨fa, 8, none⟩ = some _ := (hT5.out.a).cell 8
      have x9 : World.cell? (w5) ⟨fa, 9, none⟩ = some _ := (hT5.out.a).cell 9
      have x10 : World.cell? (w5) ⟨fa, 10, none⟩ = some _ := (hT5.out.a).cell 10
      refine flo_read _ rfl (fun K hK => ?_)
      go_simp
      first | (refine hK _ ?_) | (refine ⟨fun W hS => ?_, hK _ ?_⟩; · (have y6 := hS.old x6; have y7 := hS.old x7; have y8 := hS.old x8; have y9 := hS.old x9; have y10 := hS.old x10; try go_simp))
      clear hK K
      refine flo_read _ rfl (fun K hK => ?_)
      go_simp
      first | (refine hK _ ?_) | (refine ⟨fun W hS => ?_, hK _ ?_⟩; · (have y6 := hS.old x6; have y7 := hS.old x7; have y8 := hS.old x8; have y9 := hS.old x9; have y10 := hS.old x10; try go_simp))
      clear hK K
      refine flo_read _ rfl (fun K hK => ?_)
      go_simp
      first | (refine hK _ ?_) | (refine ⟨fun W hS => ?_, hK _ ?_⟩; · (have y6 := hS.old x6; have y7 := hS.old x7; have y8 := hS.old x8; have y9 := hS.old x9; have y10 := hS.old x10; try go_simp))
      clear hK K
      refine flo_read _ rfl (fun K hK => ?_)
      go_simp
      first | (refine hK _ ?_) | (refine ⟨fun W hS => ?_, hK _ ?_⟩; · (have y6 := hS.old x6; have y7 := hS.old x7; have y8 := hS.old x8; have y9 := hS.old x9; have y10 := hS.old x10; try go_simp))
      clear hK K
      refine flo_read _ rfl (fun K hK => ?_)
      go_simp
      first | (refine hK _ ?_) | (refine ⟨fun W hS => ?_, hK _ ?_⟩; · (have y6 := hS.old x6; have y7 := hS.old x7; have y8 := hS.old x8; have y9 := hS.old x9; have y10 := hS.old x10; try go_simp))
      clear hK K
      refine flo_read _ rfl (fun K hK => ?_)
      go_simp
      first | (refine hK _ ?_) | (refine ⟨fun W hS => ?_, hK _ ?_⟩; · (have y6 := hS.old x6; have y7 := hS.old x7; have y8 := hS.old x8; have y9 := hS.old x9; have y10 := hS.old x10; try go_simp))
      clear hK K
      clear x0 x1 x2 x3 x4 x5 x6 x7 x8 x9 x10
      refine flo_alone _ rfl ?_
      go_wp2_with fail
      go_at_call 24
      refine Calls.mono (CT.out _ hT5.out.t) ?_
      rintro e w6 ⟨rfl, t6⟩
      go_wp2_with fail
      refine ⟨fun W => Turns [] w6 W, fun W h => t6.trans h, Turns.refl _ _, ?_⟩
      have hT6 := Lib.hid (hT5.out.turns t6)
      refine flo_alone _ rfl ?_
      go_wp2_with fail
      go_at_call 25
      refine Calls.mono (CU.out _ hT6.out.t) ?_
      rintro e w7 ⟨rfl, t7⟩
      go_wp2_with fail
      refine ⟨fun W => Turns [] w7 W, fun W h => t7.trans h, Turns.refl _ _, ?_⟩
      have hT7 := Lib.hid (hT6.out.turns t7)
      have x0 : World.cell? (w7) ⟨fa, 0, none⟩ = some _ := (hT7.out.a).cell 0
      have x1 : World.cell? (w7) ⟨fa, 1, none⟩ = some _ := (hT7.out.a).cell 1
      have x2 : World.cell? (w7) ⟨fa, 2, none⟩ = some _ := (hT7.out.a).cell 2
      have x3 : World.cell? (w7) ⟨fa, 3, none⟩ = some _ := (hT7.out.a).cell 3
      have x4 : World.cell? (w7) ⟨fa, 4, none⟩ = some _ := (hT7.out.a).cell 4
      have x5 : World.cell? (w7) ⟨fa, 5, none⟩ = some _ := (hT7.out.a).cell 5
      have x6 : World.cell? (w7) ⟨fa, 6, none⟩ = some _ := (hT7.out.a).cell 6
      have x7 : World.cell? (w7) ⟨fa, 7, none⟩ = some _ := (hT7.out.a).cell 7
      have x8 : World.cell? (w7) ⟨fa, 8, none⟩ = some _ := (hT7.out.a).cell 8
      have x9 : World.cell? (w7) ⟨fa, 9, none⟩ = some _ := (hT7.out.a).cell 9
      have x10 : World.cell? (w7) ⟨fa, 10, none⟩ = some _ := (hT7.out.a).cell 10
      refine flo_read _ rfl (fun K hK => ?_)
      go_simp
      first | (refine hK _ ?_) | (refine ⟨fun W hS => ?_, hK _ ?_⟩; · (have y9 := hS.old x9; have y10 := hS.old x10; try go_simp))
      clear hK K
      refine flo_read _ rfl (fun K hK => ?_)
      go_simp
      first | (refine hK _ ?_) | (refine ⟨fun W hS => ?_, hK _ ?_⟩; · (have y9 := hS.old x9; have y10 := hS.old x10; try go_simp))
      clear hK K
      refine flo_read _ rfl (fun K hK => ?_)
      go_simp
      first | (refine hK _ ?_) | (refine ⟨fun W hS => ?_, hK _ ?_⟩; · (have y9 := hS.old x9; have y10 := hS.old x10; try go_simp))
      clear hK K
      refine flo_read _ rfl (fun K hK => ?_)
      go_simp
      first | (refine hK _ ?_) | (refine ⟨fun W hS => ?_, hK _ ?_⟩; · (have y9 := hS.old x9; have y10 := hS.old x10; try go_simp))
      clear hK K
      refine flo_read _ rfl (fun K hK => ?_)
      go_simp
      first | (refine hK _ ?_) | (refine ⟨fun W hS => ?_, hK _ ?_⟩; · (have y9 := hS.old x9; have y10 := hS.old x10; try go_simp))
      clear hK K
      refine flo_read _ rfl (fun K hK => ?_)
      go_simp
      first | (refine hK _ ?_) | (refine ⟨fun W hS => ?_, hK _ ?_⟩; · (have y9 := hS.old x9; have y10 := hS.old x10; try go_simp))
      clear hK K
      refine flo_read _ rfl (fun K hK => ?_)
      go_simp
      first | (refine hK _ ?_) | (refine ⟨fun W hS => ?_, hK _ ?_⟩; · (have y9 := hS.old x9; have y10 := hS.old x10; try go_simp))
      clear hK K
      refine flo_read _ rfl (fun K hK => ?_)
      go_simp
      first | (refine hK _ ?_) | (refine ⟨fun W hS => ?_, hK _ ?_⟩; · (have y9 := hS.old x9; have y10 := hS.old x10; try go_simp))
      clear hK K
      refine flo_read _ rfl (fun K hK => ?_)
      go_simp
      first | (refine hK _ ?_) | (refine ⟨fun W hS => ?_, hK _ ?_⟩; · (have y9 := hS.old x9; have y10 := hS.old x10; try go_simp))
      clear hK K
      clear x0 x1 x2 x3 x4 x5 x6 x7 x8 x9 x10
      refine flo_alone _ rfl ?_
      go_wp2_with fail
      go_at_call 26
      refine Calls.mono (CV.out _ hT7.out.t) ?_
      rintro e w8 ⟨rfl, t8⟩
      go_wp2_with fail
      refine ⟨fun W => Turns [] w8 W, fun W h => t8.trans h, Turns.refl _ _, ?_⟩
      have hT8 := Lib.hid (hT7.out.turns t8)
      refine flo_alone _ rfl ?_
      go_wp2_with fail
      go_at_call 27
      refine Calls.mono (CW.out _ hT8.out.t) ?_
      rintro e w9 ⟨rfl, t9⟩
      go_wp2_with fail
      refine ⟨fun W => Turns [] w9 W, fun W h => t9.trans h, Turns.refl _ _, ?_⟩
      have hT9 := Lib.hid (hT8.out.turns t9)
      refine flo_read _ rfl (fun K hK => ?_)
      go_simp
      first | (refine hK _ ?_) | (refine ⟨fun W hS => ?_, hK _ ?_⟩; · (skip; try go_simp))
      clear hK K
      refine flo_read _ rfl (fun K hK => ?_)
      go_simp
      first | (refine hK _ ?_) | (refine ⟨fun W hS => ?_, hK _ ?_⟩; · (skip; try go_simp))
      clear hK K
      refine flo_end ?_
      clear CS CT CU CV CW b2 b3 hT4 hT5 hT6 hT7 hT8 t5 t6 t7 t8 t9
      go_wp2_with fail
      have CA := Lib.hid (fun W (t : Turns [] w W) => Nl.same_is W f g _ _ _ _ (hfh.out.turns t) (hgh.out.turns t))
      have CB := Lib.hid (fun W (t : Turns [] w W) => rsame_is W f g _ _ _ _ (hfh.out.turns t) (hgh.out.turns t))
      generalize decide (f = g) = qs at *
      have CC := Lib.hid (fun W (t : Turns [] w W) => sameToken_is W f.tok g.tok _ _ _ _ (hfh.out.turns t) (hgh.out.turns t))
      have CD := Lib.hid (fun W (t : Turns [] w W) => Fh.rsameToken_is W f.tok g.tok _ _ _ _ (hfh.out.turns t) (hgh.out.turns t))
      generalize decide (f.tok = g.tok) = qk at *
      have CE := Lib.hid (fun W (t : Turns [] w W) => sameTable_is W f.tok.start g.tok.start _ _ _ _ (hfh.out.turns t).rows (hgh.out.turns t).rows)
      have CH := Lib.hid (fun W (t : Turns [] w W) => Fh.rsameTable_is W f.tok.start g.tok.start _ _ _ _ (hfh.out.turns t).rows (hgh.out.turns t).rows)
      generalize sameTB f.tok.start g.tok.start f.tok.rows g.tok.rows = qb at *
      have b2 := bb qs
      have b3 := bb qk
      have b4 := bb qb
      unfold frv at CA CB
      unfold tkv at CC CD
      have hTa := Lib.hid (hT9.out.turns (Turns.refl [] w9).drew)
      go_wp2_with fail
      refine wp_region_flo [(0, true), (1, true), (3, true), (4, true), (2, false), (5, false), (6, true), (7, true), (8, true), (9, true), (10, true), (11, true), (13, true), (14, true), (15, true), (16, true), (12, false), (17, false), (18, true), (19, true), (20, true), (21, true), (22, true), (23, true), (24, true), (25, true), (26, true), (28, true), (29, true), (30, true), (31, true), (32, true), (33, true), (27, false), (34, false), (35, true), (36, true)] (fun W => Turns [] w9.drew W) (by kernel_rfl) rfl (by kernel_rfl) (by intro c d v a w h; cases d <;> first | (simpa [Exit.then, Exit.inBlock, Act.put] using h) | exact h) (Turns.refl _ _) ?_
      generalize w9.drew = wa at *
      have x0 : World.cell? (wa) ⟨fa, 0, none⟩ = some _ := (hTa.out.a).cell 0
      have x1 : World.cell? (wa) ⟨fa, 1, none⟩ = some _ := (hTa.out.a).cell 1
      have x2 : World.cell? (wa) ⟨fa, 2, none⟩ = some _ := (hTa.out.a).cell 2
      have x3 : World.cell? (wa) ⟨fa, 3, none⟩ = some _ := (hTa.out.a).cell 3
      have x4 : World.cell? (wa) ⟨fa, 4, none⟩ = some _ := (hTa.out.a).cell 4
      have x5 : World.cell? (wa) ⟨fa, 5, none⟩ = some _ := (hTa.out.a).cell 5
      have x6 : World.cell? (wa) ⟨fa, 6, none⟩ = some _ := (hTa.out.a).cell 6
      have x7 : World.cell? (wa) ⟨fa, 7, none⟩ = some _ := (hTa.out.a).cell 7
      have x8 : World.cell? (wa) ⟨fa, 8, none⟩ = some _ := (hTa.out.a).cell 8
      have x9 : World.cell? (wa) ⟨fa, 9, none⟩ = some _ := (hTa.out.a).cell 9
      have x10 : World.cell? (wa) ⟨fa, 10, none⟩ = some _ := (hTa.out.a).cell 10
      have z0 : World.cell? (wa) ⟨fb, 0, none⟩ = some _ := (hTa.out.b).cell 0
      have z1 : World.cell? (wa) ⟨fb, 1, none⟩ = some _ := (hTa.out.b).cell 1
      have z2 : World.cell? (wa) ⟨fb, 2, none⟩ = some _ := (hTa.out.b).cell 2
      have z3 : World.cell? (wa) ⟨fb, 3, none⟩ = some _ := (hTa.out.b).cell 3
      have z4 : World.cell? (wa) ⟨fb, 4, none⟩ = some _ := (hTa.out.b).cell 4
      have z5 : World.cell? (wa) ⟨fb, 5, none⟩ = some _ := (hTa.out.b).cell 5
      have z6 : World.cell? (wa) ⟨fb, 6, none⟩ = some _ := (hTa.out.b).cell 6
      have z7 : World.cell? (wa) ⟨fb, 7, none⟩ = some _ := (hTa.out.b).cell 7
      have z8 : World.cell? (wa) ⟨fb, 8, none⟩ = some _ := (hTa.out.b).cell 8
      have z9 : World.cell? (wa) ⟨fb, 9, none⟩ = some _ := (hTa.out.b).cell 9
      have z10 : World.cell? (wa) ⟨fb, 10, none⟩ = some _ := (hTa.out.b).cell 10
      refine flo_read _ rfl (fun K hK => ?_)
      go_simp
      first | (refine hK _ ?_) | (refine ⟨fun W hS => ?_, hK _ ?_⟩; · (have yx0 := hS.old x0; have yx1 := hS.old x1; have yx2 := hS.old x2; have yx3 := hS.old x3; have yx4 := hS.old x4; have yx5 := hS.old x5; have yx6 := hS.old x6; have yx7 := hS.old x7; have yx8 := hS.old x8; have yx9 := hS.old x9; have yx10 := hS.old x10; have yz0 := hS.old z0; have yz1 := hS.old z1; have yz2 := hS.old z2; have yz3 := hS.old z3; have yz4 := hS.old z4; have yz5 := hS.old z5; have yz6 := hS.old z6; have yz7 := hS.old z7; have yz8 := hS.old z8; have yz9 := hS.old z9; have yz10 := hS.old z10; try go_simp))
      clear hK K
      refine flo_read _ rfl (fun K hK => ?_)
      go_simp
      first | (refine hK _ ?_) | (refine ⟨fun W hS => ?_, hK _ ?_⟩; · (have yx0 := hS.old x0; have yx1 := hS.old x1; have yx2 := hS.old x2; have yx3 := hS.old x3; have yx4 := hS.old x4; have yx5 := hS.old x5; have yx6 := hS.old x6; have yx7 := hS.old x7; have yx8 := hS.old x8; have yx9 := hS.old x9; have yx10 := hS.old x10; have yz0 := hS.old z0; have yz1 := hS.old z1; have yz2 := hS.old z2; have yz3 := hS.old z3; have yz4 := hS.old z4; have yz5 := hS.old z5; have yz6 := hS.old z6; have yz7 := hS.old z7; have yz8 := hS.old z8; have yz9 := hS.old z9; have yz10 := hS.old z10; try go_simp))
      clear hK K
      refine flo_read _ rfl (fun K hK => ?_)
      go_simp
      first | (refine hK _ ?_) | (refine ⟨fun W hS => ?_, hK _ ?_⟩; · (have yx0 := hS.old x0; have yx1 := hS.old x1; have yx2 := hS.old x2; have yx3 := hS.old x3; have yx4 := hS.old x4; have yx5 := hS.old x5; have yx6 := hS.old x6; have yx7 := hS.old x7; have yx8 := hS.old x8; have yx9 := hS.old x9; have yx10 := hS.old x10; have yz0 := hS.old z0; have yz1 := hS.old z1; have yz2 := hS.old z2; have yz3 := hS.old z3; have yz4 := hS.old z4; have yz5 := hS.old z5; have yz6 := hS.old z6; have yz7 := hS.old z7; have yz8 := hS.old z8; have yz9 := hS.old z9; have yz10 := hS.old z10; try go_simp))
      clear hK K
      refine flo_read _ rfl (fun K hK => ?_)
      go_simp
      first | (refine hK _ ?_) | (refine ⟨fun W hS => ?_, hK _ ?_⟩; · (have yx0 := hS.old x0; have yx1 := hS.old x1; have yx2 := hS.old x2; have yx3 := hS.old x3; have yx4 := hS.old x4; have yx5 := hS.old x5; have yx6 := hS.old x6; have yx7 := hS.old x7; have yx8 := hS.old x8; have yx9 := hS.old x9; have yx10 := hS.old x10; have yz0 := hS.old z0; have yz1 := hS.old z1; have yz2 := hS.old z2; have yz3 := hS.old z3; have yz4 := hS.old z4; have yz5 := hS.old z5; have yz6 := hS.old z6; have yz7 := hS.old z7; have yz8 := hS.old z8; have yz9 := hS.old z9; have yz10 := hS.old z10; try go_simp))
      clear hK K
      clear x0 x1 x2 x3 x4 x5 x6 x7 x8 x9 x10
      clear z0 z1 z2 z3 z4 z5 z6 z7 z8 z9 z10
      refine flo_alone _ rfl ?_
      go_wp2_with fail
      go_at_call 28
      refine Calls.mono (CA.out _ hTa.out.t) ?_
      rintro e wb ⟨rfl, tb⟩
      go_wp2_with fail
      refine ⟨fun W => Turns [] wb W, fun W h => tb.trans h, Turns.refl _ _, ?_⟩
      have hTb := Lib.hid (hTa.out.turns tb)
      refine flo_alone _ rfl ?_
      go_wp2_with fail
      go_at_call 17
      refine Calls.mono (CB.out _ hTb.out.t) ?_
      rintro e wc ⟨rfl, tc⟩
      go_wp2_with fail
      refine ⟨fun W => Turns [] wc W, fun W h => tc.trans h, Turns.refl _ _, ?_⟩
      have hTc := Lib.hid (hTb.out.turns tc)
      have x0 : World.cell? (wc) ⟨fa, 0, none⟩ = some _ := (hTc.out.a).cell 0
      have x1 : World.cell? (wc) ⟨fa, 1, none⟩ = some _ := (hTc.out.a).cell 1
      have x2 : World.cell? (wc) ⟨fa, 2, none⟩ = some _ := (hTc.out.a).cell 2
      have x3 : World.cell? (wc) ⟨fa, 3, none⟩ = some _ := (hTc.out.a).cell 3
      have x4 : World.cell? (wc) ⟨fa, 4, none⟩ = some _ := (hTc.out.a).cell 4
      have x5 : World.cell? (wc) ⟨fa, 5, none⟩ = some _ := (hTc.out.a).cell 5
      have x6 : World.cell? (wc) ⟨fa, 6, none⟩ = some _ := (hTc.out.a).cell 6
      have x7 : World.cell? (wc) ⟨fa, 7, none⟩ = some _ := (hTc.out.a).cell 7
      have x8 : World.cell? (wc) ⟨fa, 8, none⟩ = some _ := (hTc.out.a).cell 8
      have x9 : World.cell? (wc) ⟨fa, 9, none⟩ = some _ := (hTc.out.a).cell 9
      have x10 : World.cell? (wc) ⟨fa, 10, none⟩ = some _ := (hTc.out.a).cell 10
      have z0 : World.cell? (wc) ⟨fb, 0, none⟩ = some _ := (hTc.out.b).cell 0
      have z1 : World.cell? (wc) ⟨fb, 1, none⟩ = some _ := (hTc.out.b).cell 1
      have z2 : World.cell? (wc) ⟨fb, 2, none⟩ = some _ := (hTc.out.b).cell 2
      have z3 : World.cell? (wc) ⟨fb, 3, none⟩ = some _ := (hTc.out.b).cell 3
      have z4 : World.cell? (wc) ⟨fb, 4, none⟩ = some _ := (hTc.out.b).cell 4
      have z5 : World.cell? (wc) ⟨fb, 5, none⟩ = some _ := (hTc.out.b).cell 5
      have z6 : World.cell? (wc) ⟨fb, 6, none⟩ = some _ := (hTc.out.b).cell 6
      have z7 : World.cell? (wc) ⟨fb, 7, none⟩ = some _ := (hTc.out.b).cell 7
      have z8 : World.cell? (wc) ⟨fb, 8, none⟩ = some _ := (hTc.out.b).cell 8
      have z9 : World.cell? (wc) ⟨fb, 9, none⟩ = some _ := (hTc.out.b).cell 9
      have z10 : World.cell? (wc) ⟨fb, 10, none⟩ = some _ := (hTc.out.b).cell 10
      refine flo_read _ rfl (fun K hK => ?_)
      go_simp
      first | (refine hK _ ?_) | (refine ⟨fun W hS => ?_, hK _ ?_⟩; · (have yx6 := hS.old x6; have yx7 := hS.old x7; have yx8 := hS.old x8; have yx9 := hS.old x9; have yx10 := hS.old x10; have yz6 := hS.old z6; have yz7 := hS.old z7; have yz8 := hS.old z8; have yz9 := hS.old z9; have yz10 := hS.old z10; try go_simp))
      clear hK K
      refine flo_read _ rfl (fun K hK => ?_)
      go_simp
      first | (refine hK _ ?_) | (refine ⟨fun W hS => ?_, hK _ ?_⟩; · (have yx6 := hS.old x6; have yx7 := hS.old x7; have yx8 := hS.old x8; have yx9 := hS.old x9; have yx10 := hS.old x10; have yz6 := hS.old z6; have yz7 := hS.old z7; have yz8 := hS.old z8; have yz9 := hS.old z9; have yz10 := hS.old z10; try go_simp))
      clear hK K
      refine flo_read _ rfl (fun K hK => ?_)
      go_simp
      first | (refine hK _ ?_) | (refine ⟨fun W hS => ?_, hK _ ?_⟩; · (have yx6 := hS.old x6; have yx7 := hS.old x7; have yx8 := hS.old x8; have yx9 := hS.old x9; have yx10 := hS.old x10; have yz6 := hS.old z6; have yz7 := hS.old z7; have yz8 := hS.old z8; have yz9 := hS.old z9; have yz10 := hS.old z10; try go_simp))
      clear hK K
      refine flo_read _ rfl (fun K hK => ?_)
      go_simp
      first | (refine hK _ ?_) | (refine ⟨fun W hS => ?_, hK _ ?_⟩; · (have yx6 := hS.old x6; have yx7 := hS.old x7; have yx8 := hS.old x8; have yx9 := hS.old x9; have yx10 := hS.old x10; have yz6 := hS.old z6; have yz7 := hS.old z7; have yz8 := hS.old z8; have yz9 := hS.old z9; have yz10 := hS.old z10; try go_simp))
      clear hK K
      refine flo_read _ rfl (fun K hK => ?_)
      go_simp
      first | (refine hK _ ?_) | (refine ⟨fun W hS => ?_, hK _ ?_⟩; · (have yx6 := hS.old x6; have yx7 := hS.old x7; have yx8 := hS.old x8; have yx9 := hS.old x9; have yx10 := hS.old x10; have yz6 := hS.old z6; have yz7 := hS.old z7; have yz8 := hS.old z8; have yz9 := hS.old z9; have yz10 := hS.old z10; try go_simp))
      clear hK K
      refine flo_read _ rfl (fun K hK => ?_)
      go_simp
      first | (refine hK _ ?_) | (refine ⟨fun W hS => ?_, hK _ ?_⟩; · (have yx6 := hS.old x6; have yx7 := hS.old x7; have yx8 := hS.old x8; have yx9 := hS.old x9; have yx10 := hS.old x10; have yz6 := hS.old z6; have yz7 := hS.old z7; have yz8 := hS.old z8; have yz9 := hS.old z9; have yz10 := hS.old z10; try go_simp))
      clear hK K
      refine flo_read _ rfl (fun K hK => ?_)
      go_simp
      first | (refine hK _ ?_) | (refine ⟨fun W hS => ?_, hK _ ?_⟩; · (have yx6 := hS.old x6; have yx7 := hS.old x7; have yx8 := hS.old x8; have yx9 := hS.old x9; have yx10 := hS.old x10; have yz6 := hS.old z6; have yz7 := hS.old z7; have yz8 := hS.old z8; have yz9 := hS.old z9; have yz10 := hS.old z10; try go_simp))
      clear hK K
      refine flo_read _ rfl (fun K hK => ?_)
      go_simp
      first | (refine hK _ ?_) | (refine ⟨fun W hS => ?_, hK _ ?_⟩; · (have yx6 := hS.old x6; have yx7 := hS.old x7; have yx8 := hS.old x8; have yx9 := hS.old x9; have yx10 := hS.old x10; have yz6 := hS.old z6; have yz7 := hS.old z7; have yz8 := hS.old z8; have yz9 := hS.old z9; have yz10 := hS.old z10; try go_simp))
      clear hK K
      refine flo_read _ rfl (fun K hK => ?_)
      go_simp
      first | (refine hK _ ?_) | (refine ⟨fun W hS => ?_, hK _ ?_⟩; · (have yx6 := hS.old x6; have yx7 := hS.old x7; have yx8 := hS.old x8; have yx9 := hS.old x9; have yx10 := hS.old x10; have yz6 := hS.old z6; have yz7 := hS.old z7; have yz8 := hS.old z8; have yz9 := hS.old z9; have yz10 := hS.old z10; try go_simp))
      clear hK K
      refine flo_read _ rfl (fun K hK => ?_)
      go_simp
      first | (refine hK _ ?_) | (refine ⟨fun W hS => ?_, hK _ ?_⟩; · (have yx6 := hS.old x6; have yx7 := hS.old x7; have yx8 := hS.old x8; have yx9 := hS.old x9; have yx10 := hS.old x10; have yz6 := hS.old z6; have yz7 := hS.old z7; have yz8 := hS.old z8; have yz9 := hS.old z9; have yz10 := hS.old z10; try go_simp))
      clear hK K
      clear x0 x1 x2 x3 x4 x5 x6 x7 x8 x9 x10
      clear z0 z1 z2 z3 z4 z5 z6 z7 z8 z9 z10
      refine flo_alone _ rfl ?_
      go_wp2_with fail
      go_at_call 29
      refine Calls.mono (CC.out _ hTc.out.t) ?_
      rintro e wd ⟨rfl, td⟩
      go_wp2_with fail
      refine ⟨fun W => Turns [] wd W, fun W h => td.trans h, Turns.refl _ _, ?_⟩
      have hTd := Lib.hid (hTc.out.turns td)
      refine flo_alone _ rfl ?_
      go_wp2_with fail
      go_at_call 30
      refine Calls.mono (CD.out _ hTd.out.t) ?_
      rintro e we ⟨rfl, te⟩
      go_wp2_with fail
      refine ⟨fun W => Turns [] we W, fun W h => te.trans h, Turns.refl _ _, ?_⟩
      have hTe := Lib.hid (hTd.out.turns te)
      have x0 : World.cell? (we) ⟨fa, 0, none⟩ = some _ := (hTe.out.a).cell 0
      have x1 : World.cell? (we) ⟨fa, 1, none⟩ = some _ := (hTe.out.a).cell 1
      have x2 : World.cell? (we) ⟨fa, 2, none⟩ = some _ := (hTe.out.a).cell 2
      have x3 : World.cell? (we) ⟨fa, 3, none⟩ = some _ := (hTe.out.a).cell 3
      have x4 : World.cell? (we) ⟨fa, 4, none⟩ = some _ := (hTe.out.a).cell 4
      have x5 : World.cell? (we) ⟨fa, 5, none⟩ = some _ := (hTe.out.a).cell 5
      have x6 : World.cell? (we) ⟨fa, 6, none⟩ = some _ := (hTe.out.a).cell 6
      have x7 : World.cell? (we) ⟨fa, 7, none⟩ = some _ := (hTe.out.a).cell 7
      have x8 : World.cell? (we) ⟨fa, 8, none⟩ = some _ := (hTe.out.a).cell 8
      have x9 : World.cell? (we) ⟨fa, 9, none⟩ = some _ := (hTe.out.a).cell 9
      have x10 : World.cell? (we) ⟨fa, 10, none⟩ = some _ := (hTe.out.a).cell 10
      have z0 : World.cell? (we) ⟨fb, 0, none⟩ = some _ := (hTe.out.b).cell 0
      have z1 : World.cell? (we) ⟨fb, 1, none⟩ = some _ := (hTe.out.b).cell 1
      have z2 : World.cell? (we) ⟨fb, 2, none⟩ = some _ := (hTe.out.b).cell 2
      have z3 : World.cell? (we) ⟨fb, 3, none⟩ = some _ := (hTe.out.b).cell 3
      have z4 : World.cell? (we) ⟨fb, 4, none⟩ = some _ := (hTe.out.b).cell 4
      have z5 : World.cell? (we) ⟨fb, 5, none⟩ = some _ := (hTe.out.b).cell 5
      have z6 : World.cell? (we) ⟨fb, 6, none⟩ = some _ := (hTe.out.b).cell 6
      have z7 : World.cell? (we) ⟨fb, 7, none⟩ = some _ := (hTe.out.b).cell 7
      have z8 : World.cell? (we) ⟨fb, 8, none⟩ = some _ := (hTe.out.b).cell 8
      have z9 : World.cell? (we) ⟨fb, 9, none⟩ = some _ := (hTe.out.b).cell 9
      have z10 : World.cell? (we) ⟨fb, 10, none⟩ = some _ := (hTe.out.b).cell 10
      refine flo_read _ rfl (fun K hK => ?_)
      go_simp
      first | (refine hK _ ?_) | (refine ⟨fun W hS => ?_, hK _ ?_⟩; · (have yx9 := hS.old x9; have yx10 := hS.old x10; have yz9 := hS.old z9; have yz10 := hS.old z10; try go_simp))
      clear hK K
      refine flo_read _ rfl (fun K hK => ?_)
      go_simp
      first | (refine hK _ ?_) | (refine ⟨fun W hS => ?_, hK _ ?_⟩; · (have yx9 := hS.old x9; have yx10 := hS.old x10; have yz9 := hS.old z9; have yz10 := hS.old z10; try go_simp))
      clear hK K
      refine flo_read _ rfl (fun K hK => ?_)
      go_simp
      first | (refine hK _ ?_) | (refine ⟨fun W hS => ?_, hK _ ?_⟩; · (have yx9 := hS.old x9; have yx10 := hS.old x10; have yz9 := hS.old z9; have yz10 := hS.old z10; try go_simp))
      clear hK K
      refine flo_read _ rfl (fun K hK => ?_)
      go_simp
      first | (refine hK _ ?_) | (refine ⟨fun W hS => ?_, hK _ ?_⟩; · (have yx9 := hS.old x9; have yx10 := hS.old x10; have yz9 := hS.old z9; have yz10 := hS.old z10; try go_simp))
      clear hK K
      refine flo_read _ rfl (fun K hK => ?_)
      go_simp
      first | (refine hK _ ?_) | (refine ⟨fun W hS => ?_, hK _ ?_⟩; · (have yx9 := hS.old x9; have yx10 := hS.old x10; have yz9 := hS.old z9; have yz10 := hS.old z10; try go_simp))
      clear hK K
      refine flo_read _ rfl (fun K hK => ?_)
      go_simp
      first | (refine hK _ ?_) | (refine ⟨fun W hS => ?_, hK _ ?_⟩; · (have yx9 := hS.old x9; have yx10 := hS.old x10; have yz9 := hS.old z9; have yz10 := hS.old z10; try go_simp))
      clear hK K
      refine flo_read _ rfl (fun K hK => ?_)
      go_simp
      first | (refine hK _ ?_) | (refine ⟨fun W hS => ?_, hK _ ?_⟩; · (have yx9 := hS.old x9; have yx10 := hS.old x10; have yz9 := hS.old z9; have yz10 := hS.old z10; try go_simp))
      clear hK K
      refine flo_read _ rfl (fun K hK => ?_)
      go_simp
      first | (refine hK _ ?_) | (refine ⟨fun W hS => ?_, hK _ ?_⟩; · (have yx9 := hS.old x9; have yx10 := hS.old x10; have yz9 := hS.old z9; have yz10 := hS.old z10; try go_simp))
      clear hK K
      refine flo_read _ rfl (fun K hK => ?_)
      go_simp
      first | (refine hK _ ?_) | (refine ⟨fun W hS => ?_, hK _ ?_⟩; · (have yx9 := hS.old x9; have yx10 := hS.old x10; have yz9 := hS.old z9; have yz10 := hS.old z10; try go_simp))
      clear hK K
      refine flo_read _ rfl (fun K hK => ?_)
      go_simp
      first | (refine hK _ ?_) | (refine ⟨fun W hS => ?_, hK _ ?_⟩; · (have yx9 := hS.old x9; have yx10 := hS.old x10; have yz9 := hS.old z9; have yz10 := hS.old z10; try go_simp))
      clear hK K
      refine flo_read _ rfl (fun K hK => ?_)
      go_simp
      first | (refine hK _ ?_) | (refine ⟨fun W hS => ?_, hK _ ?_⟩; · (have yx9 := hS.old x9; have yx10 := hS.old x10; have yz9 := hS.old z9; have yz10 := hS.old z10; try go_simp))
      clear hK K
      refine flo_read _ rfl (fun K hK => ?_)
      go_simp
      first | (refine hK _ ?_) | (refine ⟨fun W hS => ?_, hK _ ?_⟩; · (have yx9 := hS.old x9; have yx10 := hS.old x10; have yz9 := hS.old z9; have yz10 := hS.old z10; try go_simp))
      clear hK K
      refine flo_read _ rfl (fun K hK => ?_)
      go_simp
      first | (refine hK _ ?_) | (refine ⟨fun W hS => ?_, hK _ ?_⟩; · (have yx9 := hS.old x9; have yx10 := hS.old x10; have yz9 := hS.old z9; have yz10 := hS.old z10; try go_simp))
      clear hK K
      refine flo_read _ rfl (fun K hK => ?_)
      go_simp
      first | (refine hK _ ?_) | (refine ⟨fun W hS => ?_, hK _ ?_⟩; · (have yx9 := hS.old x9; have yx10 := hS.old x10; have yz9 := hS.old z9; have yz10 := hS.old z10; try go_simp))
      clear hK K
      refine flo_read _ rfl (fun K hK => ?_)
      go_simp
      first | (refine hK _ ?_) | (refine ⟨fun W hS => ?_, hK _ ?_⟩; · (have yx9 := hS.old x9; have yx10 := hS.old x10; have yz9 := hS.old z9; have yz10 := hS.old z10; try go_simp))
      clear hK K
      clear x0 x1 x2 x3 x4 x5 x6 x7 x8 x9 x10
      clear z0 z1 z2 z3 z4 z5 z6 z7 z8 z9 z10
      refine flo_alone _ rfl ?_
      go_wp2_with fail
      go_at_call 31
      refine Calls.mono (CE.out _ hTe.out.t) ?_
      rintro e wf ⟨rfl, tf⟩
      go_wp2_with fail
      refine ⟨fun W => Turns [] wf W, fun W h => tf.trans h, Turns.refl _ _, ?_⟩
      have hTf := Lib.hid (hTe.out.turns tf)
      refine flo_alone _ rfl ?_
      go_wp2_with fail
      go_at_call 32
      refine Calls.mono (CH.out _ hTf.out.t) ?_
      rintro e wg ⟨rfl, tg⟩
      go_wp2_with fail
      refine ⟨fun W => Turns [] wg W, fun W h => tg.trans h, Turns.refl _ _, ?_⟩
      have hTg := Lib.hid (hTf.out.turns tg)
      refine flo_read _ rfl (fun K hK => ?_)
      go_simp
      first | (refine hK _ ?_) | (refine ⟨fun W hS => ?_, hK _ ?_⟩; · (skip; try go_simp))
      clear hK K
      refine flo_read _ rfl (fun K hK => ?_)
      go_simp
      first | (refine hK _ ?_) | (refine ⟨fun W hS => ?_, hK _ ?_⟩; · (skip; try go_simp))
      clear hK K
      refine flo_end ?_
      clear CA CB CC CD CE CH b2 b3 b4 hTa hTb hTc hTd hTe hTf tb tc td te tf tg hT9
      go_wp2_with fail
      have hTh := Lib.hid (hTg.out.turns (Turns.refl [] wg).drew)
      go_wp2_with fail
      refine wp_region_flo [(0, true), (1, true), (3, true), (4, true), (2, false), (5, false), (6, true)] (fun W => Turns [] wg.drew W) (by kernel_rfl) rfl (by kernel_rfl) (by intro c d v a w h; cases d <;> first | (simpa [Exit.then, Exit.inBlock, Act.put] using h) | exact h) (Turns.refl _ _) ?_
      generalize wg.drew = wh at *
      have CI := Lib.hid (Fr_.clone_is wh f.tok _ _ (hfh.out.turns hTh.out.t) hft.out)
      unfold tkv at CI
      have x0 : World.cell? (wh) ⟨fa, 0, none⟩ = some _ := (hTh.out.a).cell 0
      have x1 : World.cell? (wh) ⟨fa, 1, none⟩ = some _ := (hTh.out.a).cell 1
      have x2 : World.cell? (wh) ⟨fa, 2, none⟩ = some _ := (hTh.out.a).cell 2
      have x3 : World.cell? (wh) ⟨fa, 3, none⟩ = some _ := (hTh.out.a).cell 3
      have x4 : World.cell? (wh) ⟨fa, 4, none⟩ = some _ := (hTh.out.a).cell 4
      have x5 : World.cell? (wh) ⟨fa, 5, none⟩ = some _ := (hTh.out.a).cell 5
      have x6 : World.cell? (wh) ⟨fa, 6, none⟩ = some _ := (hTh.out.a).cell 6
      have x7 : World.cell? (wh) ⟨fa, 7, none⟩ = some _ := (hTh.out.a).cell 7
      have x8 : World.cell? (wh) ⟨fa, 8, none⟩ = some _ := (hTh.out.a).cell 8
      have x9 : World.cell? (wh) ⟨fa, 9, none⟩ = some _ := (hTh.out.a).cell 9
      have x10 : World.cell? (wh) ⟨fa, 10, none⟩ = some _ := (hTh.out.a).cell 10
      refine flo_read _ rfl (fun K hK => ?_)
      go_simp
      first | (refine hK _ ?_) | (refine ⟨fun W hS => ?_, hK _ ?_⟩; · (have yx6 := hS.old x6; have yx7 := hS.old x7; have yx8 := hS.old x8; have yx9 := hS.old x9; have yx10 := hS.old x10; try go_simp))
      clear hK K
      refine flo_read _ rfl (fun K hK => ?_)
      go_simp
      first | (refine hK _ ?_) | (refine ⟨fun W hS => ?_, hK _ ?_⟩; · (have yx6 := hS.old x6; have yx7 := hS.old x7; have yx8 := hS.old x8; have yx9 := hS.old x9; have yx10 := hS.old x10; try go_simp))
      clear hK K
      refine flo_read _ rfl (fun K hK => ?_)
      go_simp
      first | (refine hK _ ?_) | (refine ⟨fun W hS => ?_, hK _ ?_⟩; · (have yx6 := hS.old x6; have yx7 := hS.old x7; have yx8 := hS.old x8; have yx9 := hS.old x9; have yx10 := hS.old x10; try go_simp))
      clear hK K
      refine flo_read _ rfl (fun K hK => ?_)
      go_simp
      first | (refine hK _ ?_) | (refine ⟨fun W hS => ?_, hK _ ?_⟩; · (have yx6 := hS.old x6; have yx7 := hS.old x7; have yx8 := hS.old x8; have yx9 := hS.old x9; have yx10 := hS.old x10; try go_simp))
      clear hK K
      clear x0 x1 x2 x3 x4 x5 x6 x7 x8 x9 x10
      refine flo_alone _ rfl ?_
      go_wp2_with fail
      go_at_call 33
      refine Calls.mono (CI.out) ?_
      rintro e wi ⟨s5, r5, rfl, k5, ti⟩
      go_wp2_with fail
      refine ⟨fun W => Turns [] wi W, fun W h => ti.trans h, Turns.refl _ _, ?_⟩
      have hTi := Lib.hid (hTh.out.turns ti)
      have CJ := Fh.rsameToken_is wi f.tok f.tok _ _ _ _ k5.tok (hfh.out.turns hTi.out.t)
      rw [decide_eq_true rfl] at CJ
      unfold tkv at CJ
      have CJh := Lib.hid CJ
      clear CJ k5
      refine flo_alone _ rfl ?_
      go_wp2_with fail
      go_at_call 30
      refine Calls.mono (CJh.out) ?_
      rintro e wj ⟨rfl, tj⟩
      go_wp2_with fail
      refine ⟨fun W => Turns [] wj W, fun W h => tj.trans h, Turns.refl _ _, ?_⟩
      have hTj := Lib.hid (hTi.out.turns tj)
      refine flo_read _ rfl (fun K hK => ?_)
      go_simp
      first | (refine hK _ ?_) | (refine ⟨fun W hS => ?_, hK _ ?_⟩; · (skip; try go_simp))
      clear hK K
      refine flo_end ?_
      clear CI CJh hTg hTh hTi ti tj
      have x0 : World.cell? (wj) ⟨fa, 0, none⟩ = some _ := (hTj.out.a).cell 0
      have x1 : World.cell? (wj) ⟨fa, 1, none⟩ = some _ := (hTj.out.a).cell 1
      have x2 : World.cell? (wj) ⟨fa, 2, none⟩ = some _ := (hTj.out.a).cell 2
      have x3 : World.cell? (wj) ⟨fa, 3, none⟩ = some _ := (hTj.out.a).cell 3
      have x4 : World.cell? (wj) ⟨fa, 4, none⟩ = some _ := (hTj.out.a).cell 4
      have x5 : World.cell? (wj) ⟨fa, 5, none⟩ = some _ := (hTj.out.a).cell 5
      have x6 : World.cell? (wj) ⟨fa, 6, none⟩ = some _ := (hTj.out.a).cell 6
      have x7 : World.cell? (wj) ⟨fa, 7, none⟩ = some _ := (hTj.out.a).cell 7
      have x8 : World.cell? (wj) ⟨fa, 8, none⟩ = some _ := (hTj.out.a).cell 8
      have x9 : World.cell? (wj) ⟨fa, 9, none⟩ = some _ := (hTj.out.a).cell 9
      have x10 : World.cell? (wj) ⟨fa, 10, none⟩ = some _ := (hTj.out.a).cell 10
      cases q with
      | false =>
        have CE := Lib.hid (encode_bad wj f _ _ (hfh.out.turns hTj.out.t) (by have := hft.out.1; omega) hqh.out)
        unfold frv at CE
        go_wp2_with fail
        go_at_call 21
        refine Calls.mono (CE.out) ?_
        rintro e wk ⟨rfl, tk⟩
        go_wp2_with fail
        go_at_call 18
        refine Calls.mono (alive_is _) ?_
        rintro e wl ⟨rfl, tl⟩
        have hX := hXh.out _ ((hTj.out.t.trans tk).trans tl)
        clear x0 x1 x2 x3 x4 x5 x6 x7 x8 x9 x10
        go_wp2_with fail
        exact hX
      | true =>
        have CE := Lib.hid (encode_ok wj f _ _ (hfh.out.turns hTj.out.t) hqh.out hbh.out)
        unfold frv at CE
        go_wp2_with fail
        go_at_call 21
        refine Calls.mono (CE.out) ?_
        rintro e wk ⟨vk, rfl, ok, tk, hnk⟩
        have hTk := Lib.hid (hTj.out.turns tk)
        obtain ⟨nk, Ak, ck, hvk⟩ : ∃ n A c, vk = Value.slice A n c := by obtain ⟨A, c, h, _⟩ := ok.form; exact ⟨_, A, c, h⟩
        subst hvk
        clear x0 x1 x2 x3 x4 x5 x6 x7 x8 x9 x10
        have okh := Lib.hid ok.reads
        have CL := Nf.decode_is wk _ (encB f) ok.reads (by have := enc_len hqh.out; omega) (enc_byt f)
        rw [dec_enc hqh.out hbh.out] at CL
        have CLh := Lib.hid CL
        clear CE ok tk hnk CL hTj
        go_wp2_with fail
        go_at_call 19
        refine Calls.mono (CLh.out) ?_
        rintro e wl ⟨s6, r6, rfl, k6, tl⟩
        obtain ⟨A6, c6, hs6, _⟩ := rform k6.st
        obtain ⟨A7, c7, hr7, _⟩ := k6.rows.form
        subst hs6 hr7
        have ta := (Turns.refl [] wl).alloc (.cells (frc f (.slice A6 f.tok.st.length c6) (.slice A7 f.tok.rows.length c7)) 41)
        have hTm := Lib.hid ((hTk.out.turns tl).turns ta)
        have Bd := Lib.hid (Blk.new wl (frc f (.slice A6 f.tok.st.length c6) (.slice A7 f.tok.rows.length c7)) 41)
        have k7 := Lib.hid (k6.turns ta)
        have okm := Lib.hid (okh.out.mv (fun a u => (tl.trans ta).old))
        unfold frv
        clear CLh k6 okh tl ta hTk
        simp only
        go_upto_region 15 with fail
        generalize wl.alloc (.cells (frc f (.slice A6 f.tok.st.length c6) (.slice A7 f.tok.rows.length c7)) 41) = wm at *
        generalize wl.heap.size = db at *
        have CM := rsame_is wm f f _ _ _ _ k7.out (hfh.out.turns hTm.out.t)
        rw [decide_eq_true rfl] at CM
        unfold frv at CM
        have CMh := Lib.hid CM
        have x0 : World.cell? (wm) ⟨fa, 0, none⟩ = some _ := (hTm.out.a).cell 0
        have x1 : World.cell? (wm) ⟨fa, 1, none⟩ = some _ := (hTm.out.a).cell 1
        have x2 : World.cell? (wm) ⟨fa, 2, none⟩ = some _ := (hTm.out.a).cell 2
        have x3 : World.cell? (wm) ⟨fa, 3, none⟩ = some _ := (hTm.out.a).cell 3
        have x4 : World.cell? (wm) ⟨fa, 4, none⟩ = some _ := (hTm.out.a).cell 4
        have x5 : World.cell? (wm) ⟨fa, 5, none⟩ = some _ := (hTm.out.a).cell 5
        have x6 : World.cell? (wm) ⟨fa, 6, none⟩ = some _ := (hTm.out.a).cell 6
        have x7 : World.cell? (wm) ⟨fa, 7, none⟩ = some _ := (hTm.out.a).cell 7
        have x8 : World.cell? (wm) ⟨fa, 8, none⟩ = some _ := (hTm.out.a).cell 8
        have x9 : World.cell? (wm) ⟨fa, 9, none⟩ = some _ := (hTm.out.a).cell 9
        have x10 : World.cell? (wm) ⟨fa, 10, none⟩ = some _ := (hTm.out.a).cell 10
        have d0 : World.cell? (wm) ⟨db, 0, none⟩ = some _ := (Bd.out).cell 0
        have d1 : World.cell? (wm) ⟨db, 1, none⟩ = some _ := (Bd.out).cell 1
        have d2 : World.cell? (wm) ⟨db, 2, none⟩ = some _ := (Bd.out).cell 2
        have d3 : World.cell? (wm) ⟨db, 3, none⟩ = some _ := (Bd.out).cell 3
        have d4 : World.cell? (wm) ⟨db, 4, none⟩ = some _ := (Bd.out).cell 4
        have d5 : World.cell? (wm) ⟨db, 5, none⟩ = some _ := (Bd.out).cell 5
        have d6 : World.cell? (wm) ⟨db, 6, none⟩ = some _ := (Bd.out).cell 6
        have d7 : World.cell? (wm) ⟨db, 7, none⟩ = some _ := (Bd.out).cell 7
        have d8 : World.cell? (wm) ⟨db, 8, none⟩ = some _ := (Bd.out).cell 8
        have d9 : World.cell? (wm) ⟨db, 9, none⟩ = some _ := (Bd.out).cell 9
        have d10 : World.cell? (wm) ⟨db, 10, none⟩ = some _ := (Bd.out).cell 10
        clear CM
        go_wp2_with fail
        go_at_call 17
        refine Calls.mono (CMh.out) ?_
        rintro e wn ⟨rfl, tn⟩
        have hTn := Lib.hid ((hTm.out.turns tn).turns (Turns.refl [] wn).drew)
        have okn := Lib.hid (okm.out.mv (w' := wn.drew) (fun a u => (tn.trans (Turns.refl [] wn).drew).old))
        clear x0 x1 x2 x3 x4 x5 x6 x7 x8 x9 x10
        clear d0 d1 d2 d3 d4 d5 d6 d7 d8 d9 d10 CMh Bd k7 hTm okm tn
        go_wp2_with fail
        go_wp2_with fail
        refine wp_region_flo [(0, false), (1, true), (2, true), (3, true), (4, true), (5, true), (6, true), (7, true), (8, true), (9, true), (10, true), (11, true), (12, false), (13, true), (14, true), (15, true), (16, true), (17, true), (18, true), (19, true), (20, true), (21, true), (22, true), (23, true)] (fun W => Turns [] wn.drew W) (by kernel_rfl) rfl (by kernel_rfl) (by intro c d v a w h; cases d <;> first | (simpa [Exit.then, Exit.inBlock, Act.put] using h) | exact h) (Turns.refl _ _) ?_
        generalize wn.drew = wo at *
        refine flo_alone _ rfl ?_
        go_wp2_with fail
        go_at_call 18
        refine Calls.mono (alive_is _) ?_
        rintro e wp ⟨rfl, tp⟩
        go_wp2_with fail
        refine ⟨fun W => Turns [] wp W, fun W h => tp.trans h, Turns.refl _ _, ?_⟩
        have hTp := Lib.hid (hTn.out.turns tp)
        have okp := Lib.hid (okn.out.mv (fun a u => tp.old))
        have cv1 := hcv.out _ _ _ okp.out
        have x0 : World.cell? (wp) ⟨fa, 0, none⟩ = some _ := (hTp.out.a).cell 0
        have x1 : World.cell? (wp) ⟨fa, 1, none⟩ = some _ := (hTp.out.a).cell 1
        have x2 : World.cell? (wp) ⟨fa, 2, none⟩ = some _ := (hTp.out.a).cell 2
        have x3 : World.cell? (wp) ⟨fa, 3, none⟩ = some _ := (hTp.out.a).cell 3
        have x4 : World.cell? (wp) ⟨fa, 4, none⟩ = some _ := (hTp.out.a).cell 4
        have x5 : World.cell? (wp) ⟨fa, 5, none⟩ = some _ := (hTp.out.a).cell 5
        have x6 : World.cell? (wp) ⟨fa, 6, none⟩ = some _ := (hTp.out.a).cell 6
        have x7 : World.cell? (wp) ⟨fa, 7, none⟩ = some _ := (hTp.out.a).cell 7
        have x8 : World.cell? (wp) ⟨fa, 8, none⟩ = some _ := (hTp.out.a).cell 8
        have x9 : World.cell? (wp) ⟨fa, 9, none⟩ = some _ := (hTp.out.a).cell 9
        have x10 : World.cell? (wp) ⟨fa, 10, none⟩ = some _ := (hTp.out.a).cell 10
        refine flo_read _ rfl (fun K hK => ?_)
        go_simp
        first | (refine hK _ ?_) | (refine ⟨fun W hS => ?_, hK _ ?_⟩; · (have yx0 := hS.old x0; have yx1 := hS.old x1; have yx2 := hS.old x2; have yx3 := hS.old x3; have yx4 := hS.old x4; have yx5 := hS.old x5; have yx6 := hS.old x6; have yx7 := hS.old x7; have yx8 := hS.old x8; have yx9 := hS.old x9; have yx10 := hS.old x10; have cvW := hcv.out _ _ _ (okp.out.mv (fun a u => hS.old)); try go_simp))
        clear hK K
        refine flo_read _ rfl (fun K hK => ?_)
        go_simp
        first | (refine hK _ ?_) | (refine ⟨fun W hS => ?_, hK _ ?_⟩; · (have yx0 := hS.old x0; have yx1 := hS.old x1; have yx2 := hS.old x2; have yx3 := hS.old x3; have yx4 := hS.old x4; have yx5 := hS.old x5; have yx6 := hS.old x6; have yx7 := hS.old x7; have yx8 := hS.old x8; have yx9 := hS.old x9; have yx10 := hS.old x10; have cvW := hcv.out _ _ _ (okp.out.mv (fun a u => hS.old)); try go_simp))
        clear hK K
        refine flo_read _ rfl (fun K hK => ?_)
        go_simp
        first | (refine hK _ ?_) | (refine ⟨fun W hS => ?_, hK _ ?_⟩; · (have yx0 := hS.old x0; have yx1 := hS.old x1; have yx2 := hS.old x2; have yx3 := hS.old x3; have yx4 := hS.old x4; have yx5 := hS.old x5; have yx6 := hS.old x6; have yx7 := hS.old x7; have yx8 := hS.old x8; have yx9 := hS.old x9; have yx10 := hS.old x10; have cvW := hcv.out _ _ _ (okp.out.mv (fun a u => hS.old)); try go_simp))
        clear hK K
        refine flo_read _ rfl (fun K hK => ?_)
        go_simp
        first | (refine hK _ ?_) | (refine ⟨fun W hS => ?_, hK _ ?_⟩; · (have yx0 := hS.old x0; have yx1 := hS.old x1; have yx2 := hS.old x2; have yx3 := hS.old x3; have yx4 := hS.old x4; have yx5 := hS.old x5; have yx6 := hS.old x6; have yx7 := hS.old x7; have yx8 := hS.old x8; have yx9 := hS.old x9; have yx10 := hS.old x10; have cvW := hcv.out _ _ _ (okp.out.mv (fun a u => hS.old)); try go_simp))
        clear hK K
        refine flo_read _ rfl (fun K hK => ?_)
        go_simp
        first | (refine hK _ ?_) | (refine ⟨fun W hS => ?_, hK _ ?_⟩; · (have yx0 := hS.old x0; have yx1 := hS.old x1; have yx2 := hS.old x2; have yx3 := hS.old x3; have yx4 := hS.old x4; have yx5 := hS.old x5; have yx6 := hS.old x6; have yx7 := hS.old x7; have yx8 := hS.old x8; have yx9 := hS.old x9; have yx10 := hS.old x10; have cvW := hcv.out _ _ _ (okp.out.mv (fun a u => hS.old)); try go_simp))
        clear hK K
        refine flo_read _ rfl (fun K hK => ?_)
        go_simp
        first | (refine hK _ ?_) | (refine ⟨fun W hS => ?_, hK _ ?_⟩; · (have yx0 := hS.old x0; have yx1 := hS.old x1; have yx2 := hS.old x2; have yx3 := hS.old x3; have yx4 := hS.old x4; have yx5 := hS.old x5; have yx6 := hS.old x6; have yx7 := hS.old x7; have yx8 := hS.old x8; have yx9 := hS.old x9; have yx10 := hS.old x10; have cvW := hcv.out _ _ _ (okp.out.mv (fun a u => hS.old)); try go_simp))
        clear hK K
        refine flo_read _ rfl (fun K hK => ?_)
        go_simp
        first | (refine hK _ ?_) | (refine ⟨fun W hS => ?_, hK _ ?_⟩; · (have yx0 := hS.old x0; have yx1 := hS.old x1; have yx2 := hS.old x2; have yx3 := hS.old x3; have yx4 := hS.old x4; have yx5 := hS.old x5; have yx6 := hS.old x6; have yx7 := hS.old x7; have yx8 := hS.old x8; have yx9 := hS.old x9; have yx10 := hS.old x10; have cvW := hcv.out _ _ _ (okp.out.mv (fun a u => hS.old)); try go_simp))
        clear hK K
        refine flo_read _ rfl (fun K hK => ?_)
        go_simp
        first | (refine hK _ ?_) | (refine ⟨fun W hS => ?_, hK _ ?_⟩; · (have yx0 := hS.old x0; have yx1 := hS.old x1; have yx2 := hS.old x2; have yx3 := hS.old x3; have yx4 := hS.old x4; have yx5 := hS.old x5; have yx6 := hS.old x6; have yx7 := hS.old x7; have yx8 := hS.old x8; have yx9 := hS.old x9; have yx10 := hS.old x10; have cvW := hcv.out _ _ _ (okp.out.mv (fun a u => hS.old)); try go_simp))
        clear hK K
        refine flo_read _ rfl (fun K hK => ?_)
        go_simp
        first | (refine hK _ ?_) | (refine ⟨fun W hS => ?_, hK _ ?_⟩; · (have yx0 := hS.old x0; have yx1 := hS.old x1; have yx2 := hS.old x2; have yx3 := hS.old x3; have yx4 := hS.old x4; have yx5 := hS.old x5; have yx6 := hS.old x6; have yx7 := hS.old x7; have yx8 := hS.old x8; have yx9 := hS.old x9; have yx10 := hS.old x10; have cvW := hcv.out _ _ _ (okp.out.mv (fun a u => hS.old)); try go_simp))
        clear hK K
        refine flo_read _ rfl (fun K hK => ?_)
        go_simp
        first | (refine hK _ ?_) | (refine ⟨fun W hS => ?_, hK _ ?_⟩; · (have yx0 := hS.old x0; have yx1 := hS.old x1; have yx2 := hS.old x2; have yx3 := hS.old x3; have yx4 := hS.old x4; have yx5 := hS.old x5; have yx6 := hS.old x6; have yx7 := hS.old x7; have yx8 := hS.old x8; have yx9 := hS.old x9; have yx10 := hS.old x10; have cvW := hcv.out _ _ _ (okp.out.mv (fun a u => hS.old)); try go_simp))
        clear hK K
        refine flo_read _ rfl (fun K hK => ?_)
        go_simp
        first | (refine hK _ ?_) | (refine ⟨fun W hS => ?_, hK _ ?_⟩; · (have yx0 := hS.old x0; have yx1 := hS.old x1; have yx2 := hS.old x2; have yx3 := hS.old x3; have yx4 := hS.old x4; have yx5 := hS.old x5; have yx6 := hS.old x6; have yx7 := hS.old x7; have yx8 := hS.old x8; have yx9 := hS.old x9; have yx10 := hS.old x10; have cvW := hcv.out _ _ _ (okp.out.mv (fun a u => hS.old)); try go_simp))
        clear hK K
        clear x0 x1 x2 x3 x4 x5 x6 x7 x8 x9 x10
        clear cv1
        have CN := Lib.hid (bytes_is wp f _ _ (hfh.out.turns hTp.out.t) hqh.out hbh.out)
        unfold frv at CN
        refine flo_alone _ rfl ?_
        go_wp2_with fail
        go_at_call 34
        refine Calls.mono (CN.out) ?_
        rintro e wq ⟨vq, rfl, oq, tq⟩
        go_wp2_with fail
        refine ⟨fun W => Turns [] wq W, fun W h => tq.trans h, Turns.refl _ _, ?_⟩
        have hTq := Lib.hid (hTp.out.turns tq)
        obtain ⟨nq, Aq, cq, hvq⟩ : ∃ n A c, vq = Value.slice A n c := by obtain ⟨A, c, h, _⟩ := oq.form; exact ⟨_, A, c, h⟩
        subst hvq
        have oqh := Lib.hid oq.reads
        have cv2 := hcv.out _ _ _ oqh.out
        clear oq tq CN
        refine flo_read _ rfl (fun K hK => ?_)
        go_simp
        first | (refine hK _ ?_) | (refine ⟨fun W hS => ?_, hK _ ?_⟩; · (have cvW := hcv.out _ _ _ (oqh.out.mv (fun a u => hS.old)); try go_simp))
        clear hK K
        refine flo_read _ rfl (fun K hK => ?_)
        go_simp
        first | (refine hK _ ?_) | (refine ⟨fun W hS => ?_, hK _ ?_⟩; · (have cvW := hcv.out _ _ _ (oqh.out.mv (fun a u => hS.old)); try go_simp))
        clear hK K
        refine flo_read _ rfl (fun K hK => ?_)
        go_simp
        first | (refine hK _ ?_) | (refine ⟨fun W hS => ?_, hK _ ?_⟩; · (have cvW := hcv.out _ _ _ (oqh.out.mv (fun a u => hS.old)); try go_simp))
        clear hK K
        refine flo_read _ rfl (fun K hK => ?_)
        go_simp
        first | (refine hK _ ?_) | (refine ⟨fun W hS => ?_, hK _ ?_⟩; · (have cvW := hcv.out _ _ _ (oqh.out.mv (fun a u => hS.old)); try go_simp))
        clear hK K
        refine flo_read _ rfl (fun K hK => ?_)
        go_simp
        first | (refine hK _ ?_) | (refine ⟨fun W hS => ?_, hK _ ?_⟩; · (have cvW := hcv.out _ _ _ (oqh.out.mv (fun a u => hS.old)); try go_simp))
        clear hK K
        refine flo_read _ rfl (fun K hK => ?_)
        go_simp
        first | (refine hK _ ?_) | (refine ⟨fun W hS => ?_, hK _ ?_⟩; · (have cvW := hcv.out _ _ _ (oqh.out.mv (fun a u => hS.old)); try go_simp))
        clear hK K
        refine flo_read _ rfl (fun K hK => ?_)
        go_simp
        first | (refine hK _ ?_) | (refine ⟨fun W hS => ?_, hK _ ?_⟩; · (have cvW := hcv.out _ _ _ (oqh.out.mv (fun a u => hS.old)); try go_simp))
        clear hK K
        refine flo_read _ rfl (fun K hK => ?_)
        go_simp
        first | (refine hK _ ?_) | (refine ⟨fun W hS => ?_, hK _ ?_⟩; · (have cvW := hcv.out _ _ _ (oqh.out.mv (fun a u => hS.old)); try go_simp))
        clear hK K
        refine flo_read _ rfl (fun K hK => ?_)
        go_simp
        first | (refine hK _ ?_) | (refine ⟨fun W hS => ?_, hK _ ?_⟩; · (have cvW := hcv.out _ _ _ (oqh.out.mv (fun a u => hS.old)); try go_simp))
        clear hK K
        refine flo_read _ rfl (fun K hK => ?_)
        go_simp
        first | (refine hK _ ?_) | (refine ⟨fun W hS => ?_, hK _ ?_⟩; · (have cvW := hcv.out _ _ _ (oqh.out.mv (fun a u => hS.old)); try go_simp))
        clear hK K
        refine flo_read _ rfl (fun K hK => ?_)
        go_simp
        first | (refine hK _ ?_) | (refine ⟨fun W hS => ?_, hK _ ?_⟩; · (have cvW := hcv.out _ _ _ (oqh.out.mv (fun a u => hS.old)); try go_simp))
        clear hK K
        refine flo_end ?_
        have hX := hXh.out _ hTq.out.t
        clear cv2
        go_wp2_with fail
        exact hX
theorem tells_opened {H : Type} (enc : TypeId × Value → H) (W : World) {base : Nat} {v0 v1 : Value} {d0 d1 : DataW H} {p0 p1 : List MemPlace} (h0 : DataW.Trod enc Try.prog W 0 (fun _ => true) true 41 v0 d0 p0)
    (h1 : DataW.Trod enc Try.prog W 0 (fun _ => true) true 41 v1 d1 p1)
    (o0 : Value.okWide Try.prog W .any base 41 v0) (o1 : Value.okWide Try.prog W .any base 41 v1) :
    Calls Try.prog 6 #[v0, v1] W fun e w' => e = .returned (.bool true) ∧ Below W.heap.size W w' := by
  obtain ⟨cs, rfl, k⟩ := Ha.arg_struct Try.underlying41 No.nestFr h0 o0
  obtain ⟨f, sv, rv, rfl, ht, hb⟩ := No.fr_of k
  obtain ⟨cs, rfl, k⟩ := Ha.arg_struct Try.underlying41 No.nestFr h1 o1
  obtain ⟨g, sv2, rv2, rfl, ht2, _⟩ := No.fr_of k
  exact (tells_is W f g sv rv sv2 rv2 ht ht2 hb).mono fun e w' ⟨he, t⟩ => ⟨he, t.isBelow⟩
end Go.Proofs.Ytohokckpheljbaa.Nq
