/- The law AuditWindows. -/
import Derived.Test.YtmaielpfeajelaaUd
set_option linter.unusedVariables false
set_option linter.unusedSimpArgs false
set_option maxRecDepth 100000
namespace Go.Proofs.Ytmaielpfeajelaa.Ue
open Go.RowKit Go.MapKept Go.ChangeShapes Go.WideShapes Hm Hs Hf Hg Hv Hx Hy Ho Hn Ha Sm Sat Mu Ss Ua Ub Uc Ud
set_option maxHeartbeats 4000000 in
theorem windows_is (w : World) (v : Value) (l : List Gr) (R B key skew after upto : Int) (hl : RdS 4 w v (l.map Gr.cells)) :
    Calls Try.prog 3 #[v, .agg #[.int .i64 R, .int .i64 B], .agg #[.int .i64 key, .int .i64 skew, .int .i64 after, .int .i64 upto]] w fun e w' => e = .returned (.bool true) ∧ Turns [] w w' := by
  have T0 := ((Turns.refl [] w).alloc (.cells #[.int .i64 R, .int .i64 B] 24)).alloc (.cells #[.int .i64 key, .int .i64 skew, .int .i64 after, .int .i64 upto] 25)
  have b0 := (Blk.new w #[.int .i64 R, .int .i64 B] 24).alloc (.cells #[.int .i64 key, .int .i64 skew, .int .i64 after, .int .i64 upto] 25)
  have hlh := Lib.hid hl
  obtain ⟨A, c, rfl, _⟩ := hl.form
  rw [List.length_map] at hlh ⊢
  obtain ⟨X, hX⟩ : ∃ X : Ending → World → Prop, X = fun e w' => e = .returned (.bool true) ∧ Turns [] w w' := ⟨_, rfl⟩
  rw [← hX]
  have hXh : Hid (∀ w', Turns [] w w' → X (.returned (.bool true)) w') := Lib.hid (fun w' h => by rw [hX]; exact ⟨rfl, h⟩)
  clear hX hl
  by_cases h1 : (l.length : Int) > 40
  · have g1 := decide_eq_true h1
    clear h1
    go_enter Try.func3, Try.ntmps3
    go_wp2_with fail
    go_at_call 7
    refine Calls.mono (alive_is _) ?_
    rintro e w1 ⟨rfl, t1⟩
    have hX := hXh.out _ (T0.trans t1)
    go_wp2_with fail
    exact hX
  · have g1 : decide ((l.length : Int) > 40) = false := decide_eq_false h1
    by_cases h2 : after < 0
    · have g2 := decide_eq_true h2
      clear h1 h2
      go_enter Try.func3, Try.ntmps3
      go_wp2_with fail
      go_at_call 7
      refine Calls.mono (alive_is _) ?_
      rintro e w1 ⟨rfl, t1⟩
      have hX := hXh.out _ (T0.trans t1)
      go_wp2_with fail
      exact hX
    · have g2 : decide (after < 0) = false := decide_eq_false h2
      by_cases h3 : upto > 1099511627776
      · have g3 := decide_eq_true h3
        clear h1 h2 h3
        go_enter Try.func3, Try.ntmps3
        go_wp2_with fail
        go_at_call 7
        refine Calls.mono (alive_is _) ?_
        rintro e w1 ⟨rfl, t1⟩
        have hX := hXh.out _ (T0.trans t1)
        go_wp2_with fail
        exact hX
      · have g3 : decide (upto > 1099511627776) = false := decide_eq_false h3
        by_cases h4 : after ≥ upto
        · have g4 := decide_eq_true h4
          clear h1 h2 h3 h4
          go_enter Try.func3, Try.ntmps3
          go_wp2_with fail
          go_at_call 7
          refine Calls.mono (alive_is _) ?_
          rintro e w1 ⟨rfl, t1⟩
          have hX := hXh.out _ (T0.trans t1)
          go_wp2_with fail
          exact hX
        · have g4 : decide (after ≥ upto) = false := decide_eq_false h4
          have hn : l.length ≤ 40 := by omega
          have hw : IntKind.i64.wrap (upto - after) = upto - after := IntWalk.i64_in _ (by omega)
          have hau : after < upto := by omega
          obtain ⟨r, hr⟩ : ∃ r, bout l key R B skew (onces (tms l key)) (onces (tms l key)).length 0 = r := ⟨_, rfl⟩
          have Bh := Lib.hid (fun W h => budget_is W (.slice A l.length c) l key R B skew h (by omega) r hr)
          have Rd := Lib.hid (hlh.out.mv (fun a u => T0.old))
          have hnh := Lib.hid hn
          clear h1 h2 h3 h4 hn
          go_enter Try.func3, Try.ntmps3
          go_wp2_with fail
          go_at_call 8
          refine Calls.mono (Bh.out _ Rd.out) ?_
          rintro e w1 ⟨rfl, t1⟩
          have Rd1 := Lib.hid (Rd.out.mv (fun a u => t1.old))
          have b1 := b0.turns t1 (by simp)
          have T1 := T0.trans t1
          clear Bh Rd b0 T0 t1
          cases r with
          | some p =>
            obtain ⟨a', u'⟩ := p
            unfold budV
            clear hr hau
            go_wp2_with fail
            go_wp2_with fail
            refine wp_region_flo [(0, false), (1, true), (2, true), (3, true), (4, true), (5, true), (6, true), (7, true), (8, true), (10, true), (11, true), (12, true), (13, true), (14, true), (9, false), (15, false), (16, true), (17, true), (18, true), (19, true)] (fun W => Turns [] w1.drew W) (by kernel_rfl) rfl (by kernel_rfl) (by intro c d v a w h; cases d <;> first | (simpa [Exit.then, Exit.inBlock, Act.put] using h) | exact h) (Turns.refl _ _) ?_
            have T2 := T1.drew
            generalize w1.drew = w2 at *
            refine flo_alone _ rfl ?_
            go_wp2_with fail
            go_at_call 7
            refine Calls.mono (alive_is _) ?_
            rintro e w3 ⟨rfl, t3⟩
            go_wp2_with fail
            refine ⟨fun W => Turns [] w3 W, fun W h => t3.trans h, Turns.refl _ _, ?_⟩
            have T3 := T2.trans t3
            refine flo_read _ rfl (fun K hK => ?_)
            go_simp
            first | (refine hK _ ?_) | (refine ⟨fun W hS => ?_, hK _ ?_⟩; · (skip; try go_simp))
            clear hK K
            refine flo_read _ rfl (fun K hK => ?_)
            go_simp
            first | (refine hK _ ?_) | (refine ⟨fun W hS => ?_, hK _ ?_⟩; · (skip; try go_simp))
            clear hK K
            refine flo_read _ rfl (fun K hK => ?_)
            go_simp
            first | (refine hK _ ?_) | (refine ⟨fun W hS => ?_, hK _ ?_⟩; · (skip; try go_simp))
            clear hK K
            refine flo_read _ rfl (fun K hK => ?_)
            go_simp
            first | (refine hK _ ?_) | (refine ⟨fun W hS => ?_, hK _ ?_⟩; · (skip; try go_simp))
            clear hK K
            refine flo_read _ rfl (fun K hK => ?_)
            go_simp
            first | (refine hK _ ?_) | (refine ⟨fun W hS => ?_, hK _ ?_⟩; · (skip; try go_simp))
            clear hK K
            refine flo_read _ rfl (fun K hK => ?_)
            go_simp
            first | (refine hK _ ?_) | (refine ⟨fun W hS => ?_, hK _ ?_⟩; · (skip; try go_simp))
            clear hK K
            refine flo_read _ rfl (fun K hK => ?_)
            go_simp
            first | (refine hK _ ?_) | (refine ⟨fun W hS => ?_, hK _ ?_⟩; · (skip; try go_simp))
            clear hK K
            refine flo_read _ rfl (fun K hK => ?_)
            go_simp
            first | (refine hK _ ?_) | (refine ⟨fun W hS => ?_, hK _ ?_⟩; · (skip; try go_simp))
            clear hK K
            refine flo_read _ rfl (fun K hK => ?_)
            go_simp
            first | (refine hK _ ?_) | (refine ⟨fun W hS => ?_, hK _ ?_⟩; · (skip; try go_simp))
            clear hK K
            refine flo_read _ rfl (fun K hK => ?_)
            go_simp
            first | (refine hK _ ?_) | (refine ⟨fun W hS => ?_, hK _ ?_⟩; · (skip; try go_simp))
            clear hK K
            refine flo_read _ rfl (fun K hK => ?_)
            go_simp
            first | (refine hK _ ?_) | (refine ⟨fun W hS => ?_, hK _ ?_⟩; · (skip; try go_simp))
            clear hK K
            refine flo_read _ rfl (fun K hK => ?_)
            go_simp
            first | (refine hK _ ?_) | (refine ⟨fun W hS => ?_, hK _ ?_⟩; · (skip; try go_simp))
            clear hK K
            refine flo_read _ rfl (fun K hK => ?_)
            go_simp
            first | (refine hK _ ?_) | (refine ⟨fun W hS => ?_, hK _ ?_⟩; · (skip; try go_simp))
            clear hK K
            refine flo_alone _ rfl ?_
            go_wp2_with fail
            refine ⟨fun W => Turns [] w3 W, fun W h => h, Turns.refl _ _, ?_⟩
            refine flo_alone _ rfl ?_
            go_wp2_with fail
            refine ⟨fun W => Turns [] w3 W, fun W h => h, Turns.refl _ _, ?_⟩
            refine flo_read _ rfl (fun K hK => ?_)
            go_simp
            first | (refine hK _ ?_) | (refine ⟨fun W hS => ?_, hK _ ?_⟩; · (skip; try go_simp))
            clear hK K
            refine flo_read _ rfl (fun K hK => ?_)
            go_simp
            first | (refine hK _ ?_) | (refine ⟨fun W hS => ?_, hK _ ?_⟩; · (skip; try go_simp))
            clear hK K
            refine flo_read _ rfl (fun K hK => ?_)
            go_simp
            first | (refine hK _ ?_) | (refine ⟨fun W hS => ?_, hK _ ?_⟩; · (skip; try go_simp))
            clear hK K
            refine flo_read _ rfl (fun K hK => ?_)
            go_simp
            first | (refine hK _ ?_) | (refine ⟨fun W hS => ?_, hK _ ?_⟩; · (skip; try go_simp))
            clear hK K
            refine flo_end ?_
            have hX := hXh.out _ T3
            go_wp2_with fail
            exact hX
          | none =>
            have hwin := windows (onces_sorted (tms l key)) (onces_mem (tms l key)) hr after upto hau
            have g5 : decide (spent l key after upto ≤ allowed R B skew (upto - after)) = true := decide_eq_true hwin
            have Sp := Lib.hid (fun W h => spent_is W (.slice A l.length c) l key after upto h (by have := hnh.out; omega))
            have Al := Lib.hid (fun W => allowed_is R B skew (upto - after) W)
            generalize spent l key after upto = sp at *
            generalize allowed R B skew (upto - after) = al at *
            unfold budV
            have hwh := Lib.hid hwin
            clear hr hau hwin
            go_wp2_with fail
            go_wp2_with fail
            refine wp_region_flo [(0, false), (1, true), (2, true), (3, true), (4, true), (5, true), (6, true), (7, true), (8, true), (10, true), (11, true), (12, true), (13, true), (14, true), (9, false), (15, false), (16, true), (17, true), (18, true), (19, true)] (fun W => Turns [] w1.drew W) (by kernel_rfl) rfl (by kernel_rfl) (by intro c d v a w h; cases d <;> first | (simpa [Exit.then, Exit.inBlock, Act.put] using h) | exact h) (Turns.refl _ _) ?_
            have T2 := T1.drew
            have b2 := b1.drew
            have Rd2 := Lib.hid (Rd1.out.mv (w' := w1.drew) (fun a u h => h))
            generalize w1.drew = w2 at *
            refine flo_alone _ rfl ?_
            go_wp2_with fail
            go_at_call 7
            refine Calls.mono (alive_is _) ?_
            rintro e w3 ⟨rfl, t3⟩
            go_wp2_with fail
            refine ⟨fun W => Turns [] w3 W, fun W h => t3.trans h, Turns.refl _ _, ?_⟩
            have T3 := T2.trans t3
            have Rd3 := Lib.hid (Rd2.out.mv (fun a u => t3.old))
            have c0 : World.cell? (w3) ⟨w.heap.size, 0, none⟩ = some _ := (b2.turns t3 (by simp)).cell 0
            have c1 : World.cell? (w3) ⟨w.heap.size, 1, none⟩ = some _ := (b2.turns t3 (by simp)).cell 1
            refine flo_read _ rfl (fun K hK => ?_)
            go_simp
            first | (refine hK _ ?_) | (refine ⟨fun W hS => ?_, hK _ ?_⟩; · (have x0 := hS.old c0; have x1 := hS.old c1; try go_simp))
            clear hK K
            refine flo_read _ rfl (fun K hK => ?_)
            go_simp
            first | (refine hK _ ?_) | (refine ⟨fun W hS => ?_, hK _ ?_⟩; · (have x0 := hS.old c0; have x1 := hS.old c1; try go_simp))
            clear hK K
            refine flo_read _ rfl (fun K hK => ?_)
            go_simp
            first | (refine hK _ ?_) | (refine ⟨fun W hS => ?_, hK _ ?_⟩; · (have x0 := hS.old c0; have x1 := hS.old c1; try go_simp))
            clear hK K
            refine flo_read _ rfl (fun K hK => ?_)
            go_simp
            first | (refine hK _ ?_) | (refine ⟨fun W hS => ?_, hK _ ?_⟩; · (have x0 := hS.old c0; have x1 := hS.old c1; try go_simp))
            clear hK K
            refine flo_read _ rfl (fun K hK => ?_)
            go_simp
            first | (refine hK _ ?_) | (refine ⟨fun W hS => ?_, hK _ ?_⟩; · (have x0 := hS.old c0; have x1 := hS.old c1; try go_simp))
            clear hK K
            refine flo_read _ rfl (fun K hK => ?_)
            go_simp
            first | (refine hK _ ?_) | (refine ⟨fun W hS => ?_, hK _ ?_⟩; · (have x0 := hS.old c0; have x1 := hS.old c1; try go_simp))
            clear hK K
            refine flo_read _ rfl (fun K hK => ?_)
            go_simp
            first | (refine hK _ ?_) | (refine ⟨fun W hS => ?_, hK _ ?_⟩; · (have x0 := hS.old c0; have x1 := hS.old c1; try go_simp))
            clear hK K
            refine flo_read _ rfl (fun K hK => ?_)
            go_simp
            first | (refine hK _ ?_) | (refine ⟨fun W hS => ?_, hK _ ?_⟩; · (have x0 := hS.old c0; have x1 := hS.old c1; try go_simp))
            clear hK K
            refine flo_read _ rfl (fun K hK => ?_)
            go_simp
            first | (refine hK _ ?_) | (refine ⟨fun W hS => ?_, hK _ ?_⟩; · (have x0 := hS.old c0; have x1 := hS.old c1; try go_simp))
            clear hK K
            refine flo_read _ rfl (fun K hK => ?_)
            go_simp
            first | (refine hK _ ?_) | (refine ⟨fun W hS => ?_, hK _ ?_⟩; · (have x0 := hS.old c0; have x1 := hS.old c1; try go_simp))
            clear hK K
            refine flo_read _ rfl (fun K hK => ?_)
            go_simp
            first | (refine hK _ ?_) | (refine ⟨fun W hS => ?_, hK _ ?_⟩; · (have x0 := hS.old c0; have x1 := hS.old c1; try go_simp))
            clear hK K
            refine flo_read _ rfl (fun K hK => ?_)
            go_simp
            first | (refine hK _ ?_) | (refine ⟨fun W hS => ?_, hK _ ?_⟩; · (have x0 := hS.old c0; have x1 := hS.old c1; try go_simp))
            clear hK K
            refine flo_read _ rfl (fun K hK => ?_)
            go_simp
            first | (refine hK _ ?_) | (refine ⟨fun W hS => ?_, hK _ ?_⟩; · (have x0 := hS.old c0; have x1 := hS.old c1; try go_simp))
            clear hK K
            refine flo_alone _ rfl ?_
            go_wp2_with fail
            go_at_call 9
            refine Calls.mono (Sp.out _ Rd3.out) ?_
            rintro e w4 ⟨rfl, t4⟩
            go_wp2_with fail
            refine ⟨fun W => Turns [] w4 W, fun W h => t4.trans h, Turns.refl _ _, ?_⟩
            refine flo_alone _ rfl ?_
            go_wp2_with fail
            go_at_call 10
            refine Calls.mono (Al.out _) ?_
            rintro e w5 ⟨rfl, t5⟩
            go_wp2_with fail
            refine ⟨fun W => Turns [] w5 W, fun W h => t5.trans h, Turns.refl _ _, ?_⟩
            have T5 := (T3.trans t4).trans t5
            clear c0 c1 t3 t4 t5 b2 b1
            have g6 := hwh.out
            refine flo_read _ rfl (fun K hK => ?_)
            go_simp
            first | (refine hK _ ?_) | (refine ⟨fun W hS => ?_, hK _ ?_⟩; · (skip; try go_simp))
            clear hK K
            refine flo_read _ rfl (fun K hK => ?_)
            go_simp
            first | (refine hK _ ?_) | (refine ⟨fun W hS => ?_, hK _ ?_⟩; · (skip; try go_simp))
            clear hK K
            refine flo_read _ rfl (fun K hK => ?_)
            go_simp
            first | (refine hK _ ?_) | (refine ⟨fun W hS => ?_, hK _ ?_⟩; · (skip; try go_simp))
            clear hK K
            refine flo_read _ rfl (fun K hK => ?_)
            go_simp
            first | (refine hK _ ?_) | (refine ⟨fun W hS => ?_, hK _ ?_⟩; · (skip; try go_simp))
            clear hK K
            refine flo_end ?_
            have hX := hXh.out _ T5
            go_wp2_with fail
            exact hX
theorem nestGr : Nest Try.prog 62 [kInt .i64, kInt .i64, kInt .i64, kInt .i64] :=
  nStruct Try.underlying62 (ncons rfl (nInt Try.underlying3 (by kernel_rfl)) (ncons rfl (nInt Try.underlying3 (by kernel_rfl)) (ncons rfl (nInt Try.underlying3 (by kernel_rfl)) (ncons rfl (nInt Try.underlying3 (by kernel_rfl)) nnil rfl) rfl) rfl) rfl) (by kernel_rfl)
theorem nestRate : Nest Try.prog 24 [kInt .i64, kInt .i64] :=
  nStruct Try.underlying24 (ncons rfl (nInt Try.underlying3 (by kernel_rfl)) (ncons rfl (nInt Try.underlying3 (by kernel_rfl)) nnil rfl) rfl) (by kernel_rfl)
theorem windows_opened {H : Type} (enc : TypeId × Value → H) (W : World) {base : Nat} {v0 v1 v2 : Value} {d0 d1 d2 : DataW H} {p0 p1 p2 : List MemPlace} (h0 : DataW.Trod enc Try.prog W 0 (fun _ => true) true 22 v0 d0 p0)
    (h1 : DataW.Trod enc Try.prog W 0 (fun _ => true) true 24 v1 d1 p1) (h2 : DataW.Trod enc Try.prog W 0 (fun _ => true) true 25 v2 d2 p2)
    (o0 : Value.okWide Try.prog W .any base 22 v0) (o1 : Value.okWide Try.prog W .any base 24 v1) (o2 : Value.okWide Try.prog W .any base 25 v2) :
    Calls Try.prog 3 #[v0, v1, v2] W fun e w' => e = .returned (.bool true) ∧ Below W.heap.size W w' := by
  obtain ⟨l, hl, _⟩ := (arg_slice Try.underlying22 nestGr (by kernel_rfl) h0 o0).list (f := Gr.cells) (p := fun _ => True) (fun r hr => by
    obtain ⟨v0, r0, rfl, ⟨n0, rfl, w0⟩, k0⟩ := hr.out
    obtain ⟨v1, r1, rfl, ⟨n1, rfl, w1⟩, k1⟩ := k0.out
    obtain ⟨v2, r2, rfl, ⟨n2, rfl, w2⟩, k2⟩ := k1.out
    obtain ⟨v3, r3, rfl, ⟨n3, rfl, w3⟩, k3⟩ := k2.out
    obtain rfl := k3.none
    exact ⟨⟨n0, n1, n2, n3⟩, rfl, trivial⟩)
  obtain ⟨cs, rfl, kr⟩ := arg_struct Try.underlying24 nestRate h1 o1
  obtain ⟨_, r0, rfl, ⟨R, rfl, w0⟩, k0⟩ := kr.out
  obtain ⟨_, r1, rfl, ⟨B, rfl, w1⟩, k1⟩ := k0.out
  obtain rfl := k1.none
  obtain ⟨cs, rfl, kf⟩ := arg_array Try.underlying25 (nArray Try.underlying25 (nInt Try.underlying3 (by kernel_rfl)) (by kernel_rfl)) h2 o2
  obtain ⟨_, r0, rfl, ⟨n0, rfl, w0⟩, k0⟩ := (show Kds W [kInt .i64, kInt .i64, kInt .i64, kInt .i64] cs from kf).out
  obtain ⟨_, r1, rfl, ⟨n1, rfl, w1⟩, k1⟩ := k0.out
  obtain ⟨_, r2, rfl, ⟨n2, rfl, w2⟩, k2⟩ := k1.out
  obtain ⟨_, r3, rfl, ⟨n3, rfl, w3⟩, k3⟩ := k2.out
  obtain rfl := k3.none
  exact (windows_is W _ l R B n0 n1 n2 n3 hl).mono fun e w' ⟨he, t⟩ => ⟨he, t.isBelow⟩
end Go.Proofs.Ytmaielpfeajelaa.Ue
