/- Views: alive, ViewPlays. -/
import Derived.Test.YtmaielpfeajelaaDoorYc
import Derived.Test.YtmaielpfeajelaaDoorRs
import Derived.Test.YtmaielpfeajelaaDoorHa
set_option linter.unusedVariables false
set_option linter.unusedSimpArgs false
set_option maxRecDepth 100000
namespace Go.Proofs.YtmaielpfeajelaaDoor.Yd
open Go.RowKit Go.MapKept Go.ChangeShapes Go.WideShapes Hm Hs Hf Hg Hv Hx Hy Ho Hn Ha Hc Hd Sm Sat Clk Ra Rg Rb Rd Rh Rm Rs Ya Yb Yc
theorem a_hear : hearL (List.replicate 4 5) 3 9 = [5, 5, 5, 9] := by decide +kernel
theorem a_l14 : live [5, 5, 5, 9] 1 10 14 = 15 := by decide +kernel
theorem a_l15 : live [5, 5, 5, 9] 1 10 15 = 10 := by decide +kernel
theorem a_n15 : vnext [5, 5, 5, 9] 1 10 15 = 3 := by decide +kernel
theorem a_n19 : vnext [5, 5, 5, 9] 1 10 19 = 1 := by decide +kernel
theorem a_len : (ins [5, 5, 5, 9]).length = 4 := rfl
set_option maxHeartbeats 2000000 in
theorem alive_is (w : World) (hT : Tab w) : Calls Tryd.prog 9 #[] w fun e w' => e = .returned (.bool true) ∧ Turns [] w w' := by
  have e0 := Lib.hid (vnew_ok 4 1 10 5 (by unfold okV okN; omega) w)
  have hTh := Lib.hid hT
  clear hT
  go_enter Tryd.func9, Tryd.ntmps9
  go_wp2_with fail
  go_at_call 10
  refine Calls.mono (e0.out) ?_
  rintro e w1 ⟨b, hv, rfl, H⟩
  have e1 := Lib.hid (hear_is b 1 10 hv _ 3 9 w1 (H.got [0, 1]))
  have hHh := Lib.hid H
  clear H e0
  go_wp2_with fail
  go_at_call 12
  refine Calls.mono (e1.out) ?_
  rintro e w2 ⟨rfl, k2⟩
  have H2 : Hx.Sep [] w (vw b 1 10 hv [5, 5, 5, 9]) w2 := by have := hHh.out.call [0, 1] k2; rw [a_hear] at this; exact this
  clear k2 e1 hHh
  have hTb := Lib.hid (hTh.out.turns H2.t)
  have g0 := H2.got [0, 1]
  have e2 := Lib.hid (live_is b 1 10 hv [5, 5, 5, 9] 14 (by decide) w2 g0)
  rw [a_l14] at e2
  have hH2 := Lib.hid H2
  clear hTh H2 g0
  go_wp2_with fail
  go_at_call 16
  refine Calls.mono (e2.out) ?_
  rintro e w3 ⟨rfl, t3⟩
  have H3 := hH2.out.turns t3
  have e3 := Lib.hid (live_is b 1 10 hv [5, 5, 5, 9] 15 (by decide) w3 (H3.got [0, 1]))
  rw [a_l15] at e3
  have hT3 := Lib.hid (hTb.out.turns t3)
  have hH3 := Lib.hid H3
  clear hH2 H3 t3 e2 hTb
  go_wp2_with fail
  go_at_call 16
  refine Calls.mono (e3.out) ?_
  rintro e w4 ⟨rfl, t4⟩
  have H4 := hH3.out.turns t4
  have hT4 := hT3.out.turns t4
  have e4 := Lib.hid (vnext_is b 1 10 hv [5, 5, 5, 9] 15 (by decide) w4 hT4 (H4.got [0, 1]))
  rw [a_n15] at e4
  have hT4h := Lib.hid hT4
  have hH4 := Lib.hid H4
  clear hH3 H4 t4 e3 hT3 hT4
  go_wp2_with fail
  go_at_call 18
  refine Calls.mono (e4.out) ?_
  rintro e w5 ⟨rfl, t5⟩
  have H5 := hH4.out.turns t5
  have hT5 := hT4h.out.turns t5
  have e5 := Lib.hid (vnext_is b 1 10 hv [5, 5, 5, 9] 19 (by decide) w5 hT5 (H5.got [0, 1]))
  rw [a_n19] at e5
  have hH5 := Lib.hid H5
  clear hH4 H5 t5 e4 hT4h hT5
  go_wp2_with fail
  go_at_call 18
  refine Calls.mono (e5.out) ?_
  rintro e w6 ⟨rfl, t6⟩
  have H6 := hH5.out.turns t6
  have e6 := Lib.hid (heard_is b 1 10 hv [5, 5, 5, 9] (by decide) w6 (H6.got [0, 1]))
  have T6 := H6.t
  clear hH5 H6 t6 e5
  go_wp2_with fail
  go_at_call 15
  refine Calls.mono (e6.out) ?_
  rintro e w7 ⟨u, rfl, o, t7⟩
  obtain ⟨A, c, rfl, _⟩ := o.form
  rw [a_len]
  go_wp2_with fail
  go_ret
  exact ⟨rfl, T6.trans t7⟩
/-- what was heard, k hearings on -/
def LK (l : List (Int × Int)) (N : Nat) (now : Int) (k : Nat) : List Int := (l.take k).foldl (fun L p => hearL L p.1 p.2) (List.replicate N now)
theorem LK_next {l : List (Int × Int)} {N : Nat} {now : Int} {k : Nat} {p : Int × Int} (h : l[k]? = some p) : LK l N now (k + 1) = hearL (LK l N now k) p.1 p.2 := by
  unfold LK
  rw [List.take_add_one, h, Option.toList_some, List.foldl_append]; rfl
theorem foldl_len (l : List (Int × Int)) : ∀ L : List Int, (l.foldl (fun L p => hearL L p.1 p.2) L).length = L.length := by
  induction l with
  | nil => intro L; rfl
  | cons p l ih => intro L; rw [List.foldl_cons, ih, hearL_len]
theorem LK_len (l : List (Int × Int)) (N : Nat) (now : Int) (k : Nat) : (LK l N now k).length = N := by unfold LK; rw [foldl_len, List.length_replicate]
def prs (l : List (Int × Int)) : List (List Value) := l.map fun p => [.int .i64 p.1, .int .i64 p.2]
theorem pcells {w : World} {v : Value} {l : List (Int × Int)} {j : Nat} {p : Int × Int} (h : RdS 2 w v (prs l)) (hj : l[j]? = some p) : ∃ ad c, v = .slice (some ad) l.length c ∧ w.cell? (ad.add (j * 2)) = some (.int .i64 p.1) ∧ w.cell? ⟨(ad.add (j * 2)).block, (ad.add (j * 2)).off + 1, none⟩ = some (.int .i64 p.2) := by
  obtain ⟨ad, c, hv, _, hc⟩ := h.at_ (j := j) (r := [.int .i64 p.1, .int .i64 p.2]) (by unfold prs; rw [List.getElem?_map, hj]; rfl)
  unfold prs at hv
  rw [List.length_map] at hv
  have h0 := hc 0 _ rfl
  have h1 := hc 1 _ rfl
  rw [Nat.add_zero] at h0
  rw [add_field _ _ _ (by omega)] at h1
  exact ⟨ad, c, hv, h0, h1⟩
theorem prs_len (l : List (Int × Int)) : (prs l).length = l.length := by unfold prs; simp
set_option maxHeartbeats 4000000 in
theorem plays_is (n node span now0 : Int) (v : Value) (l : List (Int × Int)) (now : Int) (w : World) (hT : Tab w) (hl : RdS 2 w v (prs l)) :
    Calls Tryd.prog 3 #[.agg #[.int .i64 n, .int .i64 node, .int .i64 span, .int .i64 now0], v, .int .i64 now] w fun e w' => e = .returned (.bool true) ∧ Turns [] w w' := by
  have T0 := (Turns.refl [] w).alloc (.cells #[.int .i64 n, .int .i64 node, .int .i64 span, .int .i64 now0] 22)
  have b0 := Blk.new w #[.int .i64 n, .int .i64 node, .int .i64 span, .int .i64 now0] 22
  have hlh := Lib.hid hl
  have hTh := Lib.hid hT
  obtain ⟨A, c, rfl, _⟩ := hl.form
  rw [prs_len] at hlh ⊢
  obtain ⟨X, hX⟩ : ∃ X : Ending → World → Prop, X = fun e w' => e = .returned (.bool true) ∧ Turns [] w w' := ⟨_, rfl⟩
  rw [← hX]
  have hXh : Hid (∀ w', Turns [] w w' → X (.returned (.bool true)) w') := Lib.hid (fun w' h => by rw [hX]; exact ⟨rfl, h⟩)
  clear hX hl hT
  by_cases h1 : (l.length : Int) > 100
  · have g1 := decide_eq_true h1
    have Ah := Lib.hid (alive_is _ (hTh.out.turns T0))
    clear h1 b0
    go_enter Tryd.func3, Tryd.ntmps3
    go_wp2_with fail
    go_at_call 9
    refine Calls.mono (Ah.out) ?_
    rintro e w1 ⟨rfl, t1⟩
    have hX := hXh.out _ (T0.trans t1)
    go_wp2_with fail
    exact hX
  · have g1 : decide ((l.length : Int) > 100) = false := decide_eq_false h1
    by_cases h2 : okV n node
    · obtain ⟨N, rfl⟩ : ∃ N : Nat, n = N := ⟨n.toNat, by have := h2.1.1; omega⟩
      have hN : N ≤ 64 := by have := h2.1.2; omega
      have hl100 : l.length ≤ 100 := by omega
      have V0 := Lib.hid (fun W => vnew_ok N node span now0 h2 W)
      have R0 := Lib.hid (fun W => rvnew_ok N node span now0 h2 W)
      have hlen := LK_len l N now0
      have hnx := Lib.hid (fun k p h => LK_next (l := l) (N := N) (now := now0) (k := k) (p := p) h)
      have hz : List.replicate N now0 = LK l N now0 0 := rfl
      rw [hz] at V0 R0
      generalize LK l N now0 = LL at *
      clear hz h1 h2
      have c0 : World.cell? (w.alloc (.cells #[.int .i64 N, .int .i64 node, .int .i64 span, .int .i64 now0] 22)) ⟨w.heap.size, 0, none⟩ = some _ := (b0).cell 0
      have c1 : World.cell? (w.alloc (.cells #[.int .i64 N, .int .i64 node, .int .i64 span, .int .i64 now0] 22)) ⟨w.heap.size, 1, none⟩ = some _ := (b0).cell 1
      have c2 : World.cell? (w.alloc (.cells #[.int .i64 N, .int .i64 node, .int .i64 span, .int .i64 now0] 22)) ⟨w.heap.size, 2, none⟩ = some _ := (b0).cell 2
      have c3 : World.cell? (w.alloc (.cells #[.int .i64 N, .int .i64 node, .int .i64 span, .int .i64 now0] 22)) ⟨w.heap.size, 3, none⟩ = some _ := (b0).cell 3
      have H0 := (Sep.start w).alloc #[.int .i64 N, .int .i64 node, .int .i64 span, .int .i64 now0] 22
      go_enter Tryd.func3, Tryd.ntmps3
      go_wp2_with fail
      go_at_call 10
      refine Calls.mono (V0.out _) ?_
      rintro e w1 ⟨b, hv, rfl, k1⟩
      have H1 := H0.upon (a := []) k1
      have t1 := k1.t
      have y0 := t1.old c0
      have y1 := t1.old c1
      have y2 := t1.old c2
      have y3 := t1.old c3
      clear c0 c1 c2 c3 k1 t1 H0 V0 b0 T0
      go_wp2_with fail
      go_at_call 11
      refine Calls.mono (R0.out _) ?_
      rintro e w2 ⟨rb, rhv, rfl, k2⟩
      have H2 := (H1.upon (a := []) k2).keep [2, 3, 0, 1]
      clear H1 k2 R0 y0 y1 y2 y3
      go_wp2_with fail
      go_loopw [11] (fun v11 wr => ∃ (k : Nat) (hv rhv : Value), k ≤ l.length ∧ v11 = .int .i64 k ∧ Sep [] w (vw b node span hv (LL k) ++ rvw rb node span rhv (LL k)) wr) (fun v11 _ => l.length - (RowKit.intOf v11).toNat)
      case atStart => exact ⟨0, hv, rhv, by omega, rfl, H2⟩
      case round =>
        clear H2 hv rhv
        obtain ⟨k, hv, rhv, hk, rfl, H⟩ := hrel
        by_cases hlt : k < l.length
        · have g2 : decide ((k : Int) < (l.length : Int)) = true := decide_eq_true (by omega)
          have g2b : decide (k < l.length) = true := decide_eq_true hlt
          obtain ⟨⟨x, y⟩, hx⟩ : ∃ p, l[k]? = some p := ⟨_, List.getElem?_eq_getElem hlt⟩
          obtain ⟨ad, c', hvv, f0, f1⟩ := pcells hlh.out hx
          injection hvv with e1 e2 e3
          subst e1 e3
          simp only at f0 f1
          have hnk := hnx.out k _ hx
          have hlk := hlen k
          have hlk1 := hlen (k + 1)
          simp only at hnk
          generalize hLL : LL k = L at *
          generalize hLL1 : LL (k + 1) = L' at *
          have HD := H.drew
          have E1 := Lib.hid (hear_is b node span hv L x y wr.drew (HD.got [0, 1]))
          have HDh := Lib.hid HD
          have T1 := HD.t
          clear hx e2 H HD hLL
          go_wp2_with fail
          go_wp2_with fail
          refine wp_region_flo [(0, true), (1, true), (2, true), (3, true), (4, true), (5, true), (6, true), (7, true), (8, true), (9, true), (10, true), (11, false)] (fun W => Turns [] w W) (by kernel_rfl) rfl (by kernel_rfl) (by intro c d v a w h; cases d <;> first | (simpa [Exit.then, Exit.inBlock, Act.put] using h) | exact h) (T1) ?_
          have z0 := T1.old f0
          have z1 := T1.old f1
          generalize wr.drew = w3 at *
          refine flo_read _ rfl (fun K hK => ?_)
          go_simp
          first | (refine hK _ ?_) | (refine ⟨fun W hS => ?_, hK _ ?_⟩; · (have x0 := hS.old f0; have x1 := hS.old f1; try go_simp))
          clear hK K
          refine flo_read _ rfl (fun K hK => ?_)
          go_simp
          first | (refine hK _ ?_) | (refine ⟨fun W hS => ?_, hK _ ?_⟩; · (have x0 := hS.old f0; have x1 := hS.old f1; try go_simp))
          clear hK K
          refine flo_read _ rfl (fun K hK => ?_)
          go_simp
          first | (refine hK _ ?_) | (refine ⟨fun W hS => ?_, hK _ ?_⟩; · (have x0 := hS.old f0; have x1 := hS.old f1; try go_simp))
          clear hK K
          refine flo_read _ rfl (fun K hK => ?_)
          go_simp
          first | (refine hK _ ?_) | (refine ⟨fun W hS => ?_, hK _ ?_⟩; · (have x0 := hS.old f0; have x1 := hS.old f1; try go_simp))
          clear hK K
          refine flo_read _ rfl (fun K hK => ?_)
          go_simp
          first | (refine hK _ ?_) | (refine ⟨fun W hS => ?_, hK _ ?_⟩; · (have x0 := hS.old f0; have x1 := hS.old f1; try go_simp))
          clear hK K
          refine flo_read _ rfl (fun K hK => ?_)
          go_simp
          first | (refine hK _ ?_) | (refine ⟨fun W hS => ?_, hK _ ?_⟩; · (have x0 := hS.old f0; have x1 := hS.old f1; try go_simp))
          clear hK K
          refine flo_read _ rfl (fun K hK => ?_)
          go_simp
          first | (refine hK _ ?_) | (refine ⟨fun W hS => ?_, hK _ ?_⟩; · (have x0 := hS.old f0; have x1 := hS.old f1; try go_simp))
          clear hK K
          refine flo_read _ rfl (fun K hK => ?_)
          go_simp
          first | (refine hK _ ?_) | (refine ⟨fun W hS => ?_, hK _ ?_⟩; · (have x0 := hS.old f0; have x1 := hS.old f1; try go_simp))
          clear hK K
          refine flo_read _ rfl (fun K hK => ?_)
          go_simp
          first | (refine hK _ ?_) | (refine ⟨fun W hS => ?_, hK _ ?_⟩; · (have x0 := hS.old f0; have x1 := hS.old f1; try go_simp))
          clear hK K
          refine flo_read _ rfl (fun K hK => ?_)
          go_simp
          first | (refine hK _ ?_) | (refine ⟨fun W hS => ?_, hK _ ?_⟩; · (have x0 := hS.old f0; have x1 := hS.old f1; try go_simp))
          clear hK K
          refine flo_read _ rfl (fun K hK => ?_)
          go_simp
          first | (refine hK _ ?_) | (refine ⟨fun W hS => ?_, hK _ ?_⟩; · (have x0 := hS.old f0; have x1 := hS.old f1; try go_simp))
          clear hK K
          refine flo_alone _ rfl ?_
          go_wp2_with fail
          go_at_call 12
          refine Calls.mono E1.out ?_
          rintro e w4 ⟨rfl, k4⟩
          rw [← hnk] at k4
          have H4 := (HDh.out.call [0, 1] k4).keep [2, 3, 0, 1]
          have T4 := H4.t
          clear k4 HDh E1 T1 z0 z1
          go_wp2_with fail
          refine ⟨fun W => Turns [] w W, fun W h => h, T4, ?_⟩
          refine flo_end ?_
          have HD := H4.drew
          have E2 := Lib.hid (rhear_is rb node span rhv L x y (by omega) w4.drew (HD.got [0, 1]))
          have HDh := Lib.hid HD
          have T5 := HD.t
          clear H4 T4 HD
          go_wp2_with fail
          go_wp2_with fail
          refine wp_region_flo [(0, true), (1, true), (2, true), (3, true), (4, true), (5, true), (6, true), (7, true), (8, true), (9, true), (10, true), (11, false)] (fun W => Turns [] w W) (by kernel_rfl) rfl (by kernel_rfl) (by intro c d v a w h; cases d <;> first | (simpa [Exit.then, Exit.inBlock, Act.put] using h) | exact h) (T5) ?_
          have z0 := T5.old f0
          have z1 := T5.old f1
          generalize w4.drew = w5 at *
          refine flo_read _ rfl (fun K hK => ?_)
          go_simp
          first | (refine hK _ ?_) | (refine ⟨fun W hS => ?_, hK _ ?_⟩; · (have x0 := hS.old f0; have x1 := hS.old f1; try go_simp))
          clear hK K
          refine flo_read _ rfl (fun K hK => ?_)
          go_simp
          first | (refine hK _ ?_) | (refine ⟨fun W hS => ?_, hK _ ?_⟩; · (have x0 := hS.old f0; have x1 := hS.old f1; try go_simp))
          clear hK K
          refine flo_read _ rfl (fun K hK => ?_)
          go_simp
          first | (refine hK _ ?_) | (refine ⟨fun W hS => ?_, hK _ ?_⟩; · (have x0 := hS.old f0; have x1 := hS.old f1; try go_simp))
          clear hK K
          refine flo_read _ rfl (fun K hK => ?_)
          go_simp
          first | (refine hK _ ?_) | (refine ⟨fun W hS => ?_, hK _ ?_⟩; · (have x0 := hS.old f0; have x1 := hS.old f1; try go_simp))
          clear hK K
          refine flo_read _ rfl (fun K hK => ?_)
          go_simp
          first | (refine hK _ ?_) | (refine ⟨fun W hS => ?_, hK _ ?_⟩; · (have x0 := hS.old f0; have x1 := hS.old f1; try go_simp))
          clear hK K
          refine flo_read _ rfl (fun K hK => ?_)
          go_simp
          first | (refine hK _ ?_) | (refine ⟨fun W hS => ?_, hK _ ?_⟩; · (have x0 := hS.old f0; have x1 := hS.old f1; try go_simp))
          clear hK K
          refine flo_read _ rfl (fun K hK => ?_)
          go_simp
          first | (refine hK _ ?_) | (refine ⟨fun W hS => ?_, hK _ ?_⟩; · (have x0 := hS.old f0; have x1 := hS.old f1; try go_simp))
          clear hK K
          refine flo_read _ rfl (fun K hK => ?_)
          go_simp
          first | (refine hK _ ?_) | (refine ⟨fun W hS => ?_, hK _ ?_⟩; · (have x0 := hS.old f0; have x1 := hS.old f1; try go_simp))
          clear hK K
          refine flo_read _ rfl (fun K hK => ?_)
          go_simp
          first | (refine hK _ ?_) | (refine ⟨fun W hS => ?_, hK _ ?_⟩; · (have x0 := hS.old f0; have x1 := hS.old f1; try go_simp))
          clear hK K
          refine flo_read _ rfl (fun K hK => ?_)
          go_simp
          first | (refine hK _ ?_) | (refine ⟨fun W hS => ?_, hK _ ?_⟩; · (have x0 := hS.old f0; have x1 := hS.old f1; try go_simp))
          clear hK K
          refine flo_read _ rfl (fun K hK => ?_)
          go_simp
          first | (refine hK _ ?_) | (refine ⟨fun W hS => ?_, hK _ ?_⟩; · (have x0 := hS.old f0; have x1 := hS.old f1; try go_simp))
          clear hK K
          refine flo_alone _ rfl ?_
          go_wp2_with fail
          go_at_call 13
          refine Calls.mono E2.out ?_
          rintro e w6 ⟨rhv', rfl, k6⟩
          rw [← hnk] at k6
          have H6 := (HDh.out.call [0, 1] k6).keep [2, 3, 0, 1]
          have T6 := H6.t
          clear k6 HDh E2 T5 hnk z0 z1
          go_wp2_with fail
          refine ⟨fun W => Turns [] w W, fun W h => h, T6, ?_⟩
          refine flo_end ?_
          have HD := H6.drew
          have E3 := Lib.hid (heard_is b node span hv L' (by omega) w6.drew (HD.got [0, 1]))
          have bb : w6.drew.cell? ⟨rb, 2, none⟩ = some rhv' := (HD.blk 2 rfl).cell 2
          have HDh := Lib.hid HD
          clear H6 T6 HD f0 f1
          go_wp2_with fail
          go_wp2_with fail
          refine wp_region_flo [(0, true), (2, true), (3, true), (4, true), (5, true), (1, false), (6, false), (7, true)] (fun W => Turns [] w6.drew W) (by kernel_rfl) rfl (by kernel_rfl) (by intro c d v a w h; cases d <;> first | (simpa [Exit.then, Exit.inBlock, Act.put] using h) | exact h) (Turns.refl _ _) ?_
          generalize w6.drew = w7 at *
          refine flo_read _ rfl (fun K hK => ?_)
          go_simp
          first | (refine hK _ ?_) | (refine ⟨fun W hS => ?_, hK _ ?_⟩; · (have x0 := hS.old bb; try go_simp))
          clear hK K
          refine flo_read _ rfl (fun K hK => ?_)
          go_simp
          first | (refine hK _ ?_) | (refine ⟨fun W hS => ?_, hK _ ?_⟩; · (have x0 := hS.old bb; try go_simp))
          clear hK K
          refine flo_read _ rfl (fun K hK => ?_)
          go_simp
          first | (refine hK _ ?_) | (refine ⟨fun W hS => ?_, hK _ ?_⟩; · (have x0 := hS.old bb; try go_simp))
          clear hK K
          refine flo_read _ rfl (fun K hK => ?_)
          go_simp
          first | (refine hK _ ?_) | (refine ⟨fun W hS => ?_, hK _ ?_⟩; · (have x0 := hS.old bb; try go_simp))
          clear hK K
          refine flo_read _ rfl (fun K hK => ?_)
          go_simp
          first | (refine hK _ ?_) | (refine ⟨fun W hS => ?_, hK _ ?_⟩; · (have x0 := hS.old bb; try go_simp))
          clear hK K
          refine flo_alone _ rfl ?_
          go_wp2_with fail
          go_at_call 15
          refine Calls.mono (E3.out) ?_
          rintro e w8 ⟨u, rfl, o8, t8⟩
          go_wp2_with fail
          refine ⟨fun W => Turns [] w8 W, fun W h => t8.trans h, Turns.refl _ _, ?_⟩
          have H8 := HDh.out.turns t8
          have E4 := Lib.hid (same_is w8 u rhv' L' o8.reads (H8.own 3 rfl).reads)
          have H8h := Lib.hid H8
          clear H8 o8 HDh E3 bb t8
          refine flo_alone _ rfl ?_
          go_wp2_with fail
          go_at_call 14
          refine Calls.mono (E4.out) ?_
          rintro e w9 ⟨rfl, t9⟩
          go_wp2_with fail
          refine ⟨fun W => Turns [] w9 W, fun W h => t9.trans h, Turns.refl _ _, ?_⟩
          have H9 := H8h.out.turns t9
          have E5 := Lib.hid (live_is b node span hv L' now (by omega) w9 (H9.got [0, 1]))
          have H9h := Lib.hid H9
          clear E4 H8h t9 H9
          refine flo_read _ rfl (fun K hK => ?_)
          go_simp
          first | (refine hK _ ?_) | (refine ⟨fun W hS => ?_, hK _ ?_⟩; · (skip; try go_simp))
          clear hK K
          refine flo_end ?_
          go_wp2_with fail
          go_at_call 16
          refine Calls.mono (E5.out) ?_
          rintro e w10 ⟨rfl, t10⟩
          have H10 := H9h.out.turns t10
          have E6 := Lib.hid (rlive_is rb node span rhv' L' now (by omega) w10 (H10.got [2, 3]))
          have H10h := Lib.hid H10
          clear E5 H9h t10 H10
          generalize live L' node span now = s at *
          go_wp2_with fail
          go_at_call 17
          refine Calls.mono (E6.out) ?_
          rintro e w11 ⟨rfl, t11⟩
          have H11 := H10h.out.turns t11
          have E7 := Lib.hid (vnext_is b node span hv L' now (by omega) w11 (hTh.out.turns H11.t) (H11.got [0, 1]))
          have H11h := Lib.hid H11
          clear E6 H10h t11 H11
          go_wp2_with fail
          go_at_call 18
          refine Calls.mono (E7.out) ?_
          rintro e w12 ⟨rfl, t12⟩
          have H12 := H11h.out.turns t12
          have E8 := Lib.hid (rvnext_is rb node span rhv' L' now (by omega) w12 (H12.got [2, 3]))
          have H12h := Lib.hid H12
          clear E7 H11h t12 H12
          generalize vnext L' node span now = r at *
          go_wp2_with fail
          go_at_call 19
          refine Calls.mono (E8.out) ?_
          rintro e w13 ⟨rfl, t13⟩
          have H13 := Lib.hid (H12h.out.turns t13)
          clear E8 H12h t13
          go_wp2_with fail
          go_roundw
          case rel => exact ⟨k + 1, hv, rhv', by omega, by go_num, by rw [hLL1]; exact H13.out⟩
          case measure => simp [RowKit.intOf]; omega
        · obtain rfl : k = l.length := by omega
          have g2 : decide ((l.length : Int) < (l.length : Int)) = false := by simp
          have T2 := H.t
          have Tb2 := Lib.hid (hTh.out.turns T2)
          clear H hlen hnx
          go_wp2_with fail
          go_at_call 12
          refine Calls.mono (hear_nil 0 1 _) ?_
          rintro e w3 ⟨rfl, t3⟩
          have Tb3 := Tb2.out.turns t3
          have A3 := Lib.hid (alive_is _ Tb3)
          clear Tb3
          go_wp2_with fail
          go_at_call 9
          refine Calls.mono (A3.out) ?_
          rintro e w4 ⟨rfl, t4⟩
          go_wp2_with fail
          go_at_call 16
          refine Calls.mono (live_nil 1 _) ?_
          rintro e w5 ⟨rfl, t5⟩
          go_wp2_with fail
          go_at_call 18
          refine Calls.mono (vnext_nil 1 _) ?_
          rintro e w6 ⟨rfl, t6⟩
          go_wp2_with fail
          go_at_call 15
          refine Calls.mono (heard_nil _) ?_
          rintro e w7 ⟨rfl, t7⟩
          have hX := hXh.out _ (((((T2.trans t3).trans t4).trans t5).trans t6).trans t7)
          go_wp2_with fail
          exact hX
    · have V0 := Lib.hid (fun W => vnew_no n node span now0 h2 W)
      have R0 := Lib.hid (fun W => rvnew_no n node span now0 h2 W)
      have c0 : World.cell? (w.alloc (.cells #[.int .i64 n, .int .i64 node, .int .i64 span, .int .i64 now0] 22)) ⟨w.heap.size, 0, none⟩ = some _ := (b0).cell 0
      have c1 : World.cell? (w.alloc (.cells #[.int .i64 n, .int .i64 node, .int .i64 span, .int .i64 now0] 22)) ⟨w.heap.size, 1, none⟩ = some _ := (b0).cell 1
      have c2 : World.cell? (w.alloc (.cells #[.int .i64 n, .int .i64 node, .int .i64 span, .int .i64 now0] 22)) ⟨w.heap.size, 2, none⟩ = some _ := (b0).cell 2
      have c3 : World.cell? (w.alloc (.cells #[.int .i64 n, .int .i64 node, .int .i64 span, .int .i64 now0] 22)) ⟨w.heap.size, 3, none⟩ = some _ := (b0).cell 3
      clear h1 h2
      go_enter Tryd.func3, Tryd.ntmps3
      go_wp2_with fail
      go_at_call 10
      refine Calls.mono (V0.out _) ?_
      rintro e w1 ⟨rfl, t1⟩
      have T1 := T0.trans t1
      have y0 := t1.old c0
      have y1 := t1.old c1
      have y2 := t1.old c2
      have y3 := t1.old c3
      clear c0 c1 c2 c3 V0 b0 T0 t1
      go_wp2_with fail
      go_at_call 11
      refine Calls.mono (R0.out _) ?_
      rintro e w2 ⟨rfl, t2⟩
      have T2 := T1.trans t2
      clear T1 t2 y0 y1 y2 y3
      go_wp2_with fail
      go_loopw [11] (fun v11 wr => v11 = .int .i64 0 ∧ wr = w2) (fun v11 _ => 0)
      case atStart => exact ⟨rfl, rfl⟩
      case round =>
        obtain ⟨rfl, rfl⟩ := hrel
        have Tb2 := Lib.hid (hTh.out.turns T2)
        clear hlh
        go_wp2_with fail
        all_goals
          go_at_call 12
          refine Calls.mono (hear_nil 0 1 _) ?_
          rintro e w3 ⟨rfl, t3⟩
          have Tb3 := Tb2.out.turns t3
          have A3 := Lib.hid (alive_is _ Tb3)
          clear Tb3
          go_wp2_with fail
          go_at_call 9
          refine Calls.mono (A3.out) ?_
          rintro e w4 ⟨rfl, t4⟩
          go_wp2_with fail
          go_at_call 16
          refine Calls.mono (live_nil 1 _) ?_
          rintro e w5 ⟨rfl, t5⟩
          go_wp2_with fail
          go_at_call 18
          refine Calls.mono (vnext_nil 1 _) ?_
          rintro e w6 ⟨rfl, t6⟩
          go_wp2_with fail
          go_at_call 15
          refine Calls.mono (heard_nil _) ?_
          rintro e w7 ⟨rfl, t7⟩
          have hX := hXh.out _ (((((T2.trans t3).trans t4).trans t5).trans t6).trans t7)
          go_wp2_with fail
          exact hX
theorem nestTwo : Nest Tryd.prog 33 [kInt .i64, kInt .i64] := nArray (n := 2) Tryd.underlying33 (nInt Tryd.underlying3 (by kernel_rfl)) (by kernel_rfl)
theorem plays_opened {H : Type} (enc : TypeId × Value → H) (W : World) (hT : Tab W) {base : Nat} {v0 v1 v2 : Value} {d0 d1 d2 : DataW H} {p0 p1 p2 : List MemPlace} (h0 : DataW.Trod enc Tryd.prog W 0 (fun _ => true) true 22 v0 d0 p0)
    (h1 : DataW.Trod enc Tryd.prog W 0 (fun _ => true) true 23 v1 d1 p1) (h2 : DataW.Trod enc Tryd.prog W 0 (fun _ => true) true 3 v2 d2 p2)
    (o0 : Value.okWide Tryd.prog W .any base 22 v0) (o1 : Value.okWide Tryd.prog W .any base 23 v1) (o2 : Value.okWide Tryd.prog W .any base 3 v2) :
    Calls Tryd.prog 3 #[v0, v1, v2] W fun e w' => e = .returned (.bool true) ∧ Below W.heap.size W w' := by
  obtain ⟨l, hl, _⟩ := (arg_slice Tryd.underlying23 nestTwo (by kernel_rfl) h1 o1).list (f := fun p : Int × Int => [.int .i64 p.1, .int .i64 p.2]) (p := fun _ => True) (fun r hr => by
    obtain ⟨v0, r0, rfl, ⟨n0, rfl, w0⟩, k0⟩ := hr.out
    obtain ⟨v1, r1, rfl, ⟨n1, rfl, w1⟩, k1⟩ := k0.out
    obtain rfl := k1.none
    exact ⟨(n0, n1), rfl, trivial⟩)
  obtain ⟨cs, rfl, kf⟩ := arg_array Tryd.underlying22 (nArray Tryd.underlying22 (nInt Tryd.underlying3 (by kernel_rfl)) (by kernel_rfl)) h0 o0
  obtain ⟨_, r0, rfl, ⟨n0, rfl, w0⟩, k0⟩ := (show Kds W [kInt .i64, kInt .i64, kInt .i64, kInt .i64] cs from kf).out
  obtain ⟨_, r1, rfl, ⟨n1, rfl, w1⟩, k1⟩ := k0.out
  obtain ⟨_, r2, rfl, ⟨n2, rfl, w2⟩, k2⟩ := k1.out
  obtain ⟨_, r3, rfl, ⟨n3, rfl, w3⟩, k3⟩ := k2.out
  obtain rfl := k3.none
  obtain ⟨m, rfl, _⟩ := arg_int Tryd.underlying3 (by kernel_rfl) h2 o2
  exact (plays_is n0 n1 n2 n3 v1 l m W hT hl).mono fun e w' ⟨he, t⟩ => ⟨he, t.isBelow⟩
end Go.Proofs.YtmaielpfeajelaaDoor.Yd
