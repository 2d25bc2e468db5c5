/- RelayPlays: the law's walk. -/
import Derived.Test.YtohokckpheljbaaGm
import Derived.Test.YtohokckpheljbaaGl
set_option linter.unusedVariables false
set_option linter.unusedSimpArgs false
set_option maxRecDepth 100000
namespace Go.Proofs.Ytohokckpheljbaa.Gn
open Go.RowKit Go.MapKept Go.Shelf Hm Hs Hf Hx Hy Hv Fa Fb Ff Fg Fi Fj Fq Fr_ Ga Gb Gc Gd Ge Gf Gg Gh Gi Gj Gk Gl Gm
theorem stepN_le {o : Option Fr} {n : Int} {a : Gk.Act} (h : 0 ≤ n) : 0 ≤ stepN o n a ∧ stepN o n a ≤ n + 1 := by
  unfold stepN heldN
  split
  · cases o <;> simp <;> omega
  · omega
abbrev zR : Array Value := #[.pointer none, .int .i64 0]
abbrev zD : Array Value := #[.slice none 0 0, .int .i64 0]
set_option maxHeartbeats 8000000 in
theorem plays_is (w : World) (v : Value) (l : List Gk.Act) (h : RdS 14 w v (l.map Gk.Act.cells)) (hA : Acts w l) : Calls Try.prog 3 #[v] w fun e w' => e = .returned (.bool true) ∧ Turns [] w w' := by
  obtain ⟨X, hX⟩ : ∃ X : Ending → World → Prop, X = fun e w' => e = .returned (.bool true) ∧ Turns [] w w' := ⟨_, rfl⟩
  rw [← hX]
  have hXh : Hid (∀ w', Turns [] w w' → X (.returned (.bool true)) w') := Lib.hid (fun w' h => by rw [hX]; exact ⟨rfl, h⟩)
  clear hX
  have Fi := Lib.hid (fitsL_is w v l h hA)
  obtain ⟨A, c, rfl, hlc, hcm⟩ := h.form
  rw [List.length_map] at hlc Fi ⊢
  have hh := Lib.hid h
  have hAh := Lib.hid hA
  clear h hA
  cases hq : fitsL l with
  | false =>
    rw [hq] at Fi
    clear hq
    go_enter Try.func3, Try.ntmps3
    go_wp2_with fail
    go_at_call 7
    refine Calls.mono (Fi.out) ?_
    rintro e w1 ⟨rfl, t1⟩
    go_wp2_with fail
    go_at_call 8
    refine Calls.mono (alive_is _) ?_
    rintro e w2 ⟨rfl, t2⟩
    have hX := hXh.out _ (t1.trans t2)
    go_wp2_with fail
    exact hX
  | true =>
    rw [hq] at Fi
    obtain ⟨hl60, hfit⟩ := fitsL_eq hq
    have hfith := Lib.hid hfit
    clear hq hfit
    go_enter Try.func3, Try.ntmps3
    go_wp2_with fail
    go_at_call 7
    refine Calls.mono (Fi.out) ?_
    rintro e w1 ⟨rfl, t1⟩
    go_wp2_with fail
    go_at_call 9
    refine Calls.mono (new_is _) ?_
    rintro e w2 ⟨rfl, rfl⟩
    have hBo : Both (w1.heap.size + 2) w ((w1.alloc (.cells zR 74)).alloc (.cells zD 30)) w1.heap.size (w1.heap.size + 1) 0 none :=
      ⟨.none (by omega) ((Blk.new w1 zR _).alloc _), .none (by omega) (by have := Blk.new (w1.alloc (.cells zR 74)) zD 30; rw [World.size_alloc] at this; exact this), by omega, (t1.alloc _).alloc _, t1.size, by have := t1.size; omega, by simp⟩
    have hBoh := Lib.hid hBo
    clear Fi t1 hBo
    go_upto_region 6 with fail
    generalize (w1.alloc (.cells zR 74)).alloc (.cells zD 30) = w3 at *
    generalize w1.heap.size + 2 = m at *
    generalize w1.heap.size + 1 = d at *
    generalize w1.heap.size = b at *
    go_wp2_with fail
    go_loopw [6] (fun v6 wr => ∃ (k : Nat) (n : Int) (o : Option Fr), k ≤ l.length ∧ v6 = .int .i64 k ∧ 0 ≤ n ∧ n ≤ k ∧ Both m w wr b d n o) (fun v6 _ => l.length - (RowKit.intOf v6).toNat)
    case atStart => exact ⟨0, 0, none, by omega, rfl, by omega, by omega, hBoh.out⟩
    case round =>
      clear hBoh
      obtain ⟨k, n, o, hk, rfl, hn0, hnk, hBo⟩ := hrel
      by_cases hlt : k < l.length
      · have g1 : decide ((k : Int) < (l.length : Int)) = true := decide_eq_true (by omega)
        have g1b : decide (k < l.length) = true := decide_eq_true hlt
        obtain ⟨x, hx⟩ : ∃ x, l[k]? = some x := ⟨_, List.getElem?_eq_getElem hlt⟩
        obtain ⟨ad, c', hv, LX⟩ := acells_at hh.out hx
        injection hv with e1 e2 e3
        subst e1 e3
        have ht := hAh.out x (List.mem_of_getElem? hx)
        have S1 := Lib.hid (step_is m w wr b d n o x hBo (by omega) ht (hfith.out x (List.mem_of_getElem? hx)))
        have hsn := stepN_le (o := o) (a := x) hn0
        obtain ⟨A1, c1, A3, c3, hsv, hrv⟩ := frc_form ht
        obtain ⟨x0, x1, x2, x3, x4, x5, x6, x7, x8, x9, x10, x11, x12, x13⟩ := LX.turns hBo.t
        unfold Gk.Act.v at S1
        rw [hsv] at x9
        rw [hrv] at x11
        rw [hsv, hrv] at S1
        generalize stepN o n x = n2 at *
        generalize stepO o x = o2 at *
        clear hx LX ht e2 hsv hrv hBo
        go_wp2_with fail
        go_at_call 10
        refine Calls.mono (S1.out) ?_
        rintro e w4 ⟨rfl, hBo⟩
        clear x0 x1 x2 x3 x4 x5 x6 x7 x8 x9 x10 x11 x12 x13 S1
        have hBo5 := hBo.turns (Turns.refl [] w4).drew
        have hBoh := Lib.hid hBo5
        clear hBo
        go_wp2_with fail
        go_wp2_with fail
        refine wp_region_flo [(0, true), (1, true), (2, true), (3, true), (5, true), (6, true), (7, true), (8, true), (4, false), (9, true), (10, true)] (fun W => Turns [] w4.drew W) (by kernel_rfl) rfl (by kernel_rfl) (by intro c d v a w h; cases d <;> first | (simpa [Exit.then, Exit.inBlock, Act.put] using h) | exact h) (Turns.refl _ _) ?_
        generalize w4.drew = w5 at *
        have d1 := hBo5.doc.cnt
        clear hBo5
        refine flo_read _ rfl (fun K hK => ?_)
        go_simp
        first | (refine hK _ ?_) | (refine ⟨fun W hS => ?_, hK _ ?_⟩; · (have D1 := hS.old d1; try go_simp))
        clear hK K
        refine flo_read _ rfl (fun K hK => ?_)
        go_simp
        first | (refine hK _ ?_) | (refine ⟨fun W hS => ?_, hK _ ?_⟩; · (have D1 := hS.old d1; try go_simp))
        clear hK K
        refine flo_read _ rfl (fun K hK => ?_)
        go_simp
        first | (refine hK _ ?_) | (refine ⟨fun W hS => ?_, hK _ ?_⟩; · (have D1 := hS.old d1; try go_simp))
        clear hK K
        refine flo_read _ rfl (fun K hK => ?_)
        go_simp
        first | (refine hK _ ?_) | (refine ⟨fun W hS => ?_, hK _ ?_⟩; · (have D1 := hS.old d1; try go_simp))
        clear hK K
        refine flo_read _ rfl (fun K hK => ?_)
        go_simp
        first | (refine hK _ ?_) | (refine ⟨fun W hS => ?_, hK _ ?_⟩; · (have D1 := hS.old d1; try go_simp))
        clear hK K
        refine flo_read _ rfl (fun K hK => ?_)
        go_simp
        first | (refine hK _ ?_) | (refine ⟨fun W hS => ?_, hK _ ?_⟩; · (have D1 := hS.old d1; try go_simp))
        clear hK K
        refine flo_read _ rfl (fun K hK => ?_)
        go_simp
        first | (refine hK _ ?_) | (refine ⟨fun W hS => ?_, hK _ ?_⟩; · (have D1 := hS.old d1; try go_simp))
        clear hK K
        refine flo_read _ rfl (fun K hK => ?_)
        go_simp
        first | (refine hK _ ?_) | (refine ⟨fun W hS => ?_, hK _ ?_⟩; · (have D1 := hS.old d1; try go_simp))
        clear hK K
        refine flo_alone _ rfl ?_
        go_wp2_with fail
        go_at_call 11
        refine Calls.mono (sent_is m _ b n2 o2 hBoh.out.r) ?_
        rintro e w6 ⟨rfl, t6⟩
        go_wp2_with fail
        refine ⟨fun W => Turns [] w6 W, fun W h => t6.trans h, Turns.refl _ _, ?_⟩
        refine flo_read _ rfl (fun K hK => ?_)
        go_simp
        first | (refine hK _ ?_) | (refine ⟨fun W hS => ?_, hK _ ?_⟩; · (skip; try go_simp))
        clear hK K
        refine flo_read _ rfl (fun K hK => ?_)
        go_simp
        first | (refine hK _ ?_) | (refine ⟨fun W hS => ?_, hK _ ?_⟩; · (skip; try go_simp))
        clear hK K
        refine flo_end ?_
        have hB6 := Lib.hid (hBoh.out.turns t6)
        clear d1 hBoh
        go_wp2_with fail
        go_roundw
        case rel => exact ⟨k + 1, n2, o2, by omega, by go_num, by omega, by omega, hB6.out⟩
        case measure => simp [RowKit.intOf]; omega
      · obtain rfl : k = l.length := by omega
        have g1 : decide ((l.length : Int) < (l.length : Int)) = false := by simp
        have T := hBo.t
        clear hBo hlt hk
        go_wp2_with fail
        go_at_call 12
        refine Calls.mono (held_nil _) ?_
        rintro e w4 ⟨rfl, t4⟩
        have T4 := (T.trans t4).alloc (.cells zeroF 41)
        unfold frv Fr.zero Tok.zero
        go_upto_region 14 with fail
        generalize w4.alloc (.cells zeroF 41) = w5 at *
        go_wp2_with fail
        go_at_call 8
        refine Calls.mono (alive_is _) ?_
        rintro e w6 ⟨rfl, t6⟩
        go_wp2_with fail
        go_at_call 13
        refine Calls.mono (hold_nil _ Fr.zero (.slice none 0 0) (.slice none 0 0) (tokR_zero _)) ?_
        rintro e w7 ⟨rfl, t7⟩
        go_wp2_with fail
        go_at_call 14
        refine Calls.mono (ack_nil _ Fr.zero (.slice none 0 0) (.slice none 0 0) (tokR_zero _)) ?_
        rintro e w8 ⟨rfl, t8⟩
        go_wp2_with fail
        go_at_call 15
        refine Calls.mono (drop_nil _ 9 0) ?_
        rintro e w9 ⟨rfl, t9⟩
        go_wp2_with fail
        go_at_call 11
        refine Calls.mono (sent_nil _) ?_
        rintro e wa ⟨rfl, ta⟩
        have hX := hXh.out _ (((((T4.trans t6).trans t7).trans t8).trans t9).trans ta)
        go_wp2_with fail
        exact hX
end Go.Proofs.Ytohokckpheljbaa.Gn
