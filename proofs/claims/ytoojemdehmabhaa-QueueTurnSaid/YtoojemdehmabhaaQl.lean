/- slices.SortStableFunc of the queue's items by their class (fewer than 20). -/
import Derived.Test.YtoojemdehmabhaaQk
import Derived.Test.YtoojemdehmabhaaQd
set_option linter.unusedVariables false
set_option linter.unusedSimpArgs false
set_option maxRecDepth 100000
namespace Go.Proofs.Ytoojemdehmabhaa.Ql
open Go.RowKit Go.MapKept Go.Shelf Hm Hs Hf Hg Hx Hy Hv Qa Qb Qc Qd Qk
theorem cmp_is (x y : It) (hx : 0 ≤ x.cls ∧ x.cls ≤ 2) (hy : 0 ≤ y.cls ∧ y.cls ≤ 2) (w : World) : Calls Try.prog 85 #[.agg #[.int .i64 x.id, .int .i64 x.key, .int .i64 x.cost, .int .i64 x.cls, .int .i64 x.until_], .agg #[.int .i64 y.id, .int .i64 y.key, .int .i64 y.cost, .int .i64 y.cls, .int .i64 y.until_]] w fun e w' => e = .returned (.int .i64 (x.cls - y.cls)) ∧ Turns [] w w' := by
  have T0 := ((Turns.refl [] w).alloc (.cells #[.int .i64 x.id, .int .i64 x.key, .int .i64 x.cost, .int .i64 x.cls, .int .i64 x.until_] 34)).alloc (.cells #[.int .i64 y.id, .int .i64 y.key, .int .i64 y.cost, .int .i64 y.cls, .int .i64 y.until_] 34)
  have g1 : IntKind.i64.wrap (x.cls - y.cls) = x.cls - y.cls := IntWalk.i64_in _ (by omega)
  clear hx hy
  go_enter Try.func85, Try.ntmps85
  go_wp2_with fail
  go_ret
  exact ⟨rfl, T0⟩
def inv (L : List It) (i : Nat) : List It := stab (L.take i) ++ L.drop i
theorem inv_one {L : List It} (hL : Cls L) : inv L 1 = L := by
  cases L with
  | nil => rfl
  | cons x r =>
    have h := hL x (by simp)
    unfold inv stab
    simp only [List.take_succ_cons, List.take_zero, List.drop_succ_cons, List.drop_zero]
    rcases (show x.cls = 0 ∨ x.cls = 1 ∨ x.cls = 2 by omega) with e | e | e <;> simp [List.filter_cons, e]
set_option maxHeartbeats 4000000 in
theorem insort_is (w : World) (v : Value) (L : List It) (h : OwnS 34 5 w v (L.map It.cells)) (hn : L.length < 20) (hL : Cls L) :
    Calls Try.prog 143 #[v, .int .i64 0, .int .i64 L.length, .func (.func 85) #[] #[]] w fun e w' => e = .returned (.tuple #[]) ∧ OwnS 34 5 w' v ((stab L).map It.cells) ∧ Turns v.ownBlock.toList w w' := by
  have H0 : Sep v.ownBlock.toList w [tIt v L] w := by simpa [fps, tIt, tOwn] using (Got.one (T := tIt v L) h).sep
  generalize hFF : v.ownBlock.toList = FF at H0 ⊢
  obtain ⟨A, c, rfl, hcc⟩ := h.form
  clear hcc hFF h
  rw [List.length_map] at H0 ⊢
  have hLh := Lib.hid hL
  clear hL
  go_enter Try.func143, Try.ntmps143
  go_wp2_with fail
  go_loopw [8] (fun v8 wr => ∃ (i : Nat), 1 ≤ i ∧ (i ≤ L.length ∨ i = 1) ∧ v8 = .int .i64 i ∧ Sep FF w [tIt (.slice A L.length c) (inv L i)] wr) (fun v8 _ => L.length - (RowKit.intOf v8).toNat)
  case atStart => exact ⟨1, by omega, by omega, rfl, by rw [inv_one hLh.out]; exact H0⟩
  case round =>
    clear H0
    obtain ⟨i, hi1, hi2, rfl, H⟩ := hrel
    by_cases hlt : i < L.length
    · have g1 : decide ((i : Int) < (L.length : Int)) = true := decide_eq_true (by omega)
      have g1b : decide (i < L.length) = true := decide_eq_true hlt
      obtain ⟨x, hx⟩ : ∃ x, L[i]? = some x := ⟨_, List.getElem?_eq_getElem hlt⟩
      have hxc := hLh.out x (List.mem_of_getElem? hx)
      have hdr : L.drop i = x :: L.drop (i + 1) := Qa.drop_cons hx
      have htk := take_next hx
      have hcls : Cls (L.take i) := fun y hy => hLh.out y (List.mem_of_mem_take hy)
      have hpl : (stab (L.take i)).length = i := by rw [stab_len hcls, List.length_take]; omega
      have hst := In.start (stab (L.take i)) x (L.drop (i + 1))
      rw [hpl, ← hdr] at hst
      have hdone := Lib.hid (fun j C (h : In (stab (L.take i)) x (L.drop (i + 1)) j C) hd => (In.done h hxc hd : C = stab (L.take i ++ [x]) ++ L.drop (i + 1)))
      rw [← htk] at hdone
      have hpm : ∀ y ∈ stab (L.take i), 0 ≤ y.cls ∧ y.cls ≤ 2 := fun y hy => hcls y ((stab_mem hcls y).1 hy)
      have hinv1 : Hid (inv L (i + 1) = stab (L.take (i + 1)) ++ L.drop (i + 1)) := Lib.hid rfl
      have hRl : (L.drop (i + 1)).length = L.length - (i + 1) := by rw [List.length_drop]
      unfold inv at H
      generalize stab (L.take (i + 1)) = P1 at *
      generalize stab (L.take i) = P at *
      generalize L.drop (i + 1) = R at *
      have hsth := Lib.hid hst
      have hpmh := Lib.hid hpm
      have hHh := Lib.hid H
      clear hst hdr htk hcls hx hpm H
      rw [show P ++ L.drop i = P ++ L.drop i from rfl] at hHh
      go_wp2_with fail
      go_loopw [9] (fun v9 wr => ∃ (j : Nat) (C : List It), j ≤ i ∧ v9 = .int .i64 j ∧ In P x R j C ∧ Sep FF w [tIt (.slice A L.length c) C] wr) (fun v9 _ => (RowKit.intOf v9).toNat)
      case atStart => exact ⟨i, _, by omega, rfl, hsth.out, hHh.out⟩
      case round =>
        clear hHh hsth
        obtain ⟨j, C, hj, rfl, hIn, H⟩ := hrel
        have hCl : C.length = L.length := by rw [hIn.len, hpl, hRl]; omega
        have hInh := Lib.hid hIn
        by_cases hj0 : j = 0
        · have g2 : decide ((j : Int) > 0) = false := decide_eq_false (by omega)
          have g2b : decide (0 < j) = false := decide_eq_false (by omega)
          have hC := hdone.out j C hIn (fun k y e _ => by omega)
          have hHh := Lib.hid H.drew
          clear hIn H
          go_wp2_with fail
          go_wp2_with fail
          refine wp_region_flo [(0, true), (1, true), (2, true), (3, true), (4, true), (5, true), (6, true), (7, true), (8, true), (9, true), (10, true), (11, true), (12, true), (13, true), (14, false), (15, true), (16, true)] (fun W => Turns [] wr.drew W) (by kernel_rfl) rfl (by kernel_rfl) (by intro c d v a w h; cases d <;> first | (simpa [Exit.then, Exit.inBlock, Act.put] using h) | exact h) (Turns.refl _ _) ?_
          generalize wr.drew = w3 at *
          refine flo_read _ rfl (fun K hK => ?_)
          go_simp
          first | (refine hK _ ?_) | (refine ⟨fun W hS => ?_, hK _ ?_⟩; · (skip; try go_simp))
          clear hK K
          refine flo_read _ rfl (fun K hK => ?_)
          go_simp
          first | (refine hK _ ?_) | (refine ⟨fun W hS => ?_, hK _ ?_⟩; · (skip; try go_simp))
          clear hK K
          refine flo_read _ rfl (fun K hK => ?_)
          go_simp
          first | (refine hK _ ?_) | (refine ⟨fun W hS => ?_, hK _ ?_⟩; · (skip; try go_simp))
          clear hK K
          refine flo_read _ rfl (fun K hK => ?_)
          go_simp
          first | (refine hK _ ?_) | (refine ⟨fun W hS => ?_, hK _ ?_⟩; · (skip; try go_simp))
          clear hK K
          refine flo_read _ rfl (fun K hK => ?_)
          go_simp
          first | (refine hK _ ?_) | (refine ⟨fun W hS => ?_, hK _ ?_⟩; · (skip; try go_simp))
          clear hK K
          refine flo_read _ rfl (fun K hK => ?_)
          go_simp
          first | (refine hK _ ?_) | (refine ⟨fun W hS => ?_, hK _ ?_⟩; · (skip; try go_simp))
          clear hK K
          refine flo_read _ rfl (fun K hK => ?_)
          go_simp
          first | (refine hK _ ?_) | (refine ⟨fun W hS => ?_, hK _ ?_⟩; · (skip; try go_simp))
          clear hK K
          refine flo_read _ rfl (fun K hK => ?_)
          go_simp
          first | (refine hK _ ?_) | (refine ⟨fun W hS => ?_, hK _ ?_⟩; · (skip; try go_simp))
          clear hK K
          refine flo_read _ rfl (fun K hK => ?_)
          go_simp
          first | (refine hK _ ?_) | (refine ⟨fun W hS => ?_, hK _ ?_⟩; · (skip; try go_simp))
          clear hK K
          refine flo_read _ rfl (fun K hK => ?_)
          go_simp
          first | (refine hK _ ?_) | (refine ⟨fun W hS => ?_, hK _ ?_⟩; · (skip; try go_simp))
          clear hK K
          refine flo_read _ rfl (fun K hK => ?_)
          go_simp
          first | (refine hK _ ?_) | (refine ⟨fun W hS => ?_, hK _ ?_⟩; · (skip; try go_simp))
          clear hK K
          refine flo_read _ rfl (fun K hK => ?_)
          go_simp
          first | (refine hK _ ?_) | (refine ⟨fun W hS => ?_, hK _ ?_⟩; · (skip; try go_simp))
          clear hK K
          refine flo_read _ rfl (fun K hK => ?_)
          go_simp
          first | (refine hK _ ?_) | (refine ⟨fun W hS => ?_, hK _ ?_⟩; · (skip; try go_simp))
          clear hK K
          refine flo_read _ rfl (fun K hK => ?_)
          go_simp
          first | (refine hK _ ?_) | (refine ⟨fun W hS => ?_, hK _ ?_⟩; · (skip; try go_simp))
          clear hK K
          refine flo_alone _ rfl ?_
          go_wp2_with fail
          refine ⟨fun W => Turns [] w3 W, fun W h => h, Turns.refl _ _, ?_⟩
          refine flo_read _ rfl (fun K hK => ?_)
          go_simp
          first | (refine hK _ ?_) | (refine ⟨fun W hS => ?_, hK _ ?_⟩; · (skip; try go_simp))
          clear hK K
          refine flo_read _ rfl (fun K hK => ?_)
          go_simp
          first | (refine hK _ ?_) | (refine ⟨fun W hS => ?_, hK _ ?_⟩; · (skip; try go_simp))
          clear hK K
          refine flo_end ?_
          go_wp2_with fail
          go_roundw
          case rel => exact ⟨i + 1, by omega, by omega, by go_num, by rw [hinv1.out, ← hC]; exact hHh.out⟩
          case measure => simp [RowKit.intOf]; omega
        · obtain ⟨k, hk⟩ : ∃ k, j = k + 1 := ⟨j - 1, by omega⟩
          have g2 : decide ((j : Int) > 0) = true := decide_eq_true (by omega)
          have g2b : decide (0 < j) = true := decide_eq_true (by omega)
          have w1 : IntKind.i64.wrap ((j : Int) - 1) = (k : Int) := by rw [IntWalk.i64_in _ (by omega)]; omega
          have w2 : IntKind.i64.wrap (k : Int) = (k : Int) := IntWalk.i64_in _ (by omega)
          have w3 : (j : Int) - 1 = (k : Int) := by omega
          have hkP : k < P.length := by omega
          obtain ⟨y, hy⟩ : ∃ y, P[k]? = some y := ⟨_, List.getElem?_eq_getElem hkP⟩
          have hyc := hpmh.out y (List.mem_of_getElem? hy)
          have hhere := hIn.here
          have hah : C[k]? = some y := by subst hk; exact hIn.ahead hy
          obtain ⟨ad, c', hv, LX⟩ := icells_at (H.own 0 rfl).reads hhere
          obtain ⟨ad2, c2, hv2, LY⟩ := icells_at (H.own 0 rfl).reads hah
          rw [hCl] at hv hv2
          injection hv with e1 e2 e3
          subst e1 e3
          injection hv2 with e4 e5 e6
          injection e4 with e4
          subst e4
          have hjl : j < L.length := by omega
          have hkl : k < L.length := by omega
          have hyh := Lib.hid hy
          have hCmp := Lib.hid (fun w => cmp_is x y hxc hyc w)
          have hjk := Lib.hid hk
          have hHh := Lib.hid H
          have LX3 : ICells wr.drew ad (j * 5) x := LX.turns (Turns.refl [] wr).drew
          have LY3 : ICells wr.drew ad (k * 5) y := LY.turns (Turns.refl [] wr).drew
          clear hIn e2 e5 e6 hhere hah hy LX LY H hk hyc
          have hHd := Lib.hid hHh.out.drew
          clear hHh
          by_cases hlt2 : x.cls < y.cls
          · have q1 : decide (x.cls - y.cls < 0) = true := decide_eq_true (by omega)
            have hlt2h := Lib.hid hlt2
            clear hlt2
            go_wp2_with fail
            go_wp2_with fail
            refine wp_region_flo [(0, true), (1, true), (2, true), (3, true), (4, true), (5, true), (6, true), (7, true), (8, true), (9, true), (10, true), (11, true), (12, true), (13, true), (14, false), (15, true), (16, true)] (fun W => Turns [] wr.drew W) (by kernel_rfl) rfl (by kernel_rfl) (by intro c d v a w h; cases d <;> first | (simpa [Exit.then, Exit.inBlock, Act.put] using h) | exact h) (Turns.refl _ _) ?_
            generalize wr.drew = w4 at *
            obtain ⟨x0, x1, x2, x3, x4⟩ := LX3
            obtain ⟨y0, y1, y2, y3, y4⟩ := LY3
            refine flo_read _ rfl (fun K hK => ?_)
            go_simp
            first | (refine hK _ ?_) | (refine ⟨fun W hS => ?_, hK _ ?_⟩; · (have X0 := hS.old x0; have X1 := hS.old x1; have X2 := hS.old x2; have X3 := hS.old x3; have X4 := hS.old x4; have Y0 := hS.old y0; have Y1 := hS.old y1; have Y2 := hS.old y2; have Y3 := hS.old y3; have Y4 := hS.old y4; try go_simp))
            clear hK K
            refine flo_read _ rfl (fun K hK => ?_)
            go_simp
            first | (refine hK _ ?_) | (refine ⟨fun W hS => ?_, hK _ ?_⟩; · (have X0 := hS.old x0; have X1 := hS.old x1; have X2 := hS.old x2; have X3 := hS.old x3; have X4 := hS.old x4; have Y0 := hS.old y0; have Y1 := hS.old y1; have Y2 := hS.old y2; have Y3 := hS.old y3; have Y4 := hS.old y4; try go_simp))
            clear hK K
            refine flo_read _ rfl (fun K hK => ?_)
            go_simp
            first | (refine hK _ ?_) | (refine ⟨fun W hS => ?_, hK _ ?_⟩; · (have X0 := hS.old x0; have X1 := hS.old x1; have X2 := hS.old x2; have X3 := hS.old x3; have X4 := hS.old x4; have Y0 := hS.old y0; have Y1 := hS.old y1; have Y2 := hS.old y2; have Y3 := hS.old y3; have Y4 := hS.old y4; try go_simp))
            clear hK K
            refine flo_read _ rfl (fun K hK => ?_)
            go_simp
            first | (refine hK _ ?_) | (refine ⟨fun W hS => ?_, hK _ ?_⟩; · (have X0 := hS.old x0; have X1 := hS.old x1; have X2 := hS.old x2; have X3 := hS.old x3; have X4 := hS.old x4; have Y0 := hS.old y0; have Y1 := hS.old y1; have Y2 := hS.old y2; have Y3 := hS.old y3; have Y4 := hS.old y4; try go_simp))
            clear hK K
            refine flo_read _ rfl (fun K hK => ?_)
            go_simp
            first | (refine hK _ ?_) | (refine ⟨fun W hS => ?_, hK _ ?_⟩; · (have X0 := hS.old x0; have X1 := hS.old x1; have X2 := hS.old x2; have X3 := hS.old x3; have X4 := hS.old x4; have Y0 := hS.old y0; have Y1 := hS.old y1; have Y2 := hS.old y2; have Y3 := hS.old y3; have Y4 := hS.old y4; try go_simp))
            clear hK K
            refine flo_read _ rfl (fun K hK => ?_)
            go_simp
            first | (refine hK _ ?_) | (refine ⟨fun W hS => ?_, hK _ ?_⟩; · (have X0 := hS.old x0; have X1 := hS.old x1; have X2 := hS.old x2; have X3 := hS.old x3; have X4 := hS.old x4; have Y0 := hS.old y0; have Y1 := hS.old y1; have Y2 := hS.old y2; have Y3 := hS.old y3; have Y4 := hS.old y4; try go_simp))
            clear hK K
            refine flo_read _ rfl (fun K hK => ?_)
            go_simp
            first | (refine hK _ ?_) | (refine ⟨fun W hS => ?_, hK _ ?_⟩; · (have X0 := hS.old x0; have X1 := hS.old x1; have X2 := hS.old x2; have X3 := hS.old x3; have X4 := hS.old x4; have Y0 := hS.old y0; have Y1 := hS.old y1; have Y2 := hS.old y2; have Y3 := hS.old y3; have Y4 := hS.old y4; try go_simp))
            clear hK K
            refine flo_read _ rfl (fun K hK => ?_)
            go_simp
            first | (refine hK _ ?_) | (refine ⟨fun W hS => ?_, hK _ ?_⟩; · (have X0 := hS.old x0; have X1 := hS.old x1; have X2 := hS.old x2; have X3 := hS.old x3; have X4 := hS.old x4; have Y0 := hS.old y0; have Y1 := hS.old y1; have Y2 := hS.old y2; have Y3 := hS.old y3; have Y4 := hS.old y4; try go_simp))
            clear hK K
            refine flo_read _ rfl (fun K hK => ?_)
            go_simp
            first | (refine hK _ ?_) | (refine ⟨fun W hS => ?_, hK _ ?_⟩; · (have X0 := hS.old x0; have X1 := hS.old x1; have X2 := hS.old x2; have X3 := hS.old x3; have X4 := hS.old x4; have Y0 := hS.old y0; have Y1 := hS.old y1; have Y2 := hS.old y2; have Y3 := hS.old y3; have Y4 := hS.old y4; try go_simp))
            clear hK K
            refine flo_read _ rfl (fun K hK => ?_)
            go_simp
            first | (refine hK _ ?_) | (refine ⟨fun W hS => ?_, hK _ ?_⟩; · (have X0 := hS.old x0; have X1 := hS.old x1; have X2 := hS.old x2; have X3 := hS.old x3; have X4 := hS.old x4; have Y0 := hS.old y0; have Y1 := hS.old y1; have Y2 := hS.old y2; have Y3 := hS.old y3; have Y4 := hS.old y4; try go_simp))
            clear hK K
            refine flo_read _ rfl (fun K hK => ?_)
            go_simp
            first | (refine hK _ ?_) | (refine ⟨fun W hS => ?_, hK _ ?_⟩; · (have X0 := hS.old x0; have X1 := hS.old x1; have X2 := hS.old x2; have X3 := hS.old x3; have X4 := hS.old x4; have Y0 := hS.old y0; have Y1 := hS.old y1; have Y2 := hS.old y2; have Y3 := hS.old y3; have Y4 := hS.old y4; try go_simp))
            clear hK K
            refine flo_read _ rfl (fun K hK => ?_)
            go_simp
            first | (refine hK _ ?_) | (refine ⟨fun W hS => ?_, hK _ ?_⟩; · (have X0 := hS.old x0; have X1 := hS.old x1; have X2 := hS.old x2; have X3 := hS.old x3; have X4 := hS.old x4; have Y0 := hS.old y0; have Y1 := hS.old y1; have Y2 := hS.old y2; have Y3 := hS.old y3; have Y4 := hS.old y4; try go_simp))
            clear hK K
            refine flo_read _ rfl (fun K hK => ?_)
            go_simp
            first | (refine hK _ ?_) | (refine ⟨fun W hS => ?_, hK _ ?_⟩; · (have X0 := hS.old x0; have X1 := hS.old x1; have X2 := hS.old x2; have X3 := hS.old x3; have X4 := hS.old x4; have Y0 := hS.old y0; have Y1 := hS.old y1; have Y2 := hS.old y2; have Y3 := hS.old y3; have Y4 := hS.old y4; try go_simp))
            clear hK K
            refine flo_read _ rfl (fun K hK => ?_)
            go_simp
            first | (refine hK _ ?_) | (refine ⟨fun W hS => ?_, hK _ ?_⟩; · (have X0 := hS.old x0; have X1 := hS.old x1; have X2 := hS.old x2; have X3 := hS.old x3; have X4 := hS.old x4; have Y0 := hS.old y0; have Y1 := hS.old y1; have Y2 := hS.old y2; have Y3 := hS.old y3; have Y4 := hS.old y4; try go_simp))
            clear hK K
            clear x0 x1 x2 x3 x4 y0 y1 y2 y3 y4
            refine flo_alone _ rfl ?_
            go_wp2_with fail
            go_at_call 85
            refine Calls.mono (hCmp.out _) ?_
            rintro e w5 ⟨rfl, t5⟩
            go_wp2_with fail
            refine ⟨fun W => Turns [] w5 W, fun W h => t5.trans h, Turns.refl _ _, ?_⟩
            have hH5 := Lib.hid (hHd.out.turns t5).drew
            clear t5 hHd
            refine flo_read _ rfl (fun K hK => ?_)
            go_simp
            first | (refine hK _ ?_) | (refine ⟨fun W hS => ?_, hK _ ?_⟩; · (skip; try go_simp))
            clear hK K
            refine flo_read _ rfl (fun K hK => ?_)
            go_simp
            first | (refine hK _ ?_) | (refine ⟨fun W hS => ?_, hK _ ?_⟩; · (skip; try go_simp))
            clear hK K
            refine flo_end ?_
            have hIn := hInh.out
            have hhere := hIn.here
            have hah : C[k]? = some y := by have := hjk.out; subst this; exact hIn.ahead hyh.out
            have H6 := hH5.out
            obtain ⟨ad3, c3, hv3, LX6⟩ := icells_at (H6.own 0 rfl).reads hhere
            obtain ⟨ad4, c4, hv4, LY6⟩ := icells_at (H6.own 0 rfl).reads hah
            injection hv3 with e1 e2 e3
            injection e1 with e1
            subst e1
            injection hv4 with e4 e5 e6
            injection e4 with e4
            subst e4
            have hstep := Lib.hid (fun (hk : j = k + 1) => (In.step (hk ▸ hIn) hyh.out hlt2h.out : In P x R k ((C.set (k + 1) y).set k x)))
            clear hIn hhere hah e2 e3 e5 e6 H6
            go_wp2_with fail
            refine wp_region_flo2 [(0, true, []), (1, true, []), (2, true, [15]), (3, true, [15]), (4, true, [15]), (5, true, []), (6, true, []), (7, true, []), (8, true, []), (9, true, []), (10, true, [15]), (11, true, [15]), (12, true, [15]), (13, true, []), (14, true, []), (15, false, []), (16, true, []), (17, false, [])] (fun j W => True) (by kernel_rfl) rfl (by kernel_rfl) (by intro c d v a w h; cases d <;> first | (simpa [Exit.then, Exit.inBlock, Act.put] using h) | exact h) ?_
            generalize w5.drew = w6 at *
            obtain ⟨x0, x1, x2, x3, x4⟩ := LX6
            obtain ⟨y0, y1, y2, y3, y4⟩ := LY6
            first
              | (refine flo2_read _ rfl (fun _ => True) trivial (fun _ _ _ _ => trivial) (fun K hK => ?_); go_simp; first | (refine hK _ ?_) | (refine ⟨fun W _ => ?_, hK _ ?_⟩; · (go_simp)) | (refine ⟨fun W => ?_, hK _ ?_⟩; · (go_simp)))
              | (refine flo2_read _ rfl (fun W => W = _) rfl (by simp) (fun K hK => ?_); go_simp; first | (refine hK _ ?_) | (refine ⟨fun W hS => ?_, hK _ ?_⟩; · (subst hS; go_simp)) | (refine ⟨?_, hK _ ?_⟩; · (go_simp)))
            clear hK K
            first
              | (refine flo2_read _ rfl (fun _ => True) trivial (fun _ _ _ _ => trivial) (fun K hK => ?_); go_simp; first | (refine hK _ ?_) | (refine ⟨fun W _ => ?_, hK _ ?_⟩; · (go_simp)) | (refine ⟨fun W => ?_, hK _ ?_⟩; · (go_simp)))
              | (refine flo2_read _ rfl (fun W => W = _) rfl (by simp) (fun K hK => ?_); go_simp; first | (refine hK _ ?_) | (refine ⟨fun W hS => ?_, hK _ ?_⟩; · (subst hS; go_simp)) | (refine ⟨?_, hK _ ?_⟩; · (go_simp)))
            clear hK K
            first
              | (refine flo2_read _ rfl (fun _ => True) trivial (fun _ _ _ _ => trivial) (fun K hK => ?_); go_simp; first | (refine hK _ ?_) | (refine ⟨fun W _ => ?_, hK _ ?_⟩; · (go_simp)) | (refine ⟨fun W => ?_, hK _ ?_⟩; · (go_simp)))
              | (refine flo2_read _ rfl (fun W => W = _) rfl (by simp) (fun K hK => ?_); go_simp; first | (refine hK _ ?_) | (refine ⟨fun W hS => ?_, hK _ ?_⟩; · (subst hS; go_simp)) | (refine ⟨?_, hK _ ?_⟩; · (go_simp)))
            clear hK K
            first
              | (refine flo2_read _ rfl (fun _ => True) trivial (fun _ _ _ _ => trivial) (fun K hK => ?_); go_simp; first | (refine hK _ ?_) | (refine ⟨fun W _ => ?_, hK _ ?_⟩; · (go_simp)) | (refine ⟨fun W => ?_, hK _ ?_⟩; · (go_simp)))
              | (refine flo2_read _ rfl (fun W => W = _) rfl (by simp) (fun K hK => ?_); go_simp; first | (refine hK _ ?_) | (refine ⟨fun W hS => ?_, hK _ ?_⟩; · (subst hS; go_simp)) | (refine ⟨?_, hK _ ?_⟩; · (go_simp)))
            clear hK K
            first
              | (refine flo2_read _ rfl (fun _ => True) trivial (fun _ _ _ _ => trivial) (fun K hK => ?_); go_simp; first | (refine hK _ ?_) | (refine ⟨fun W _ => ?_, hK _ ?_⟩; · (go_simp)) | (refine ⟨fun W => ?_, hK _ ?_⟩; · (go_simp)))
              | (refine flo2_read _ rfl (fun W => W = _) rfl (by simp) (fun K hK => ?_); go_simp; first | (refine hK _ ?_) | (refine ⟨fun W hS => ?_, hK _ ?_⟩; · (subst hS; go_simp)) | (refine ⟨?_, hK _ ?_⟩; · (go_simp)))
            clear hK K
            first
              | (refine flo2_read _ rfl (fun _ => True) trivial (fun _ _ _ _ => trivial) (fun K hK => ?_); go_simp; first | (refine hK _ ?_) | (refine ⟨fun W _ => ?_, hK _ ?_⟩; · (go_simp)) | (refine ⟨fun W => ?_, hK _ ?_⟩; · (go_simp)))
              | (refine flo2_read _ rfl (fun W => W = _) rfl (by simp) (fun K hK => ?_); go_simp; first | (refine hK _ ?_) | (refine ⟨fun W hS => ?_, hK _ ?_⟩; · (subst hS; go_simp)) | (refine ⟨?_, hK _ ?_⟩; · (go_simp)))
            clear hK K
            first
              | (refine flo2_read _ rfl (fun _ => True) trivial (fun _ _ _ _ => trivial) (fun K hK => ?_); go_simp; first | (refine hK _ ?_) | (refine ⟨fun W _ => ?_, hK _ ?_⟩; · (go_simp)) | (refine ⟨fun W => ?_, hK _ ?_⟩; · (go_simp)))
              | (refine flo2_read _ rfl (fun W => W = _) rfl (by simp) (fun K hK => ?_); go_simp; first | (refine hK _ ?_) | (refine ⟨fun W hS => ?_, hK _ ?_⟩; · (subst hS; go_simp)) | (refine ⟨?_, hK _ ?_⟩; · (go_simp)))
            clear hK K
            first
              | (refine flo2_read _ rfl (fun _ => True) trivial (fun _ _ _ _ => trivial) (fun K hK => ?_); go_simp; first | (refine hK _ ?_) | (refine ⟨fun W _ => ?_, hK _ ?_⟩; · (go_simp)) | (refine ⟨fun W => ?_, hK _ ?_⟩; · (go_simp)))
              | (refine flo2_read _ rfl (fun W => W = _) rfl (by simp) (fun K hK => ?_); go_simp; first | (refine hK _ ?_) | (refine ⟨fun W hS => ?_, hK _ ?_⟩; · (subst hS; go_simp)) | (refine ⟨?_, hK _ ?_⟩; · (go_simp)))
            clear hK K
            first
              | (refine flo2_read _ rfl (fun _ => True) trivial (fun _ _ _ _ => trivial) (fun K hK => ?_); go_simp; first | (refine hK _ ?_) | (refine ⟨fun W _ => ?_, hK _ ?_⟩; · (go_simp)) | (refine ⟨fun W => ?_, hK _ ?_⟩; · (go_simp)))
              | (refine flo2_read _ rfl (fun W => W = _) rfl (by simp) (fun K hK => ?_); go_simp; first | (refine hK _ ?_) | (refine ⟨fun W hS => ?_, hK _ ?_⟩; · (subst hS; go_simp)) | (refine ⟨?_, hK _ ?_⟩; · (go_simp)))
            clear hK K
            first
              | (refine flo2_read _ rfl (fun _ => True) trivial (fun _ _ _ _ => trivial) (fun K hK => ?_); go_simp; first | (refine hK _ ?_) | (refine ⟨fun W _ => ?_, hK _ ?_⟩; · (go_simp)) | (refine ⟨fun W => ?_, hK _ ?_⟩; · (go_simp)))
              | (refine flo2_read _ rfl (fun W => W = _) rfl (by simp) (fun K hK => ?_); go_simp; first | (refine hK _ ?_) | (refine ⟨fun W hS => ?_, hK _ ?_⟩; · (subst hS; go_simp)) | (refine ⟨?_, hK _ ?_⟩; · (go_simp)))
            clear hK K
            first
              | (refine flo2_read _ rfl (fun _ => True) trivial (fun _ _ _ _ => trivial) (fun K hK => ?_); go_simp; first | (refine hK _ ?_) | (refine ⟨fun W _ => ?_, hK _ ?_⟩; · (go_simp)) | (refine ⟨fun W => ?_, hK _ ?_⟩; · (go_simp)))
              | (refine flo2_read _ rfl (fun W => W = _) rfl (by simp) (fun K hK => ?_); go_simp; first | (refine hK _ ?_) | (refine ⟨fun W hS => ?_, hK _ ?_⟩; · (subst hS; go_simp)) | (refine ⟨?_, hK _ ?_⟩; · (go_simp)))
            clear hK K
            first
              | (refine flo2_read _ rfl (fun _ => True) trivial (fun _ _ _ _ => trivial) (fun K hK => ?_); go_simp; first | (refine hK _ ?_) | (refine ⟨fun W _ => ?_, hK _ ?_⟩; · (go_simp)) | (refine ⟨fun W => ?_, hK _ ?_⟩; · (go_simp)))
              | (refine flo2_read _ rfl (fun W => W = _) rfl (by simp) (fun K hK => ?_); go_simp; first | (refine hK _ ?_) | (refine ⟨fun W hS => ?_, hK _ ?_⟩; · (subst hS; go_simp)) | (refine ⟨?_, hK _ ?_⟩; · (go_simp)))
            clear hK K
            first
              | (refine flo2_read _ rfl (fun _ => True) trivial (fun _ _ _ _ => trivial) (fun K hK => ?_); go_simp; first | (refine hK _ ?_) | (refine ⟨fun W _ => ?_, hK _ ?_⟩; · (go_simp)) | (refine ⟨fun W => ?_, hK _ ?_⟩; · (go_simp)))
              | (refine flo2_read _ rfl (fun W => W = _) rfl (by simp) (fun K hK => ?_); go_simp; first | (refine hK _ ?_) | (refine ⟨fun W hS => ?_, hK _ ?_⟩; · (subst hS; go_simp)) | (refine ⟨?_, hK _ ?_⟩; · (go_simp)))
            clear hK K
            first
              | (refine flo2_read _ rfl (fun _ => True) trivial (fun _ _ _ _ => trivial) (fun K hK => ?_); go_simp; first | (refine hK _ ?_) | (refine ⟨fun W _ => ?_, hK _ ?_⟩; · (go_simp)) | (refine ⟨fun W => ?_, hK _ ?_⟩; · (go_simp)))
              | (refine flo2_read _ rfl (fun W => W = _) rfl (by simp) (fun K hK => ?_); go_simp; first | (refine hK _ ?_) | (refine ⟨fun W hS => ?_, hK _ ?_⟩; · (subst hS; go_simp)) | (refine ⟨?_, hK _ ?_⟩; · (go_simp)))
            clear hK K
            first
              | (refine flo2_read _ rfl (fun _ => True) trivial (fun _ _ _ _ => trivial) (fun K hK => ?_); go_simp; first | (refine hK _ ?_) | (refine ⟨fun W _ => ?_, hK _ ?_⟩; · (go_simp)) | (refine ⟨fun W => ?_, hK _ ?_⟩; · (go_simp)))
              | (refine flo2_read _ rfl (fun W => W = _) rfl (by simp) (fun K hK => ?_); go_simp; first | (refine hK _ ?_) | (refine ⟨fun W hS => ?_, hK _ ?_⟩; · (subst hS; go_simp)) | (refine ⟨?_, hK _ ?_⟩; · (go_simp)))
            clear hK K
            clear x0 x1 x2 x3 x4 y0 y1 y2 y3 y4
            obtain ⟨⟨z0, p0⟩, f0, ⟨z1, p1⟩, f1, ⟨z2, p2⟩, f2, ⟨z3, p3⟩, f3, ⟨z4, p4⟩, f4, H7⟩ := put5 hH5.out 0 y rfl (show j < C.length by omega)
            have hH7 := Lib.hid H7
            clear H7 hH5
            refine flo2_alone _ rfl ?_
            simp only [List.getElem_toArray, List.getElem_cons_succ, List.getElem_cons_zero]
            go_wp2_with fail
            refine ⟨trivial, _, fun _ _ h => h, ?_⟩
            generalize (((((w6.setCell (ad.add (j * 5)) (.int .i64 y.id)).setCell ⟨(ad.add (j * 5)).block, (ad.add (j * 5)).off + 1, none⟩ (.int .i64 y.key)).setCell ⟨(ad.add (j * 5)).block, (ad.add (j * 5)).off + 2, none⟩ (.int .i64 y.cost)).setCell ⟨(ad.add (j * 5)).block, (ad.add (j * 5)).off + 3, none⟩ (.int .i64 y.cls)).setCell ⟨(ad.add (j * 5)).block, (ad.add (j * 5)).off + 4, none⟩ (.int .i64 y.until_)) = w7 at *
            clear p0 f0 p1 f1 p2 f2 p3 f3 p4 f4
            first
              | (refine flo2_read _ rfl (fun _ => True) trivial (fun _ _ _ _ => trivial) (fun K hK => ?_); go_simp; first | (refine hK _ ?_) | (refine ⟨fun W _ => ?_, hK _ ?_⟩; · (go_simp)) | (refine ⟨fun W => ?_, hK _ ?_⟩; · (go_simp)))
              | (refine flo2_read _ rfl (fun W => W = _) rfl (by simp) (fun K hK => ?_); go_simp; first | (refine hK _ ?_) | (refine ⟨fun W hS => ?_, hK _ ?_⟩; · (subst hS; go_simp)) | (refine ⟨?_, hK _ ?_⟩; · (go_simp)))
            clear hK K
            obtain ⟨⟨z0, p0⟩, f0, ⟨z1, p1⟩, f1, ⟨z2, p2⟩, f2, ⟨z3, p3⟩, f3, ⟨z4, p4⟩, f4, H8⟩ := put5 (C := C.set j y) hH7.out 0 x rfl (show k < (C.set j y).length by rw [List.length_set]; omega)
            have hH8 := Lib.hid H8
            clear H8 hH7
            refine flo2_alone _ rfl ?_
            simp only [List.getElem_toArray, List.getElem_cons_succ, List.getElem_cons_zero]
            go_wp2_with fail
            refine ⟨trivial, _, fun _ _ h => h, ?_⟩
            generalize (((((w7.setCell (ad.add (k * 5)) (.int .i64 x.id)).setCell ⟨(ad.add (k * 5)).block, (ad.add (k * 5)).off + 1, none⟩ (.int .i64 x.key)).setCell ⟨(ad.add (k * 5)).block, (ad.add (k * 5)).off + 2, none⟩ (.int .i64 x.cost)).setCell ⟨(ad.add (k * 5)).block, (ad.add (k * 5)).off + 3, none⟩ (.int .i64 x.cls)).setCell ⟨(ad.add (k * 5)).block, (ad.add (k * 5)).off + 4, none⟩ (.int .i64 x.until_)) = w8 at *
            clear p0 f0 p1 f1 p2 f2 p3 f3 p4 f4
            refine flo2_end ?_
            go_wp2_with fail
            go_roundw
            case rel =>
              have hk := hjk.out
              have hs := hstep.out hk
              rw [← hk] at hs
              exact ⟨k, _, by omega, rfl, hs, hH8.out⟩
            case measure =>
              have hk := hjk.out
              simp [RowKit.intOf]; omega
          · have q1 : decide (x.cls - y.cls < 0) = false := decide_eq_false (by omega)
            have hC := hdone.out j C hInh.out (fun k' z e hz => by
              have := hjk.out
              obtain rfl : k' = k := by omega
              have := hyh.out.symm.trans hz
              injection this with this
              subst this
              omega)
            clear hlt2
            go_wp2_with fail
            go_wp2_with fail
            refine wp_region_flo [(0, true), (1, true), (2, true), (3, true), (4, true), (5, true), (6, true), (7, true), (8, true), (9, true), (10, true), (11, true), (12, true), (13, true), (14, false), (15, true), (16, true)] (fun W => Turns [] wr.drew W) (by kernel_rfl) rfl (by kernel_rfl) (by intro c d v a w h; cases d <;> first | (simpa [Exit.then, Exit.inBlock, Act.put] using h) | exact h) (Turns.refl _ _) ?_
            generalize wr.drew = w4 at *
            obtain ⟨x0, x1, x2, x3, x4⟩ := LX3
            obtain ⟨y0, y1, y2, y3, y4⟩ := LY3
            refine flo_read _ rfl (fun K hK => ?_)
            go_simp
            first | (refine hK _ ?_) | (refine ⟨fun W hS => ?_, hK _ ?_⟩; · (have X0 := hS.old x0; have X1 := hS.old x1; have X2 := hS.old x2; have X3 := hS.old x3; have X4 := hS.old x4; have Y0 := hS.old y0; have Y1 := hS.old y1; have Y2 := hS.old y2; have Y3 := hS.old y3; have Y4 := hS.old y4; try go_simp))
            clear hK K
            refine flo_read _ rfl (fun K hK => ?_)
            go_simp
            first | (refine hK _ ?_) | (refine ⟨fun W hS => ?_, hK _ ?_⟩; · (have X0 := hS.old x0; have X1 := hS.old x1; have X2 := hS.old x2; have X3 := hS.old x3; have X4 := hS.old x4; have Y0 := hS.old y0; have Y1 := hS.old y1; have Y2 := hS.old y2; have Y3 := hS.old y3; have Y4 := hS.old y4; try go_simp))
            clear hK K
            refine flo_read _ rfl (fun K hK => ?_)
            go_simp
            first | (refine hK _ ?_) | (refine ⟨fun W hS => ?_, hK _ ?_⟩; · (have X0 := hS.old x0; have X1 := hS.old x1; have X2 := hS.old x2; have X3 := hS.old x3; have X4 := hS.old x4; have Y0 := hS.old y0; have Y1 := hS.old y1; have Y2 := hS.old y2; have Y3 := hS.old y3; have Y4 := hS.old y4; try go_simp))
            clear hK K
            refine flo_read _ rfl (fun K hK => ?_)
            go_simp
            first | (refine hK _ ?_) | (refine ⟨fun W hS => ?_, hK _ ?_⟩; · (have X0 := hS.old x0; have X1 := hS.old x1; have X2 := hS.old x2; have X3 := hS.old x3; have X4 := hS.old x4; have Y0 := hS.old y0; have Y1 := hS.old y1; have Y2 := hS.old y2; have Y3 := hS.old y3; have Y4 := hS.old y4; try go_simp))
            clear hK K
            refine flo_read _ rfl (fun K hK => ?_)
            go_simp
            first | (refine hK _ ?_) | (refine ⟨fun W hS => ?_, hK _ ?_⟩; · (have X0 := hS.old x0; have X1 := hS.old x1; have X2 := hS.old x2; have X3 := hS.old x3; have X4 := hS.old x4; have Y0 := hS.old y0; have Y1 := hS.old y1; have Y2 := hS.old y2; have Y3 := hS.old y3; have Y4 := hS.old y4; try go_simp))
            clear hK K
            refine flo_read _ rfl (fun K hK => ?_)
            go_simp
            first | (refine hK _ ?_) | (refine ⟨fun W hS => ?_, hK _ ?_⟩; · (have X0 := hS.old x0; have X1 := hS.old x1; have X2 := hS.old x2; have X3 := hS.old x3; have X4 := hS.old x4; have Y0 := hS.old y0; have Y1 := hS.old y1; have Y2 := hS.old y2; have Y3 := hS.old y3; have Y4 := hS.old y4; try go_simp))
            clear hK K
            refine flo_read _ rfl (fun K hK => ?_)
            go_simp
            first | (refine hK _ ?_) | (refine ⟨fun W hS => ?_, hK _ ?_⟩; · (have X0 := hS.old x0; have X1 := hS.old x1; have X2 := hS.old x2; have X3 := hS.old x3; have X4 := hS.old x4; have Y0 := hS.old y0; have Y1 := hS.old y1; have Y2 := hS.old y2; have Y3 := hS.old y3; have Y4 := hS.old y4; try go_simp))
            clear hK K
            refine flo_read _ rfl (fun K hK => ?_)
            go_simp
            first | (refine hK _ ?_) | (refine ⟨fun W hS => ?_, hK _ ?_⟩; · (have X0 := hS.old x0; have X1 := hS.old x1; have X2 := hS.old x2; have X3 := hS.old x3; have X4 := hS.old x4; have Y0 := hS.old y0; have Y1 := hS.old y1; have Y2 := hS.old y2; have Y3 := hS.old y3; have Y4 := hS.old y4; try go_simp))
            clear hK K
            refine flo_read _ rfl (fun K hK => ?_)
            go_simp
            first | (refine hK _ ?_) | (refine ⟨fun W hS => ?_, hK _ ?_⟩; · (have X0 := hS.old x0; have X1 := hS.old x1; have X2 := hS.old x2; have X3 := hS.old x3; have X4 := hS.old x4; have Y0 := hS.old y0; have Y1 := hS.old y1; have Y2 := hS.old y2; have Y3 := hS.old y3; have Y4 := hS.old y4; try go_simp))
            clear hK K
            refine flo_read _ rfl (fun K hK => ?_)
            go_simp
            first | (refine hK _ ?_) | (refine ⟨fun W hS => ?_, hK _ ?_⟩; · (have X0 := hS.old x0; have X1 := hS.old x1; have X2 := hS.old x2; have X3 := hS.old x3; have X4 := hS.old x4; have Y0 := hS.old y0; have Y1 := hS.old y1; have Y2 := hS.old y2; have Y3 := hS.old y3; have Y4 := hS.old y4; try go_simp))
            clear hK K
            refine flo_read _ rfl (fun K hK => ?_)
            go_simp
            first | (refine hK _ ?_) | (refine ⟨fun W hS => ?_, hK _ ?_⟩; · (have X0 := hS.old x0; have X1 := hS.old x1; have X2 := hS.old x2; have X3 := hS.old x3; have X4 := hS.old x4; have Y0 := hS.old y0; have Y1 := hS.old y1; have Y2 := hS.old y2; have Y3 := hS.old y3; have Y4 := hS.old y4; try go_simp))
            clear hK K
            refine flo_read _ rfl (fun K hK => ?_)
            go_simp
            first | (refine hK _ ?_) | (refine ⟨fun W hS => ?_, hK _ ?_⟩; · (have X0 := hS.old x0; have X1 := hS.old x1; have X2 := hS.old x2; have X3 := hS.old x3; have X4 := hS.old x4; have Y0 := hS.old y0; have Y1 := hS.old y1; have Y2 := hS.old y2; have Y3 := hS.old y3; have Y4 := hS.old y4; try go_simp))
            clear hK K
            refine flo_read _ rfl (fun K hK => ?_)
            go_simp
            first | (refine hK _ ?_) | (refine ⟨fun W hS => ?_, hK _ ?_⟩; · (have X0 := hS.old x0; have X1 := hS.old x1; have X2 := hS.old x2; have X3 := hS.old x3; have X4 := hS.old x4; have Y0 := hS.old y0; have Y1 := hS.old y1; have Y2 := hS.old y2; have Y3 := hS.old y3; have Y4 := hS.old y4; try go_simp))
            clear hK K
            refine flo_read _ rfl (fun K hK => ?_)
            go_simp
            first | (refine hK _ ?_) | (refine ⟨fun W hS => ?_, hK _ ?_⟩; · (have X0 := hS.old x0; have X1 := hS.old x1; have X2 := hS.old x2; have X3 := hS.old x3; have X4 := hS.old x4; have Y0 := hS.old y0; have Y1 := hS.old y1; have Y2 := hS.old y2; have Y3 := hS.old y3; have Y4 := hS.old y4; try go_simp))
            clear hK K
            clear x0 x1 x2 x3 x4 y0 y1 y2 y3 y4
            refine flo_alone _ rfl ?_
            go_wp2_with fail
            go_at_call 85
            refine Calls.mono (hCmp.out _) ?_
            rintro e w5 ⟨rfl, t5⟩
            go_wp2_with fail
            refine ⟨fun W => Turns [] w5 W, fun W h => t5.trans h, Turns.refl _ _, ?_⟩
            have hH5 := Lib.hid (hHd.out.turns t5)
            clear t5 hHd
            refine flo_read _ rfl (fun K hK => ?_)
            go_simp
            first | (refine hK _ ?_) | (refine ⟨fun W hS => ?_, hK _ ?_⟩; · (skip; try go_simp))
            clear hK K
            refine flo_read _ rfl (fun K hK => ?_)
            go_simp
            first | (refine hK _ ?_) | (refine ⟨fun W hS => ?_, hK _ ?_⟩; · (skip; try go_simp))
            clear hK K
            refine flo_end ?_
            go_wp2_with fail
            go_roundw
            case rel => exact ⟨i + 1, by omega, by omega, by go_num, by rw [hinv1.out, ← hC]; exact hH5.out⟩
            case measure => simp [RowKit.intOf]; omega
    · have g1 : decide ((i : Int) < (L.length : Int)) = false := decide_eq_false (by omega)
      have g1b : decide (i < L.length) = false := decide_eq_false hlt
      have hfin : inv L i = stab L := by
        unfold inv
        rcases Nat.lt_or_ge L.length i with h | h
        · rw [List.take_of_length_le (by omega), List.drop_of_length_le (by omega), List.append_nil]
        · rw [List.take_of_length_le (by omega), List.drop_of_length_le (by omega), List.append_nil]
      rw [hfin] at H
      have O := H.own 0 rfl
      have T := H.t
      clear H hi2
      go_wp2_with fail
      go_end0
      exact ⟨rfl, O, T⟩
end Go.Proofs.Ytoojemdehmabhaa.Ql
