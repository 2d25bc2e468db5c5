/- QueuePlays: the law's walk. -/
import Derived.Test.YtoojemdehmabhaaZa
set_option linter.unusedVariables false
set_option linter.unusedSimpArgs false
set_option maxRecDepth 100000
namespace Go.Proofs.Ytoojemdehmabhaa.Zb
open Go.RowKit Go.MapKept Go.Shelf Hm Hs Hf Hg Hx Hy Hv Sm Qa Qb Qe Qf Qg Qh Qi Qj Qk Qm Qn Qo Qq Qr Qs Qt Qv Qw Qx Qy Qz Za
set_option maxHeartbeats 8000000 in
theorem plays_is (w : World) (room : Int) (A : Option Addr) (c : Nat) (acts : List Qy.Act) (key : Int) (hl : FlatRow w A 6 (acts.map Qy.Act.cells)) :
    Calls Try.prog 7 #[.int .i64 room, .slice A acts.length c, .int .i64 key] w fun e w' => e = .returned (.bool true) ∧ Turns [] w w' := by
  have H := Sep.start w
  obtain ⟨X, hX⟩ : ∃ X : Ending → World → Prop, X = fun e w' => e = .returned (.bool true) ∧ Turns [] w w' := ⟨_, rfl⟩
  rw [← hX]
  have hXh : Hid (∀ w', Turns [] w w' → X (.returned (.bool true)) w') := Lib.hid (fun w' h => by rw [hX]; exact ⟨rfl, h⟩)
  clear hX
  have hlh := Lib.hid hl
  clear hl
  by_cases hlong : (acts.length : Int) > 80
  · have g1 := decide_eq_true hlong
    clear hlong
    go_enter Try.func7, Try.ntmps7
    go_wp2_with fail
    go_at_call 9
    refine Calls.mono (alive_any _) ?_
    rintro e w1 ⟨rfl, t1⟩
    have hX := hXh.out _ t1
    go_wp2_with fail
    exact hX
  · have g1 : decide ((acts.length : Int) > 80) = false := decide_eq_false hlong
    have hl80 : acts.length ≤ 80 := by omega
    clear hlong
    by_cases hr : 0 ≤ room ∧ room ≤ 16
    · have N1 := Lib.hid (Qe.new_is w room hr)
      have R1 := Lib.hid (fun w => Qw.right_is w room)
      rw [decide_eq_true hr] at R1
      clear H
      go_enter Try.func7, Try.ntmps7
      go_wp2_with fail
      go_at_call 10
      refine Calls.mono (N1.out) ?_
      rintro e w1 ⟨b, rfl, H⟩
      have hHh := Lib.hid H
      clear H N1
      go_wp2_with fail
      go_at_call 37
      refine Calls.mono (R1.out _) ?_
      rintro e w2 ⟨rfl, t2⟩
      have H := hHh.out.turns t2
      replace H := ((H.alloc #[.int .i64 room, .slice none 0 0] 31).nilSlice 84 5).keep [2, 3, 1, 0]
      have hH2 := Lib.hid H
      clear H hHh t2 R1
      go_wp2_with fail
      generalize w2.alloc (.cells #[.int .i64 room, .slice none 0 0] 31) = w3 at *
      generalize w2.heap.size = d at *
      go_loopw [11] (fun v11 wr => ∃ (k : Nat) (l : List It) (iv lv : Value), k ≤ acts.length ∧ v11 = .int .i64 k ∧ Cls l ∧ (l.length : Int) ≤ room ∧ Sep [] w (both b d room iv lv l) wr) (fun v11 _ => acts.length - (RowKit.intOf v11).toNat)
      case atStart => exact ⟨0, [], _, _, by omega, rfl, by intro x hx; simp at hx, by simpa using hr.1, hH2.out⟩
      case round =>
        obtain ⟨k, l0, iv, lv, hk, rfl, hc0, hn0, H1⟩ := hrel
        clear hH2
        by_cases hlt : k < acts.length
        · have g2 : decide ((k : Int) < (acts.length : Int)) = true := by simp; omega
          obtain ⟨a, hx⟩ : ∃ a, acts[k]? = some a := ⟨_, List.getElem?_eq_getElem hlt⟩
          obtain ⟨ad, rfl, _, hcc⟩ := hlh.out.at_ (j := k) (c := Qy.Act.cells a) (by rw [List.getElem?_map, hx]; rfl)
          obtain ⟨i0, i1, i2, i3, i4, i5⟩ := (acells_of hcc).turns H1.t
          have P1 := Lib.hid (step_is wr b d room iv lv l0 a (H1.got [0, 1, 2, 3]) (by omega))
          have hc := step_cls (room := room) (a := a) hc0
          have hn := step_len (a := a) hn0
          generalize stepQ room l0 a = l at *
          unfold Qy.Act.v at P1
          have hch := Lib.hid hc
          have hnh := Lib.hid hn
          have hl16 : l.length ≤ 16 := by omega
          have hH1 := Lib.hid H1
          clear hx hcc hc hc0 hn hn0 H1
          go_wp2_with fail
          go_at_call 11
          refine Calls.mono (P1.out) ?_
          rintro e w4 ⟨rfl, iv2, lv2, h4⟩
          have H := (hH1.out.call [0, 1, 2, 3] h4).drew
          clear hH1 P1 h4 i0 i1 i2 i3 i4 i5
          have A1 := Lib.hid (fun w h => Qe.all_is w b room iv2 l h (by omega))
          have O1 := Lib.hid (fun w v h => lof_is w v l h (by omega))
          have S1 := Lib.hid (fun w v u h1 h2 => Qr.same_is w v u l h1 h2)
          go_wp2_with fail
          go_wp2_with fail
          refine wp_region_flo [(0, true), (3, true), (4, true), (5, true), (6, true), (1, false), (2, false), (7, false), (8, true)] (fun W => Turns [] w4.drew W) (by kernel_rfl) rfl (by kernel_rfl) (by intro c d v a w h; cases d <;> first | (simpa [Exit.then, Exit.inBlock, Act.put] using h) | exact h) (Turns.refl _ _) ?_
          generalize w4.drew = w5 at *
          have d1 : World.cell? (w5) ⟨d, 1, none⟩ = some _ := (H.blk 2 rfl).cell 1
          refine flo_read _ rfl (fun K hK => ?_)
          go_simp
          first | (refine hK _ ?_) | (refine ⟨fun W hS => ?_, hK _ ?_⟩; · (have D1 := hS.old d1; try go_simp))
          clear hK K
          refine flo_read _ rfl (fun K hK => ?_)
          go_simp
          first | (refine hK _ ?_) | (refine ⟨fun W hS => ?_, hK _ ?_⟩; · (have D1 := hS.old d1; try go_simp))
          clear hK K
          refine flo_read _ rfl (fun K hK => ?_)
          go_simp
          first | (refine hK _ ?_) | (refine ⟨fun W hS => ?_, hK _ ?_⟩; · (have D1 := hS.old d1; try go_simp))
          clear hK K
          refine flo_read _ rfl (fun K hK => ?_)
          go_simp
          first | (refine hK _ ?_) | (refine ⟨fun W hS => ?_, hK _ ?_⟩; · (have D1 := hS.old d1; try go_simp))
          clear hK K
          refine flo_read _ rfl (fun K hK => ?_)
          go_simp
          first | (refine hK _ ?_) | (refine ⟨fun W hS => ?_, hK _ ?_⟩; · (have D1 := hS.old d1; try go_simp))
          clear hK K
          refine flo_alone _ rfl ?_
          go_wp2_with fail
          go_at_call 12
          refine Calls.mono (A1.out _ (H.got [0, 1])) ?_
          rintro e w6 ⟨v6, rfl, o6, t6, _⟩
          go_wp2_with fail
          refine ⟨fun W => Turns [] w6 W, fun W h => t6.trans h, Turns.refl _ _, ?_⟩
          replace H := H.turns t6
          refine flo_alone _ rfl ?_
          go_wp2_with fail
          go_at_call 39
          refine Calls.mono (O1.out _ _ o6.reads) ?_
          rintro e w7 ⟨v7, rfl, o7, t7, _⟩
          go_wp2_with fail
          refine ⟨fun W => Turns [] w7 W, fun W h => t7.trans h, Turns.refl _ _, ?_⟩
          replace H := H.turns t7
          refine flo_alone _ rfl ?_
          go_wp2_with fail
          go_at_call 38
          refine Calls.mono (S1.out _ _ _ o7.reads (H.own 3 rfl).reads) ?_
          rintro e w8 ⟨rfl, t8⟩
          go_wp2_with fail
          refine ⟨fun W => Turns [] w8 W, fun W h => t8.trans h, Turns.refl _ _, ?_⟩
          replace H := H.turns t8
          clear o6 o7 t6 t7 t8 d1 A1 O1 S1
          refine flo_read _ rfl (fun K hK => ?_)
          go_simp
          first | (refine hK _ ?_) | (refine ⟨fun W hS => ?_, hK _ ?_⟩; · (skip; try go_simp))
          clear hK K
          refine flo_end ?_
          have hol := ofQ_len l key hch.out
          have Q1 := Lib.hid (of_is w8 b room iv2 l key (H.got [0, 1]) (by omega) hch.out)
          have Q2 := Lib.hid (fun w v h => lof_is w v (ofQ l key) h (by omega))
          have Q3 := Lib.hid (fun w h => rof_is w d room lv2 l key h (by omega))
          have Q4 := Lib.hid (fun w v u h1 h2 => Qr.same_is w v u (ofQ l key) h1 h2)
          have K1 := Lib.hid (fun w h => Qo.keys_is w b room iv2 l h (by omega))
          have K2 := Lib.hid (fun w h => rkeys_is w d room lv2 l h (by omega))
          have K3 := Lib.hid (fun w v u h1 h2 => Rs.same_is w v u (rkeys l) h1 h2)
          rw [rkeys_eq] at K1
          have Q6 := Lib.hid (fun w h => of_is w b room iv2 l key h (by omega) hch.out)
          have Z1 := Lib.hid (fun w h => sum_is w b room iv2 l key h (by omega) hch.out)
          have Z2 := Lib.hid (fun w h => rsum_is w d room lv2 l key h (by omega))
          obtain ⟨s, hs⟩ : ∃ s, sumQ l key = s := ⟨_, rfl⟩
          rw [hs] at Z1 Z2
          clear hs
          have hH1 := Lib.hid H
          clear H hol
          go_wp2_with fail
          go_at_call 40
          refine Calls.mono (Q1.out) ?_
          rintro e w9 ⟨v9, rfl, o9, t9⟩
          have Q2c := Lib.hid (Q2.out _ _ o9.reads)
          have hH2 := Lib.hid (hH1.out.turns t9)
          clear Q1 o9 hH1 t9
          go_wp2_with fail
          go_at_call 39
          refine Calls.mono (Q2c.out) ?_
          rintro e wa ⟨va, rfl, oa, ta, _⟩
          have H := hH2.out.turns ta
          have Q3c := Lib.hid (Q3.out _ (H.got [2, 3]))
          have hH1 := Lib.hid H
          have oah := Lib.hid oa
          clear Q2c hH2 ta H Q3 oa
          go_wp2_with fail
          go_at_call 41
          refine Calls.mono (Q3c.out) ?_
          rintro e wb ⟨vb, rfl, ob, tb, _⟩
          have Q4c := Lib.hid (Q4.out _ _ _ (oah.out.turns tb (by simp)).reads ob.reads)
          have hH2 := Lib.hid (hH1.out.turns tb)
          clear Q3c hH1 tb oah ob
          go_wp2_with fail
          go_at_call 38
          refine Calls.mono (Q4c.out) ?_
          rintro e wc ⟨rfl, tc⟩
          have H := hH2.out.turns tc
          have K1c := Lib.hid (K1.out _ (H.got [0, 1]))
          have hH1 := Lib.hid H
          clear Q4c Q4 hH2 tc H K1
          go_wp2_with fail
          go_at_call 42
          refine Calls.mono (K1c.out) ?_
          rintro e wd ⟨vd, rfl, od, td⟩
          have H := hH1.out.turns td
          have K2c := Lib.hid (K2.out _ (H.got [2, 3]))
          have hH2 := Lib.hid H
          have odh := Lib.hid od
          clear K1c hH1 td H K2 od
          go_wp2_with fail
          go_at_call 43
          refine Calls.mono (K2c.out) ?_
          rintro e we ⟨ve, rfl, oe, te, _⟩
          have K3c := Lib.hid (K3.out _ _ _ (odh.out.turns te (by simp)).reads oe.reads)
          have hH1 := Lib.hid (hH2.out.turns te)
          clear K2c hH2 te odh oe K3
          go_wp2_with fail
          go_at_call 26
          refine Calls.mono (K3c.out) ?_
          rintro e wf ⟨rfl, tf⟩
          have hH2 := Lib.hid (hH1.out.turns tf)
          clear K3c hH1 tf
          cases ho : ofQ l key with
          | nil =>
            have F1 := Lib.hid (first_none wf b room iv2 l key (hH2.out.got [0, 1]) (by omega) hch.out ho)
            rw [ho] at Q2 Q6
            unfold It.v It.zero at F1
            clear ho
            go_wp2_with fail
            go_at_call 13
            refine Calls.mono (F1.out) ?_
            rintro e wg ⟨rfl, tg⟩
            have H := (hH2.out.turns tg).alloc #[.int .i64 0, .int .i64 0, .int .i64 0, .int .i64 0, .int .i64 0] 34
            have Q6c := Lib.hid (Q6.out _ (H.got [1, 2]))
            have hH1 := Lib.hid H
            clear F1 H hH2 tg Q6
            go_wp2_with fail
            go_at_call 40
            refine Calls.mono (Q6c.out) ?_
            rintro e wh ⟨vh, rfl, oh, th⟩
            have Q2c := Lib.hid (Q2.out _ _ oh.reads)
            have hH2 := Lib.hid (hH1.out.turns th)
            clear Q6c oh hH1 th Q2
            go_wp2_with fail
            go_at_call 39
            refine Calls.mono (Q2c.out) ?_
            rintro e wi ⟨vi, rfl, oi, ti, _⟩
            obtain ⟨Ai, ci, rfl, _⟩ := formM oi
            have H := (hH2.out.turns ti).drew
            rw [List.length_nil]
            clear Q2c hH2 ti oi
            go_wp2_with fail
            go_wp2_with fail
            refine wp_region_flo [(0, true), (1, true), (2, true), (3, true), (4, true), (5, true), (6, true), (7, true), (8, true), (9, true), (10, true), (11, true), (12, true), (13, true), (14, true), (15, true), (16, true), (17, true), (18, true), (19, true), (20, true), (21, true), (22, true), (23, true), (24, true), (29, true), (30, true), (31, true), (25, false), (26, false), (27, true), (28, true), (32, true), (33, true), (34, true), (35, true), (36, true), (37, true), (39, true), (40, true), (38, false), (41, false), (42, true), (43, true)] (fun W => Turns [] wi.drew W) (by kernel_rfl) rfl (by kernel_rfl) (by intro c d v a w h; cases d <;> first | (simpa [Exit.then, Exit.inBlock, Act.put] using h) | exact h) (Turns.refl _ _) ?_
            generalize wi.drew = wj at *
            refine flo_read _ rfl (fun K hK => ?_)
            go_simp
            first | (refine hK _ ?_) | (refine ⟨fun W hS => ?_, hK _ ?_⟩; · (skip; try go_simp))
            clear hK K
            refine flo_read _ rfl (fun K hK => ?_)
            go_simp
            first | (refine hK _ ?_) | (refine ⟨fun W hS => ?_, hK _ ?_⟩; · (skip; try go_simp))
            clear hK K
            refine flo_read _ rfl (fun K hK => ?_)
            go_simp
            first | (refine hK _ ?_) | (refine ⟨fun W hS => ?_, hK _ ?_⟩; · (skip; try go_simp))
            clear hK K
            refine flo_read _ rfl (fun K hK => ?_)
            go_simp
            first | (refine hK _ ?_) | (refine ⟨fun W hS => ?_, hK _ ?_⟩; · (skip; try go_simp))
            clear hK K
            refine flo_read _ rfl (fun K hK => ?_)
            go_simp
            first | (refine hK _ ?_) | (refine ⟨fun W hS => ?_, hK _ ?_⟩; · (skip; try go_simp))
            clear hK K
            refine flo_read _ rfl (fun K hK => ?_)
            go_simp
            first | (refine hK _ ?_) | (refine ⟨fun W hS => ?_, hK _ ?_⟩; · (skip; try go_simp))
            clear hK K
            refine flo_read _ rfl (fun K hK => ?_)
            go_simp
            first | (refine hK _ ?_) | (refine ⟨fun W hS => ?_, hK _ ?_⟩; · (skip; try go_simp))
            clear hK K
            refine flo_read _ rfl (fun K hK => ?_)
            go_simp
            first | (refine hK _ ?_) | (refine ⟨fun W hS => ?_, hK _ ?_⟩; · (skip; try go_simp))
            clear hK K
            refine flo_read _ rfl (fun K hK => ?_)
            go_simp
            first | (refine hK _ ?_) | (refine ⟨fun W hS => ?_, hK _ ?_⟩; · (skip; try go_simp))
            clear hK K
            refine flo_read _ rfl (fun K hK => ?_)
            go_simp
            first | (refine hK _ ?_) | (refine ⟨fun W hS => ?_, hK _ ?_⟩; · (skip; try go_simp))
            clear hK K
            refine flo_read _ rfl (fun K hK => ?_)
            go_simp
            first | (refine hK _ ?_) | (refine ⟨fun W hS => ?_, hK _ ?_⟩; · (skip; try go_simp))
            clear hK K
            refine flo_read _ rfl (fun K hK => ?_)
            go_simp
            first | (refine hK _ ?_) | (refine ⟨fun W hS => ?_, hK _ ?_⟩; · (skip; try go_simp))
            clear hK K
            refine flo_read _ rfl (fun K hK => ?_)
            go_simp
            first | (refine hK _ ?_) | (refine ⟨fun W hS => ?_, hK _ ?_⟩; · (skip; try go_simp))
            clear hK K
            refine flo_read _ rfl (fun K hK => ?_)
            go_simp
            first | (refine hK _ ?_) | (refine ⟨fun W hS => ?_, hK _ ?_⟩; · (skip; try go_simp))
            clear hK K
            refine flo_read _ rfl (fun K hK => ?_)
            go_simp
            first | (refine hK _ ?_) | (refine ⟨fun W hS => ?_, hK _ ?_⟩; · (skip; try go_simp))
            clear hK K
            refine flo_read _ rfl (fun K hK => ?_)
            go_simp
            first | (refine hK _ ?_) | (refine ⟨fun W hS => ?_, hK _ ?_⟩; · (skip; try go_simp))
            clear hK K
            refine flo_read _ rfl (fun K hK => ?_)
            go_simp
            first | (refine hK _ ?_) | (refine ⟨fun W hS => ?_, hK _ ?_⟩; · (skip; try go_simp))
            clear hK K
            refine flo_read _ rfl (fun K hK => ?_)
            go_simp
            first | (refine hK _ ?_) | (refine ⟨fun W hS => ?_, hK _ ?_⟩; · (skip; try go_simp))
            clear hK K
            refine flo_read _ rfl (fun K hK => ?_)
            go_simp
            first | (refine hK _ ?_) | (refine ⟨fun W hS => ?_, hK _ ?_⟩; · (skip; try go_simp))
            clear hK K
            refine flo_read _ rfl (fun K hK => ?_)
            go_simp
            first | (refine hK _ ?_) | (refine ⟨fun W hS => ?_, hK _ ?_⟩; · (skip; try go_simp))
            clear hK K
            refine flo_read _ rfl (fun K hK => ?_)
            go_simp
            first | (refine hK _ ?_) | (refine ⟨fun W hS => ?_, hK _ ?_⟩; · (skip; try go_simp))
            clear hK K
            refine flo_read _ rfl (fun K hK => ?_)
            go_simp
            first | (refine hK _ ?_) | (refine ⟨fun W hS => ?_, hK _ ?_⟩; · (skip; try go_simp))
            clear hK K
            refine flo_read _ rfl (fun K hK => ?_)
            go_simp
            first | (refine hK _ ?_) | (refine ⟨fun W hS => ?_, hK _ ?_⟩; · (skip; try go_simp))
            clear hK K
            refine flo_read _ rfl (fun K hK => ?_)
            go_simp
            first | (refine hK _ ?_) | (refine ⟨fun W hS => ?_, hK _ ?_⟩; · (skip; try go_simp))
            clear hK K
            refine flo_read _ rfl (fun K hK => ?_)
            go_simp
            first | (refine hK _ ?_) | (refine ⟨fun W hS => ?_, hK _ ?_⟩; · (skip; try go_simp))
            clear hK K
            refine flo_read _ rfl (fun K hK => ?_)
            go_simp
            first | (refine hK _ ?_) | (refine ⟨fun W hS => ?_, hK _ ?_⟩; · (skip; try go_simp))
            clear hK K
            refine flo_read _ rfl (fun K hK => ?_)
            go_simp
            first | (refine hK _ ?_) | (refine ⟨fun W hS => ?_, hK _ ?_⟩; · (skip; try go_simp))
            clear hK K
            refine flo_read _ rfl (fun K hK => ?_)
            go_simp
            first | (refine hK _ ?_) | (refine ⟨fun W hS => ?_, hK _ ?_⟩; · (skip; try go_simp))
            clear hK K
            refine flo_alone _ rfl ?_
            go_wp2_with fail
            refine ⟨fun W => Turns [] wj W, fun W h => h, Turns.refl _ _, ?_⟩
            refine flo_alone _ rfl ?_
            go_wp2_with fail
            refine ⟨fun W => Turns [] wj W, fun W h => h, Turns.refl _ _, ?_⟩
            refine flo_read _ rfl (fun K hK => ?_)
            go_simp
            first | (refine hK _ ?_) | (refine ⟨fun W hS => ?_, hK _ ?_⟩; · (skip; try go_simp))
            clear hK K
            refine flo_read _ rfl (fun K hK => ?_)
            go_simp
            first | (refine hK _ ?_) | (refine ⟨fun W hS => ?_, hK _ ?_⟩; · (skip; try go_simp))
            clear hK K
            refine flo_read _ rfl (fun K hK => ?_)
            go_simp
            first | (refine hK _ ?_) | (refine ⟨fun W hS => ?_, hK _ ?_⟩; · (skip; try go_simp))
            clear hK K
            refine flo_read _ rfl (fun K hK => ?_)
            go_simp
            first | (refine hK _ ?_) | (refine ⟨fun W hS => ?_, hK _ ?_⟩; · (skip; try go_simp))
            clear hK K
            refine flo_read _ rfl (fun K hK => ?_)
            go_simp
            first | (refine hK _ ?_) | (refine ⟨fun W hS => ?_, hK _ ?_⟩; · (skip; try go_simp))
            clear hK K
            refine flo_read _ rfl (fun K hK => ?_)
            go_simp
            first | (refine hK _ ?_) | (refine ⟨fun W hS => ?_, hK _ ?_⟩; · (skip; try go_simp))
            clear hK K
            refine flo_read _ rfl (fun K hK => ?_)
            go_simp
            first | (refine hK _ ?_) | (refine ⟨fun W hS => ?_, hK _ ?_⟩; · (skip; try go_simp))
            clear hK K
            refine flo_read _ rfl (fun K hK => ?_)
            go_simp
            first | (refine hK _ ?_) | (refine ⟨fun W hS => ?_, hK _ ?_⟩; · (skip; try go_simp))
            clear hK K
            refine flo_read _ rfl (fun K hK => ?_)
            go_simp
            first | (refine hK _ ?_) | (refine ⟨fun W hS => ?_, hK _ ?_⟩; · (skip; try go_simp))
            clear hK K
            refine flo_read _ rfl (fun K hK => ?_)
            go_simp
            first | (refine hK _ ?_) | (refine ⟨fun W hS => ?_, hK _ ?_⟩; · (skip; try go_simp))
            clear hK K
            refine flo_alone _ rfl ?_
            go_wp2_with fail
            go_at_call 44
            refine Calls.mono (Z1.out _ (H.got [1, 2])) ?_
            rintro e wk ⟨rfl, tk⟩
            go_wp2_with fail
            refine ⟨fun W => Turns [] wk W, fun W h => tk.trans h, Turns.refl _ _, ?_⟩
            replace H := H.turns tk
            refine flo_alone _ rfl ?_
            go_wp2_with fail
            go_at_call 45
            refine Calls.mono (Z2.out _ (H.got [3, 4])) ?_
            rintro e wl ⟨rfl, tl⟩
            go_wp2_with fail
            refine ⟨fun W => Turns [] wl W, fun W h => tl.trans h, Turns.refl _ _, ?_⟩
            replace H := (H.turns tl).keep [1, 2, 3, 4]
            clear tk tl Z1 Z2
            refine flo_read _ rfl (fun K hK => ?_)
            go_simp
            first | (refine hK _ ?_) | (refine ⟨fun W hS => ?_, hK _ ?_⟩; · (skip; try go_simp))
            clear hK K
            refine flo_read _ rfl (fun K hK => ?_)
            go_simp
            first | (refine hK _ ?_) | (refine ⟨fun W hS => ?_, hK _ ?_⟩; · (skip; try go_simp))
            clear hK K
            refine flo_end ?_
            go_wp2_with fail
            go_roundw
            case rel => exact ⟨k + 1, l, iv2, lv2, by omega, by go_num, hch.out, hnh.out, H⟩
            case measure => simp [RowKit.intOf]; omega
          | cons x r =>
            have F1 := Lib.hid (first_some wf b room iv2 l key x r (hH2.out.got [0, 1]) (by omega) hch.out ho)
            have Q7 := Lib.hid (fun w v h => lof_is w v [x] h (by simp))
            rw [ho] at Q2 Q6
            unfold It.v at F1
            clear ho
            go_wp2_with fail
            go_at_call 13
            refine Calls.mono (F1.out) ?_
            rintro e wg ⟨rfl, tg⟩
            have H := (hH2.out.turns tg).alloc #[.int .i64 x.id, .int .i64 x.key, .int .i64 x.cost, .int .i64 x.cls, .int .i64 x.until_] 34
            have Q6c := Lib.hid (Q6.out _ (H.got [1, 2]))
            have hH1 := Lib.hid H
            clear F1 H hH2 tg Q6
            go_wp2_with fail
            go_at_call 40
            refine Calls.mono (Q6c.out) ?_
            rintro e wh ⟨vh, rfl, oh, th⟩
            have Q2c := Lib.hid (Q2.out _ _ oh.reads)
            have hH2 := Lib.hid (hH1.out.turns th)
            clear Q6c oh hH1 th Q2
            go_wp2_with fail
            go_at_call 39
            refine Calls.mono (Q2c.out) ?_
            rintro e wi ⟨vi, rfl, oi, ti, _⟩
            have H := (hH2.out.turns ti).drew
            have oid := oi.turns (Turns.refl [] wi).drew (by simp)
            obtain ⟨ai, ci, rfl, LX⟩ := icells_at (j := 0) (x := x) oid.reads rfl
            obtain ⟨y0, y1, y2, y3, y4⟩ := LX
            simp only [Nat.zero_mul, Addr.add, if_true] at y0 y1 y2 y3 y4
            rw [List.length_cons]
            have gr : decide ((r.length : Int) + 1 > 0) = true := decide_eq_true (by omega)
            clear Q2c hH2 ti oi oid
            go_wp2_with fail
            go_wp2_with fail
            refine wp_region_flo [(0, true), (1, true), (2, true), (3, true), (4, true), (5, true), (6, true), (7, true), (8, true), (9, true), (10, true), (11, true), (12, true), (13, true), (14, true), (15, true), (16, true), (17, true), (18, true), (19, true), (20, true), (21, true), (22, true), (23, true), (24, true), (29, true), (30, true), (31, true), (25, false), (26, false), (27, true), (28, true), (32, true), (33, true), (34, true), (35, true), (36, true), (37, true), (39, true), (40, true), (38, false), (41, false), (42, true), (43, true)] (fun W => Turns [] wi.drew W) (by kernel_rfl) rfl (by kernel_rfl) (by intro c d v a w h; cases d <;> first | (simpa [Exit.then, Exit.inBlock, Act.put] using h) | exact h) (Turns.refl _ _) ?_
            generalize wi.drew = wj at *
            generalize wg.heap.size = xb at *
            have x0 : World.cell? (wj) ⟨xb, 0, none⟩ = some _ := (H.blk 0 rfl).cell 0
            have x1 : World.cell? (wj) ⟨xb, 1, none⟩ = some _ := (H.blk 0 rfl).cell 1
            have x2 : World.cell? (wj) ⟨xb, 2, none⟩ = some _ := (H.blk 0 rfl).cell 2
            have x3 : World.cell? (wj) ⟨xb, 3, none⟩ = some _ := (H.blk 0 rfl).cell 3
            have x4 : World.cell? (wj) ⟨xb, 4, none⟩ = some _ := (H.blk 0 rfl).cell 4
            refine flo_read _ rfl (fun K hK => ?_)
            go_simp
            first | (refine hK _ ?_) | (refine ⟨fun W hS => ?_, hK _ ?_⟩; · (have X0 := hS.old x0; have X1 := hS.old x1; have X2 := hS.old x2; have X3 := hS.old x3; have X4 := hS.old x4; have Y0 := hS.old y0; have Y1 := hS.old y1; have Y2 := hS.old y2; have Y3 := hS.old y3; have Y4 := hS.old y4; try go_simp))
            clear hK K
            refine flo_read _ rfl (fun K hK => ?_)
            go_simp
            first | (refine hK _ ?_) | (refine ⟨fun W hS => ?_, hK _ ?_⟩; · (have X0 := hS.old x0; have X1 := hS.old x1; have X2 := hS.old x2; have X3 := hS.old x3; have X4 := hS.old x4; have Y0 := hS.old y0; have Y1 := hS.old y1; have Y2 := hS.old y2; have Y3 := hS.old y3; have Y4 := hS.old y4; try go_simp))
            clear hK K
            refine flo_read _ rfl (fun K hK => ?_)
            go_simp
            first | (refine hK _ ?_) | (refine ⟨fun W hS => ?_, hK _ ?_⟩; · (have X0 := hS.old x0; have X1 := hS.old x1; have X2 := hS.old x2; have X3 := hS.old x3; have X4 := hS.old x4; have Y0 := hS.old y0; have Y1 := hS.old y1; have Y2 := hS.old y2; have Y3 := hS.old y3; have Y4 := hS.old y4; try go_simp))
            clear hK K
            refine flo_read _ rfl (fun K hK => ?_)
            go_simp
            first | (refine hK _ ?_) | (refine ⟨fun W hS => ?_, hK _ ?_⟩; · (have X0 := hS.old x0; have X1 := hS.old x1; have X2 := hS.old x2; have X3 := hS.old x3; have X4 := hS.old x4; have Y0 := hS.old y0; have Y1 := hS.old y1; have Y2 := hS.old y2; have Y3 := hS.old y3; have Y4 := hS.old y4; try go_simp))
            clear hK K
            refine flo_read _ rfl (fun K hK => ?_)
            go_simp
            first | (refine hK _ ?_) | (refine ⟨fun W hS => ?_, hK _ ?_⟩; · (have X0 := hS.old x0; have X1 := hS.old x1; have X2 := hS.old x2; have X3 := hS.old x3; have X4 := hS.old x4; have Y0 := hS.old y0; have Y1 := hS.old y1; have Y2 := hS.old y2; have Y3 := hS.old y3; have Y4 := hS.old y4; try go_simp))
            clear hK K
            refine flo_read _ rfl (fun K hK => ?_)
            go_simp
            first | (refine hK _ ?_) | (refine ⟨fun W hS => ?_, hK _ ?_⟩; · (have X0 := hS.old x0; have X1 := hS.old x1; have X2 := hS.old x2; have X3 := hS.old x3; have X4 := hS.old x4; have Y0 := hS.old y0; have Y1 := hS.old y1; have Y2 := hS.old y2; have Y3 := hS.old y3; have Y4 := hS.old y4; try go_simp))
            clear hK K
            refine flo_read _ rfl (fun K hK => ?_)
            go_simp
            first | (refine hK _ ?_) | (refine ⟨fun W hS => ?_, hK _ ?_⟩; · (have X0 := hS.old x0; have X1 := hS.old x1; have X2 := hS.old x2; have X3 := hS.old x3; have X4 := hS.old x4; have Y0 := hS.old y0; have Y1 := hS.old y1; have Y2 := hS.old y2; have Y3 := hS.old y3; have Y4 := hS.old y4; try go_simp))
            clear hK K
            refine flo_read _ rfl (fun K hK => ?_)
            go_simp
            first | (refine hK _ ?_) | (refine ⟨fun W hS => ?_, hK _ ?_⟩; · (have X0 := hS.old x0; have X1 := hS.old x1; have X2 := hS.old x2; have X3 := hS.old x3; have X4 := hS.old x4; have Y0 := hS.old y0; have Y1 := hS.old y1; have Y2 := hS.old y2; have Y3 := hS.old y3; have Y4 := hS.old y4; try go_simp))
            clear hK K
            refine flo_read _ rfl (fun K hK => ?_)
            go_simp
            first | (refine hK _ ?_) | (refine ⟨fun W hS => ?_, hK _ ?_⟩; · (have X0 := hS.old x0; have X1 := hS.old x1; have X2 := hS.old x2; have X3 := hS.old x3; have X4 := hS.old x4; have Y0 := hS.old y0; have Y1 := hS.old y1; have Y2 := hS.old y2; have Y3 := hS.old y3; have Y4 := hS.old y4; try go_simp))
            clear hK K
            refine flo_read _ rfl (fun K hK => ?_)
            go_simp
            first | (refine hK _ ?_) | (refine ⟨fun W hS => ?_, hK _ ?_⟩; · (have X0 := hS.old x0; have X1 := hS.old x1; have X2 := hS.old x2; have X3 := hS.old x3; have X4 := hS.old x4; have Y0 := hS.old y0; have Y1 := hS.old y1; have Y2 := hS.old y2; have Y3 := hS.old y3; have Y4 := hS.old y4; try go_simp))
            clear hK K
            refine flo_read _ rfl (fun K hK => ?_)
            go_simp
            first | (refine hK _ ?_) | (refine ⟨fun W hS => ?_, hK _ ?_⟩; · (have X0 := hS.old x0; have X1 := hS.old x1; have X2 := hS.old x2; have X3 := hS.old x3; have X4 := hS.old x4; have Y0 := hS.old y0; have Y1 := hS.old y1; have Y2 := hS.old y2; have Y3 := hS.old y3; have Y4 := hS.old y4; try go_simp))
            clear hK K
            refine flo_read _ rfl (fun K hK => ?_)
            go_simp
            first | (refine hK _ ?_) | (refine ⟨fun W hS => ?_, hK _ ?_⟩; · (have X0 := hS.old x0; have X1 := hS.old x1; have X2 := hS.old x2; have X3 := hS.old x3; have X4 := hS.old x4; have Y0 := hS.old y0; have Y1 := hS.old y1; have Y2 := hS.old y2; have Y3 := hS.old y3; have Y4 := hS.old y4; try go_simp))
            clear hK K
            refine flo_read _ rfl (fun K hK => ?_)
            go_simp
            first | (refine hK _ ?_) | (refine ⟨fun W hS => ?_, hK _ ?_⟩; · (have X0 := hS.old x0; have X1 := hS.old x1; have X2 := hS.old x2; have X3 := hS.old x3; have X4 := hS.old x4; have Y0 := hS.old y0; have Y1 := hS.old y1; have Y2 := hS.old y2; have Y3 := hS.old y3; have Y4 := hS.old y4; try go_simp))
            clear hK K
            refine flo_read _ rfl (fun K hK => ?_)
            go_simp
            first | (refine hK _ ?_) | (refine ⟨fun W hS => ?_, hK _ ?_⟩; · (have X0 := hS.old x0; have X1 := hS.old x1; have X2 := hS.old x2; have X3 := hS.old x3; have X4 := hS.old x4; have Y0 := hS.old y0; have Y1 := hS.old y1; have Y2 := hS.old y2; have Y3 := hS.old y3; have Y4 := hS.old y4; try go_simp))
            clear hK K
            refine flo_read _ rfl (fun K hK => ?_)
            go_simp
            first | (refine hK _ ?_) | (refine ⟨fun W hS => ?_, hK _ ?_⟩; · (have X0 := hS.old x0; have X1 := hS.old x1; have X2 := hS.old x2; have X3 := hS.old x3; have X4 := hS.old x4; have Y0 := hS.old y0; have Y1 := hS.old y1; have Y2 := hS.old y2; have Y3 := hS.old y3; have Y4 := hS.old y4; try go_simp))
            clear hK K
            refine flo_read _ rfl (fun K hK => ?_)
            go_simp
            first | (refine hK _ ?_) | (refine ⟨fun W hS => ?_, hK _ ?_⟩; · (have X0 := hS.old x0; have X1 := hS.old x1; have X2 := hS.old x2; have X3 := hS.old x3; have X4 := hS.old x4; have Y0 := hS.old y0; have Y1 := hS.old y1; have Y2 := hS.old y2; have Y3 := hS.old y3; have Y4 := hS.old y4; try go_simp))
            clear hK K
            refine flo_read _ rfl (fun K hK => ?_)
            go_simp
            first | (refine hK _ ?_) | (refine ⟨fun W hS => ?_, hK _ ?_⟩; · (have X0 := hS.old x0; have X1 := hS.old x1; have X2 := hS.old x2; have X3 := hS.old x3; have X4 := hS.old x4; have Y0 := hS.old y0; have Y1 := hS.old y1; have Y2 := hS.old y2; have Y3 := hS.old y3; have Y4 := hS.old y4; try go_simp))
            clear hK K
            refine flo_read _ rfl (fun K hK => ?_)
            go_simp
            first | (refine hK _ ?_) | (refine ⟨fun W hS => ?_, hK _ ?_⟩; · (have X0 := hS.old x0; have X1 := hS.old x1; have X2 := hS.old x2; have X3 := hS.old x3; have X4 := hS.old x4; have Y0 := hS.old y0; have Y1 := hS.old y1; have Y2 := hS.old y2; have Y3 := hS.old y3; have Y4 := hS.old y4; try go_simp))
            clear hK K
            refine flo_read _ rfl (fun K hK => ?_)
            go_simp
            first | (refine hK _ ?_) | (refine ⟨fun W hS => ?_, hK _ ?_⟩; · (have X0 := hS.old x0; have X1 := hS.old x1; have X2 := hS.old x2; have X3 := hS.old x3; have X4 := hS.old x4; have Y0 := hS.old y0; have Y1 := hS.old y1; have Y2 := hS.old y2; have Y3 := hS.old y3; have Y4 := hS.old y4; try go_simp))
            clear hK K
            refine flo_read _ rfl (fun K hK => ?_)
            go_simp
            first | (refine hK _ ?_) | (refine ⟨fun W hS => ?_, hK _ ?_⟩; · (have X0 := hS.old x0; have X1 := hS.old x1; have X2 := hS.old x2; have X3 := hS.old x3; have X4 := hS.old x4; have Y0 := hS.old y0; have Y1 := hS.old y1; have Y2 := hS.old y2; have Y3 := hS.old y3; have Y4 := hS.old y4; try go_simp))
            clear hK K
            refine flo_read _ rfl (fun K hK => ?_)
            go_simp
            first | (refine hK _ ?_) | (refine ⟨fun W hS => ?_, hK _ ?_⟩; · (have X0 := hS.old x0; have X1 := hS.old x1; have X2 := hS.old x2; have X3 := hS.old x3; have X4 := hS.old x4; have Y0 := hS.old y0; have Y1 := hS.old y1; have Y2 := hS.old y2; have Y3 := hS.old y3; have Y4 := hS.old y4; try go_simp))
            clear hK K
            refine flo_read _ rfl (fun K hK => ?_)
            go_simp
            first | (refine hK _ ?_) | (refine ⟨fun W hS => ?_, hK _ ?_⟩; · (have X0 := hS.old x0; have X1 := hS.old x1; have X2 := hS.old x2; have X3 := hS.old x3; have X4 := hS.old x4; have Y0 := hS.old y0; have Y1 := hS.old y1; have Y2 := hS.old y2; have Y3 := hS.old y3; have Y4 := hS.old y4; try go_simp))
            clear hK K
            refine flo_read _ rfl (fun K hK => ?_)
            go_simp
            first | (refine hK _ ?_) | (refine ⟨fun W hS => ?_, hK _ ?_⟩; · (have X0 := hS.old x0; have X1 := hS.old x1; have X2 := hS.old x2; have X3 := hS.old x3; have X4 := hS.old x4; have Y0 := hS.old y0; have Y1 := hS.old y1; have Y2 := hS.old y2; have Y3 := hS.old y3; have Y4 := hS.old y4; try go_simp))
            clear hK K
            refine flo_read _ rfl (fun K hK => ?_)
            go_simp
            first | (refine hK _ ?_) | (refine ⟨fun W hS => ?_, hK _ ?_⟩; · (have X0 := hS.old x0; have X1 := hS.old x1; have X2 := hS.old x2; have X3 := hS.old x3; have X4 := hS.old x4; have Y0 := hS.old y0; have Y1 := hS.old y1; have Y2 := hS.old y2; have Y3 := hS.old y3; have Y4 := hS.old y4; try go_simp))
            clear hK K
            refine flo_read _ rfl (fun K hK => ?_)
            go_simp
            first | (refine hK _ ?_) | (refine ⟨fun W hS => ?_, hK _ ?_⟩; · (have X0 := hS.old x0; have X1 := hS.old x1; have X2 := hS.old x2; have X3 := hS.old x3; have X4 := hS.old x4; have Y0 := hS.old y0; have Y1 := hS.old y1; have Y2 := hS.old y2; have Y3 := hS.old y3; have Y4 := hS.old y4; try go_simp))
            clear hK K
            refine flo_read _ rfl (fun K hK => ?_)
            go_simp
            first | (refine hK _ ?_) | (refine ⟨fun W hS => ?_, hK _ ?_⟩; · (have X0 := hS.old x0; have X1 := hS.old x1; have X2 := hS.old x2; have X3 := hS.old x3; have X4 := hS.old x4; have Y0 := hS.old y0; have Y1 := hS.old y1; have Y2 := hS.old y2; have Y3 := hS.old y3; have Y4 := hS.old y4; try go_simp))
            clear hK K
            refine flo_read _ rfl (fun K hK => ?_)
            go_simp
            first | (refine hK _ ?_) | (refine ⟨fun W hS => ?_, hK _ ?_⟩; · (have X0 := hS.old x0; have X1 := hS.old x1; have X2 := hS.old x2; have X3 := hS.old x3; have X4 := hS.old x4; have Y0 := hS.old y0; have Y1 := hS.old y1; have Y2 := hS.old y2; have Y3 := hS.old y3; have Y4 := hS.old y4; try go_simp))
            clear hK K
            refine flo_read _ rfl (fun K hK => ?_)
            go_simp
            first | (refine hK _ ?_) | (refine ⟨fun W hS => ?_, hK _ ?_⟩; · (have X0 := hS.old x0; have X1 := hS.old x1; have X2 := hS.old x2; have X3 := hS.old x3; have X4 := hS.old x4; have Y0 := hS.old y0; have Y1 := hS.old y1; have Y2 := hS.old y2; have Y3 := hS.old y3; have Y4 := hS.old y4; try go_simp))
            clear hK K
            refine flo_alone _ rfl ?_
            go_wp2_with fail
            have t6 := (Turns.refl [] wj).alloc (.cells #[.int .i64 x.id, .int .i64 x.key, .int .i64 x.cost, .int .i64 x.cls, .int .i64 x.until_] 34)
            have hs2 := Lib.hid (oneIt (H.alloc #[.int .i64 x.id, .int .i64 x.key, .int .i64 x.cost, .int .i64 x.cls, .int .i64 x.until_] 34 |>.blk 0 rfl))
            replace H := H.turns t6
            refine ⟨fun W => Turns [] (wj.alloc (.cells #[.int .i64 x.id, .int .i64 x.key, .int .i64 x.cost, .int .i64 x.cls, .int .i64 x.until_] 34)) W, fun W h => t6.trans h, Turns.refl _ _, ?_⟩
            clear x0 x1 x2 x3 x4 y0 y1 y2 y3 y4 t6
            generalize wj.alloc (.cells #[.int .i64 x.id, .int .i64 x.key, .int .i64 x.cost, .int .i64 x.cls, .int .i64 x.until_] 34) = wn at *
            refine flo_alone _ rfl ?_
            go_wp2_with fail
            go_at_call 39
            refine Calls.mono (Q7.out _ _ hs2.out) ?_
            rintro e wo ⟨vo, rfl, oo, to, _⟩
            go_wp2_with fail
            refine ⟨fun W => Turns [] wo W, fun W h => to.trans h, Turns.refl _ _, ?_⟩
            replace H := H.turns to
            obtain ⟨ao, co, rfl, LX⟩ := icells_at (j := 0) (x := x) oo.reads rfl
            obtain ⟨x0, x1, x2, x3, x4⟩ := LX
            simp only [Nat.zero_mul, Addr.add, if_true] at x0 x1 x2 x3 x4
            clear oo to hs2 Q7
            refine flo_read _ rfl (fun K hK => ?_)
            go_simp
            first | (refine hK _ ?_) | (refine ⟨fun W hS => ?_, hK _ ?_⟩; · (have X0 := hS.old x0; have X1 := hS.old x1; have X2 := hS.old x2; have X3 := hS.old x3; have X4 := hS.old x4; try go_simp))
            clear hK K
            refine flo_read _ rfl (fun K hK => ?_)
            go_simp
            first | (refine hK _ ?_) | (refine ⟨fun W hS => ?_, hK _ ?_⟩; · (have X0 := hS.old x0; have X1 := hS.old x1; have X2 := hS.old x2; have X3 := hS.old x3; have X4 := hS.old x4; try go_simp))
            clear hK K
            refine flo_read _ rfl (fun K hK => ?_)
            go_simp
            first | (refine hK _ ?_) | (refine ⟨fun W hS => ?_, hK _ ?_⟩; · (have X0 := hS.old x0; have X1 := hS.old x1; have X2 := hS.old x2; have X3 := hS.old x3; have X4 := hS.old x4; try go_simp))
            clear hK K
            refine flo_read _ rfl (fun K hK => ?_)
            go_simp
            first | (refine hK _ ?_) | (refine ⟨fun W hS => ?_, hK _ ?_⟩; · (have X0 := hS.old x0; have X1 := hS.old x1; have X2 := hS.old x2; have X3 := hS.old x3; have X4 := hS.old x4; try go_simp))
            clear hK K
            refine flo_read _ rfl (fun K hK => ?_)
            go_simp
            first | (refine hK _ ?_) | (refine ⟨fun W hS => ?_, hK _ ?_⟩; · (have X0 := hS.old x0; have X1 := hS.old x1; have X2 := hS.old x2; have X3 := hS.old x3; have X4 := hS.old x4; try go_simp))
            clear hK K
            refine flo_read _ rfl (fun K hK => ?_)
            go_simp
            first | (refine hK _ ?_) | (refine ⟨fun W hS => ?_, hK _ ?_⟩; · (have X0 := hS.old x0; have X1 := hS.old x1; have X2 := hS.old x2; have X3 := hS.old x3; have X4 := hS.old x4; try go_simp))
            clear hK K
            refine flo_read _ rfl (fun K hK => ?_)
            go_simp
            first | (refine hK _ ?_) | (refine ⟨fun W hS => ?_, hK _ ?_⟩; · (have X0 := hS.old x0; have X1 := hS.old x1; have X2 := hS.old x2; have X3 := hS.old x3; have X4 := hS.old x4; try go_simp))
            clear hK K
            refine flo_read _ rfl (fun K hK => ?_)
            go_simp
            first | (refine hK _ ?_) | (refine ⟨fun W hS => ?_, hK _ ?_⟩; · (have X0 := hS.old x0; have X1 := hS.old x1; have X2 := hS.old x2; have X3 := hS.old x3; have X4 := hS.old x4; try go_simp))
            clear hK K
            refine flo_read _ rfl (fun K hK => ?_)
            go_simp
            first | (refine hK _ ?_) | (refine ⟨fun W hS => ?_, hK _ ?_⟩; · (have X0 := hS.old x0; have X1 := hS.old x1; have X2 := hS.old x2; have X3 := hS.old x3; have X4 := hS.old x4; try go_simp))
            clear hK K
            refine flo_read _ rfl (fun K hK => ?_)
            go_simp
            first | (refine hK _ ?_) | (refine ⟨fun W hS => ?_, hK _ ?_⟩; · (have X0 := hS.old x0; have X1 := hS.old x1; have X2 := hS.old x2; have X3 := hS.old x3; have X4 := hS.old x4; try go_simp))
            clear hK K
            clear x0 x1 x2 x3 x4
            refine flo_alone _ rfl ?_
            go_wp2_with fail
            go_at_call 44
            refine Calls.mono (Z1.out _ (H.got [1, 2])) ?_
            rintro e wk ⟨rfl, tk⟩
            go_wp2_with fail
            refine ⟨fun W => Turns [] wk W, fun W h => tk.trans h, Turns.refl _ _, ?_⟩
            replace H := H.turns tk
            refine flo_alone _ rfl ?_
            go_wp2_with fail
            go_at_call 45
            refine Calls.mono (Z2.out _ (H.got [3, 4])) ?_
            rintro e wl ⟨rfl, tl⟩
            go_wp2_with fail
            refine ⟨fun W => Turns [] wl W, fun W h => tl.trans h, Turns.refl _ _, ?_⟩
            replace H := (H.turns tl).keep [1, 2, 3, 4]
            clear tk tl Z1 Z2
            refine flo_read _ rfl (fun K hK => ?_)
            go_simp
            first | (refine hK _ ?_) | (refine ⟨fun W hS => ?_, hK _ ?_⟩; · (skip; try go_simp))
            clear hK K
            refine flo_read _ rfl (fun K hK => ?_)
            go_simp
            first | (refine hK _ ?_) | (refine ⟨fun W hS => ?_, hK _ ?_⟩; · (skip; try go_simp))
            clear hK K
            refine flo_end ?_
            go_wp2_with fail
            go_roundw
            case rel => exact ⟨k + 1, l, iv2, lv2, by omega, by go_num, hch.out, hnh.out, H⟩
            case measure => simp [RowKit.intOf]; omega
        · obtain rfl : k = acts.length := by omega
          have g2 : decide ((acts.length : Int) < (acts.length : Int)) = false := by simp
          have T0 := H1.t
          clear H1 hc0 hn0
          go_wp2_with fail
          go_at_call 13
          refine Calls.mono (first_nil _) ?_
          rintro e wa ⟨rfl, ta⟩
          unfold It.v It.zero
          go_wp2_with fail
          go_at_call 14
          refine Calls.mono (take_nil _ 1) ?_
          rintro e wb ⟨rfl, tb⟩
          unfold It.v It.zero
          go_wp2_with fail
          go_at_call 9
          refine Calls.mono (alive_any _) ?_
          rintro e wc ⟨rfl, tc⟩
          go_wp2_with fail
          go_at_call 46
          refine Calls.mono (put_nil _ ⟨0, 0, 1, 0, 0⟩) ?_
          rintro e wd ⟨rfl, td⟩
          go_wp2_with fail
          go_at_call 47
          refine Calls.mono (Qg.expire_nil _ 1) ?_
          rintro e we ⟨rfl, te⟩
          go_wp2_with fail
          go_at_call 40
          refine Calls.mono (of_nil _ 1) ?_
          rintro e wf ⟨rfl, tf⟩
          go_wp2_with fail
          go_at_call 42
          refine Calls.mono (keys_nil _) ?_
          rintro e wg ⟨rfl, tg⟩
          go_wp2_with fail
          go_at_call 12
          refine Calls.mono (all_nil _) ?_
          rintro e wh ⟨rfl, th⟩
          go_wp2_with fail
          go_at_call 44
          refine Calls.mono (sum_nil _) ?_
          rintro e wi ⟨rfl, ti⟩
          have T1 := (((((((T0.trans ta).alloc (.cells #[.int .i64 0, .int .i64 0, .int .i64 0, .int .i64 0, .int .i64 0] 34)).trans tb).alloc (.cells #[.int .i64 0, .int .i64 0, .int .i64 0, .int .i64 0, .int .i64 0] 34)).trans tc).trans td).trans te).trans tf
          have hX := hXh.out _ (((T1.trans tg).trans th).trans ti)
          clear T0 T1 ta tb tc td te tf tg th ti
          go_wp2_with fail
          exact hX
    · have N1 := Lib.hid (Qe.new_no w room (by omega))
      have R1 := Lib.hid (fun w => Qw.right_is w room)
      rw [decide_eq_false hr] at R1
      clear H hr
      go_enter Try.func7, Try.ntmps7
      go_wp2_with fail
      go_at_call 10
      refine Calls.mono (N1.out) ?_
      rintro e w1 ⟨rfl, t1⟩
      go_wp2_with fail
      go_at_call 37
      refine Calls.mono (R1.out _) ?_
      rintro e w2 ⟨rfl, t2⟩
      go_wp2_with fail
      go_at_call 9
      refine Calls.mono (alive_any _) ?_
      rintro e w3 ⟨rfl, t3⟩
      have hX := hXh.out _ ((t1.trans t2).trans t3)
      go_wp2_with fail
      exact hX
end Go.Proofs.Ytoojemdehmabhaa.Zb
