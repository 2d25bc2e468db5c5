/- The walk of the document's wallet: Put. -/
import Derived.Test.YtcmaloncfdmpnaaLg
import Derived.Deep.QuietTactic
set_option linter.unusedVariables false
set_option linter.unusedSimpArgs false
set_option maxRecDepth 100000
namespace Go.Proofs.Ytcmaloncfdmpnaa.Lh
open Go.RowKit Go.MapKept Hm Hs Hf Hg Hk Hx Hy Hv Hl Sm Sat Wa Lw La Lb Ld Le Lf Lg
theorem put_bad (x : Lea) (w : World) (d : Nat) (hx : badB x = true) : Calls Try.prog 111 #[.pointer (some ⟨d, 0, none⟩), x.v] w fun e w' => e = .returned (.int .i64 1) ∧ Turns [] w w' := by
  unfold Lea.v
  unfold badB at hx
  by_cases h1 : x.gen < 1
  · have h1' := decide_eq_true h1
    clear hx h1
    go_enter Try.func111, Try.ntmps111
    go_wp2_with fail
    go_ret
    exact ⟨rfl, (Turns.refl _ _).alloc _⟩
  · have h1' := decide_eq_false h1
    by_cases h2 : x.amount < 1
    · have h2' := decide_eq_true h2
      clear hx h1 h2
      go_enter Try.func111, Try.ntmps111
      go_wp2_with fail
      go_ret
      exact ⟨rfl, (Turns.refl _ _).alloc _⟩
    · have h2' := decide_eq_false h2
      by_cases h3 : x.spent = 0
      · by_cases h4 : x.until_ < 0
        · have h4' := decide_eq_true h4
          have h3' : (x.spent != 0) = false := by simp [h3]
          clear hx h1 h2 h3 h4
          go_enter Try.func111, Try.ntmps111
          go_wp2_with fail
          go_ret
          exact ⟨rfl, (Turns.refl _ _).alloc _⟩
        · simp [h1, h2, h3, h4] at hx
      · have h3' : (x.spent != 0) = true := by simp [h3]
        clear hx h1 h2 h3
        go_enter Try.func111, Try.ntmps111
        go_wp2_with fail
        go_ret
        exact ⟨rfl, (Turns.refl _ _).alloc _⟩
abbrev xc (x : Lea) : Array Value := #[.int .i64 x.key, .int .i64 x.gen, .int .i64 x.amount, .int .i64 x.spent, .int .i64 x.until_]
set_option maxHeartbeats 4000000 in
theorem put_is (x : Lea) (w : World) (d : Nat) (lv : Value) (R : List Lea) (h : Got (rw11 d lv R) w) (hn : R.length ≤ 100000) (n : Int) (R' : List Lea) (hR : putD R x = (n, R')) :
    Calls Try.prog 111 #[.pointer (some ⟨d, 0, none⟩), x.v] w (DOut w d lv R R' (.int .i64 n)) := by
  unfold putD at hR
  by_cases hb : badB x = true
  · rw [if_pos hb] at hR
    simp only [Prod.mk.injEq] at hR
    obtain ⟨rfl, rfl⟩ := hR
    refine (put_bad x w d hb).mono ?_
    rintro e w' ⟨rfl, t⟩
    exact ⟨rfl, lv, h.sep.turns t⟩
  · rw [if_neg hb] at hR
    obtain ⟨b1, b2, b3, b4⟩ := bad_no (by simpa using hb)
    clear hb
    unfold Lea.v
    have hA := fun w lv h => at_is w d lv R x.key h (by omega)
    have H := h.sep
    generalize hFF : fps (rw11 d lv R) = FF at H
    obtain ⟨A, c, rfl, _⟩ := (H.own 1 rfl).form
    have hX : ∀ w' lv', Sep FF w (rw11 d lv' R') w' → DOut w d (.slice A (R.map Lea.cells).length c) R R' (.int .i64 n) (.returned (.int .i64 n)) w' := fun w' lv' h1 => ⟨rfl, lv', by rw [hFF]; exact h1⟩
    generalize DOut w d (.slice A (R.map Lea.cells).length c) R R' (.int .i64 n) = X at *
    rw [List.length_map] at H
    have hAh := Lib.hid hA
    clear hFF h hA
    replace H := H.alloc #[.int .i64 x.key, .int .i64 x.gen, .int .i64 x.amount, .int .i64 x.spent, .int .i64 x.until_] 162
    have hAc := Lib.hid (hAh.out _ _ (H.got [1, 2]))
    clear hAh
    rcases pos_is R x.key with ⟨p1, p2⟩ | ⟨i, y, p1, p2, p3, p4⟩
    · rw [p2] at hR
      simp only [Prod.mk.injEq] at hR
      obtain ⟨rfl, rfl⟩ := hR
      have hXh := Lib.hid hX
      rw [p1] at hAc
      clear hX p1 p2
      go_enter Try.func111, Try.ntmps111
      go_wp2_with fail
      go_at_call 116
      refine Calls.mono (hAc.out) ?_
      rintro e w1 ⟨rfl, t1⟩
      replace H := H.turns t1
      clear t1 hAc
      replace H := H.nilSlice 162 5
      generalize w.heap.size = xb at *
      clear b1 b2 b3 b4
      have hHh := Lib.hid H
      clear H
      go_wp2_with fail
      have H := hHh.out
      clear hHh
      go_loopw [5, 6, 7] (fun v5 v6 v7 wr => ∃ (j : Nat) (a : List Lea × Bool), j ≤ R.length ∧ v7 = .int .i64 j ∧ a = (R.take j).foldl (pst x) ([], false) ∧ v6 = .bool a.2 ∧ Sep FF w [tOwn 162 5 v5 (a.1.map Lea.cells), tBlk xb #[.int .i64 x.key, .int .i64 x.gen, .int .i64 x.amount, .int .i64 x.spent, .int .i64 x.until_] 162, tBlk d #[.slice A R.length c] 105, tOwn 162 5 (.slice A R.length c) (R.map Lea.cells)] wr) (fun _ _ v7 _ => R.length - (RowKit.intOf v7).toNat)
      case atStart => exact ⟨0, ([], false), by omega, rfl, rfl, rfl, H⟩
      case round =>
        obtain ⟨j, a, hj, rfl, ha, rfl, H2⟩ := hrel
        clear H
        have H := H2
        clear H2
        obtain ⟨N, c3, rfl, _⟩ := formM (H.own 0 rfl)
        have hah := Lib.hid ha
        clear ha
        have c0 : World.cell? (wr) ⟨d, 0, none⟩ = some _ := (H.blk 2 rfl).cell 0
        have cf0 : World.frozen? (wr) ⟨d, 0, none⟩ = false := (H.blk 2 rfl).frozen 0
        obtain ⟨l, dn⟩ := a
        have hal : l.length ≤ 300000 := by have := pst_len x (R.take j) ([], false); rw [← hah.out, List.length_take] at this; simp at this; omega
        by_cases hjl : j < R.length
        · have g3 : decide ((j : Int) < (R.length : Int)) = true := by simp; omega
          obtain ⟨y, hy⟩ : ∃ y, R[j]? = some y := ⟨_, List.getElem?_eq_getElem hjl⟩
          have hyh := Lib.hid hy
          have hnx2 : (R.take (j + 1)).foldl (pst x) ([], false) = pst x (l, dn) y := by rw [List.take_add_one, hy, List.foldl_append, ← hah.out]; rfl
          have hnx2h := Lib.hid hnx2
          clear hy hnx2
          obtain ⟨ad, c', hv, L⟩ := lcells_at (H.own 3 rfl).reads hyh.out
          injection hv with e1 e2 e3
          subst e1 e3
          clear e2
          have x0 : World.cell? (wr) ⟨xb, 0, none⟩ = some _ := (H.blk 1 rfl).cell 0
          have i0 := L.k
          clear L
          cases dn with
          | true =>
            go_wp2_with fail
            go_quiet (fail)
            replace H := H.drewN nq
            generalize wr.drewN nq = wq at *
            clear c0 cf0 x0 i0
            have c0 : World.cell? (wq) ⟨d, 0, none⟩ = some _ := (H.blk 2 rfl).cell 0
            obtain ⟨ad2, c2', hv2, L⟩ := lcells_at (H.own 3 rfl).reads hyh.out
            injection hv2 with e1 e2 e3
            injection e1 with e1
            subst e1 e3
            obtain ⟨i0, i1, i2, i3, i4⟩ := L
            replace H := H.alloc #[.int .i64 y.key, .int .i64 y.gen, .int .i64 y.amount, .int .i64 y.spent, .int .i64 y.until_] 162
            have hs2h := Lib.hid (oneLea (H.blk 0 rfl))
            clear e2
            go_wp2_with (at_builtin; refine stop_ ?_)
            refine Mk_.mk ?_
            refine H.append 1 rfl hs2h.out (l.length + 1) (by simp) ((l ++ [y]).map Lea.cells) (by rw [List.map_append]) rfl _ _ _ rfl (.agg #[.int .i64 0, .int .i64 0, .int .i64 0, .int .i64 0, .int .i64 0]) 40 Try.underlying103 infoM rfl (by decide) rfl rfl (mcells_one _) (by omega) (by omega) ?_
            clear H hs2h
            intro N c3 wn H tn _
            clear tn c0 i0 i1 i2 i3 i4
            replace H := H.lose [0]
            go_wp2_with fail
            go_roundw
            case rel => exact ⟨j + 1, (l ++ [y], true), by omega, by go_num, by rw [hnx2h.out]; unfold pst; simp, rfl, H⟩
            case measure => simp [RowKit.intOf]; omega
          | false =>
            by_cases hgt : y.key > x.key
            · have g4 : decide (y.key > x.key) = true := decide_eq_true hgt
              have hgth := Lib.hid hgt
              clear hgt
              go_wp2_with fail
              go_quiet (fail)
              replace H := H.drewN nq
              generalize wr.drewN nq = wq at *
              clear c0 cf0 x0 i0
              have x0 : World.cell? (wq) ⟨xb, 0, none⟩ = some _ := (H.blk 1 rfl).cell 0
              have x1 : World.cell? (wq) ⟨xb, 1, none⟩ = some _ := (H.blk 1 rfl).cell 1
              have x2 : World.cell? (wq) ⟨xb, 2, none⟩ = some _ := (H.blk 1 rfl).cell 2
              have x3 : World.cell? (wq) ⟨xb, 3, none⟩ = some _ := (H.blk 1 rfl).cell 3
              have x4 : World.cell? (wq) ⟨xb, 4, none⟩ = some _ := (H.blk 1 rfl).cell 4
              replace H := H.alloc #[.int .i64 x.key, .int .i64 x.gen, .int .i64 x.amount, .int .i64 x.spent, .int .i64 x.until_] 162
              have hs2h := Lib.hid (oneLea (H.blk 0 rfl))
              go_wp2_with (at_builtin; refine stop_ ?_)
              refine Mk_.mk ?_
              refine H.append 1 rfl hs2h.out (l.length + 1) (by simp) ((l ++ [x]).map Lea.cells) (by rw [List.map_append]) rfl _ _ _ rfl (.agg #[.int .i64 0, .int .i64 0, .int .i64 0, .int .i64 0, .int .i64 0]) 40 Try.underlying103 infoM rfl (by decide) rfl rfl (mcells_one _) (by omega) (by omega) ?_
              clear H hs2h
              intro N c3 wn H tn _
              clear tn x0 x1 x2 x3 x4
              replace H := H.lose [0]
              have c0 : World.cell? (wn) ⟨d, 0, none⟩ = some _ := (H.blk 2 rfl).cell 0
              obtain ⟨ad2, c2', hv2, L⟩ := lcells_at (H.own 3 rfl).reads hyh.out
              injection hv2 with e1 e2 e3
              injection e1 with e1
              subst e1 e3
              obtain ⟨i0, i1, i2, i3, i4⟩ := L
              have hll : (l ++ [x]).length = l.length + 1 := by simp
              have hllh := Lib.hid hll
              replace H := H.alloc #[.int .i64 y.key, .int .i64 y.gen, .int .i64 y.amount, .int .i64 y.spent, .int .i64 y.until_] 162
              have hs2h := Lib.hid (oneLea (H.blk 0 rfl))
              clear e2 hll
              go_wp2_with (at_builtin; refine stop_ ?_)
              refine Mk_.mk ?_
              refine H.append 1 rfl hs2h.out (l.length + 1 + 1) (by simp) ((l ++ [x] ++ [y]).map Lea.cells) (by rw [List.map_append]) rfl _ _ _ rfl (.agg #[.int .i64 0, .int .i64 0, .int .i64 0, .int .i64 0, .int .i64 0]) 40 Try.underlying103 infoM rfl (by decide) rfl rfl (mcells_one _) (by omega) (by omega) ?_
              clear H hs2h
              intro N c3 wn2 H tn _
              clear tn c0 i0 i1 i2 i3 i4
              replace H := H.lose [0]
              go_wp2_with fail
              go_roundw
              case rel => exact ⟨j + 1, (l ++ [x] ++ [y], true), by omega, by go_num, by rw [hnx2h.out]; unfold pst; simp [hgth.out], rfl, H⟩
              case measure => simp [RowKit.intOf]; omega
            · have g4 : decide (y.key > x.key) = false := decide_eq_false hgt
              have hgth := Lib.hid hgt
              clear hgt
              go_wp2_with fail
              go_quiet (fail)
              replace H := H.drewN nq
              generalize wr.drewN nq = wq at *
              clear c0 cf0 x0 i0
              have c0 : World.cell? (wq) ⟨d, 0, none⟩ = some _ := (H.blk 2 rfl).cell 0
              obtain ⟨ad2, c2', hv2, L⟩ := lcells_at (H.own 3 rfl).reads hyh.out
              injection hv2 with e1 e2 e3
              injection e1 with e1
              subst e1 e3
              obtain ⟨i0, i1, i2, i3, i4⟩ := L
              replace H := H.alloc #[.int .i64 y.key, .int .i64 y.gen, .int .i64 y.amount, .int .i64 y.spent, .int .i64 y.until_] 162
              have hs2h := Lib.hid (oneLea (H.blk 0 rfl))
              clear e2
              go_wp2_with (at_builtin; refine stop_ ?_)
              refine Mk_.mk ?_
              refine H.append 1 rfl hs2h.out (l.length + 1) (by simp) ((l ++ [y]).map Lea.cells) (by rw [List.map_append]) rfl _ _ _ rfl (.agg #[.int .i64 0, .int .i64 0, .int .i64 0, .int .i64 0, .int .i64 0]) 40 Try.underlying103 infoM rfl (by decide) rfl rfl (mcells_one _) (by omega) (by omega) ?_
              clear H hs2h
              intro N c3 wn H tn _
              clear tn c0 i0 i1 i2 i3 i4
              replace H := H.lose [0]
              go_wp2_with fail
              go_roundw
              case rel => exact ⟨j + 1, (l ++ [y], false), by omega, by go_num, by rw [hnx2h.out]; unfold pst; simp [hgth.out], rfl, H⟩
              case measure => simp [RowKit.intOf]; omega
        · obtain rfl : j = R.length := by omega
          have g3 : decide ((R.length : Int) < (R.length : Int)) = false := by simp
          have hfin : pin x R = pend x (l, dn) := by unfold pin; rw [hah.out, List.take_length]
          rw [hfin] at hXh
          cases dn with
          | true =>
            have hX := hXh.out _ (.slice N l.length c3) ((H.set 2 rfl 0 (.slice N l.length c3)).keep [2, 0])
            clear H
            go_wp2_with fail
            exact hX
          | false =>
            have x0 : World.cell? (wr) ⟨xb, 0, none⟩ = some _ := (H.blk 1 rfl).cell 0
            have x1 : World.cell? (wr) ⟨xb, 1, none⟩ = some _ := (H.blk 1 rfl).cell 1
            have x2 : World.cell? (wr) ⟨xb, 2, none⟩ = some _ := (H.blk 1 rfl).cell 2
            have x3 : World.cell? (wr) ⟨xb, 3, none⟩ = some _ := (H.blk 1 rfl).cell 3
            have x4 : World.cell? (wr) ⟨xb, 4, none⟩ = some _ := (H.blk 1 rfl).cell 4
            replace H := H.alloc #[.int .i64 x.key, .int .i64 x.gen, .int .i64 x.amount, .int .i64 x.spent, .int .i64 x.until_] 162
            have hs2h := Lib.hid (oneLea (H.blk 0 rfl))
            go_wp2_with (at_builtin; refine stop_ ?_)
            refine Mk_.mk ?_
            refine H.append 1 rfl hs2h.out (l.length + 1) (by simp) ((l ++ [x]).map Lea.cells) (by rw [List.map_append]) rfl _ _ _ rfl (.agg #[.int .i64 0, .int .i64 0, .int .i64 0, .int .i64 0, .int .i64 0]) 40 Try.underlying103 infoM rfl (by decide) rfl rfl (mcells_one _) (by omega) (by omega) ?_
            clear H hs2h
            intro N c3 wn H tn _
            clear tn x0 x1 x2 x3 x4 c0 cf0
            replace H := H.lose [0]
            have c0 : World.cell? (wn) ⟨d, 0, none⟩ = some _ := (H.blk 2 rfl).cell 0
            have cf0 : World.frozen? (wn) ⟨d, 0, none⟩ = false := (H.blk 2 rfl).frozen 0
            have hX := hXh.out _ (.slice N (l.length + 1) c3) ((H.set 2 rfl 0 (.slice N (l.length + 1) c3)).keep [2, 0])
            clear H
            go_wp2_with fail
            exact hX
    · rw [p3] at hR
      simp only [Prod.mk.injEq] at hR
      obtain ⟨rfl, rfl⟩ := hR
      have hXh := Lib.hid hX
      rw [p4] at hAc
      have g0 : decide ((i : Int) ≥ 0) = true := by simp
      clear hX p1 p2 p3 p4
      go_enter Try.func111, Try.ntmps111
      go_wp2_with fail
      go_at_call 116
      refine Calls.mono (hAc.out) ?_
      rintro e w1 ⟨rfl, t1⟩
      have hX := hXh.out _ _ ((H.turns t1).keep [1, 2])
      clear H t1
      go_wp2_with fail
      exact hX
end Go.Proofs.Ytcmaloncfdmpnaa.Lh
