/- The walks of the document's queue: Take, Put. -/
import Derived.Test.YtoojemdehmabhaaQw
import Derived.Test.YtoojemdehmabhaaQt
set_option linter.unusedVariables false
set_option linter.unusedSimpArgs false
set_option maxRecDepth 100000
namespace Go.Proofs.Ytoojemdehmabhaa.Qx
open Go.RowKit Go.MapKept Go.Shelf Hm Hs Hf Hg Hx Hy Hv Qa Qb Qe Qh Qi Qj Qv
theorem erase_next {R : List It} {i j : Nat} {x : It} (h : R[j]? = some x) : (R.take (j + 1)).eraseIdx i = if j = i then (R.take j).eraseIdx i else (R.take j).eraseIdx i ++ [x] := by
  have hj := (List.getElem?_eq_some_iff.1 h).1
  have hl : (R.take j).length = j := by rw [List.length_take]; omega
  rw [List.take_add_one, h]
  show (R.take j ++ [x]).eraseIdx i = _
  split
  · rename_i e
    subst e
    have e2 : (R.take j).eraseIdx j = R.take j := List.eraseIdx_of_length_le (by omega)
    rw [List.eraseIdx_append_of_length_le (by omega), e2, hl, Nat.sub_self]
    simp
  · rename_i e
    by_cases h2 : i < j
    · rw [List.eraseIdx_append_of_lt_length (by omega)]
    · rw [List.eraseIdx_of_length_le (by simp; omega), List.eraseIdx_of_length_le (by omega)]
set_option maxHeartbeats 1000000 in
theorem rtake_none (w : World) (d : Nat) (room : Int) (lv : Value) (R : List It) (id : Int) (h : Got (rq d room lv R) w) (hn : R.length ≤ 100000) (hp : posQ R id = -1) : Calls Try.prog 53 #[.pointer (some ⟨d, 0, none⟩), .int .i64 id] w fun e w' => e = .returned (.tuple #[It.zero.v, .bool false]) ∧ Turns [] w w' := by
  have H := (Sep.start w).alloc #[.int .i64 0, .int .i64 0, .int .i64 0, .int .i64 0, .int .i64 0] 84
  have Ph := Lib.hid (at_is _ d room lv R id (((h.sep.turns H.t)).got [0, 1]) (by omega))
  rw [hp] at Ph
  have hHh := Lib.hid H
  unfold It.v It.zero
  clear h hp H
  go_enter Try.func53, Try.ntmps53
  go_wp2_with fail
  go_at_call 100
  refine Calls.mono (Ph.out) ?_
  rintro e w1 ⟨rfl, t1⟩
  have H := hHh.out.turns t1
  have z0 : World.cell? (w1) ⟨w.heap.size, 0, none⟩ = some _ := (H.blk 0 rfl).cell 0
  have zf0 : World.frozen? (w1) ⟨w.heap.size, 0, none⟩ = false := (H.blk 0 rfl).frozen 0
  have z1 : World.cell? (w1) ⟨w.heap.size, 1, none⟩ = some _ := (H.blk 0 rfl).cell 1
  have zf1 : World.frozen? (w1) ⟨w.heap.size, 1, none⟩ = false := (H.blk 0 rfl).frozen 1
  have z2 : World.cell? (w1) ⟨w.heap.size, 2, none⟩ = some _ := (H.blk 0 rfl).cell 2
  have zf2 : World.frozen? (w1) ⟨w.heap.size, 2, none⟩ = false := (H.blk 0 rfl).frozen 2
  have z3 : World.cell? (w1) ⟨w.heap.size, 3, none⟩ = some _ := (H.blk 0 rfl).cell 3
  have zf3 : World.frozen? (w1) ⟨w.heap.size, 3, none⟩ = false := (H.blk 0 rfl).frozen 3
  have z4 : World.cell? (w1) ⟨w.heap.size, 4, none⟩ = some _ := (H.blk 0 rfl).cell 4
  have zf4 : World.frozen? (w1) ⟨w.heap.size, 4, none⟩ = false := (H.blk 0 rfl).frozen 4
  have H7 := ((((H.set 0 rfl 0 (.int .i64 0)).set 0 rfl 1 (.int .i64 0)).set 0 rfl 2 (.int .i64 0)).set 0 rfl 3 (.int .i64 0)).set 0 rfl 4 (.int .i64 0)
  have hR := H7.blk 0 rfl
  have T := H7.t
  clear H H7 hHh Ph t1
  go_wp2_with fail
  refine bodyPost_ret (res_list (rs := [.cell 4 84, .tmp 5]) rfl (by simp) (.cell w.heap.size _ _ _ rfl hR Try.underlying84 rfl (by kernel_rfl) (.tmp .nil))) rfl ?_
  exact ⟨rfl, T⟩
set_option maxHeartbeats 2000000 in
theorem rtake_some (w : World) (d : Nat) (room : Int) (lv : Value) (R : List It) (id : Int) (i : Nat) (x : It) (h : Got (rq d room lv R) w) (hn : R.length ≤ 100000) (hp : posQ R id = (i : Int)) (hx : R[i]? = some x) : Calls Try.prog 53 #[.pointer (some ⟨d, 0, none⟩), .int .i64 id] w fun e w' => e = .returned (.tuple #[x.v, .bool true]) ∧ ∃ lv', Sep (fps (rq d room lv R)) w (rq d room lv' (R.eraseIdx i)) w' := by
  have H := h.sep
  generalize hFF : fps (rq d room lv R) = FF at H ⊢
  obtain ⟨A, c, rfl, _⟩ := formM (H.own 1 rfl)
  have hi := (List.getElem?_eq_some_iff.1 hx).1
  obtain ⟨X, hX⟩ : ∃ X : Ending → World → Prop, X = fun e w' => e = .returned (.tuple #[x.v, .bool true]) ∧ ∃ lv', Sep FF w (rq d room lv' (R.eraseIdx i)) w' := ⟨_, rfl⟩
  rw [← hX]
  have hXh : Hid (∀ w' lv', Sep FF w (rq d room lv' (R.eraseIdx i)) w' → X (.returned (.tuple #[x.v, .bool true])) w') := Lib.hid (fun w' lv' h => by rw [hX]; exact ⟨rfl, lv', h⟩)
  replace H := H.alloc #[.int .i64 0, .int .i64 0, .int .i64 0, .int .i64 0, .int .i64 0] 84
  have Ph := Lib.hid (at_is _ d room _ R id (H.got [1, 2]) (by omega))
  rw [hp] at Ph
  have hxh := Lib.hid hx
  have hHh := Lib.hid H
  have g0 : decide ((i : Int) < 0) = false := decide_eq_false (by omega)
  unfold It.v at hXh
  clear h hp H hX hFF hx
  go_enter Try.func53, Try.ntmps53
  go_wp2_with fail
  go_at_call 100
  refine Calls.mono (Ph.out) ?_
  rintro e w1 ⟨rfl, t1⟩
  have H := hHh.out.turns t1
  clear hHh Ph t1
  obtain ⟨ad, c', hv, LX⟩ := icells_at (H.own 2 rfl).reads hxh.out
  injection hv with e1 e2 e3
  subst e1 e3
  obtain ⟨x0, x1, x2, x3, x4⟩ := LX
  have c1 : World.cell? (w1) ⟨d, 1, none⟩ = some _ := (H.blk 1 rfl).cell 1
  replace H := (H.alloc #[.int .i64 x.id, .int .i64 x.key, .int .i64 x.cost, .int .i64 x.cls, .int .i64 x.until_] 84).nilSlice 84 5
  have hH2 := Lib.hid H
  clear H e2
  go_wp2_with fail
  generalize w1.alloc (.cells #[.int .i64 x.id, .int .i64 x.key, .int .i64 x.cost, .int .i64 x.cls, .int .i64 x.until_] 84) = w2 at *
  generalize w.heap.size = zb at *
  generalize w1.heap.size = xb at *
  clear x0 x1 x2 x3 x4 c1
  go_loopw [8, 9] (fun v8 v9 wr => ∃ (j : Nat), j ≤ R.length ∧ v9 = .int .i64 j ∧ Sep FF w [tRi v8 ((R.take j).eraseIdx i), tBlk xb #[.int .i64 x.id, .int .i64 x.key, .int .i64 x.cost, .int .i64 x.cls, .int .i64 x.until_] 84, tBlk zb #[.int .i64 0, .int .i64 0, .int .i64 0, .int .i64 0, .int .i64 0] 84, tBlk d #[.int .i64 room, .slice (some ad) R.length c] 31, tRi (.slice (some ad) R.length c) R] wr) (fun _ v9 _ => R.length - (RowKit.intOf v9).toNat)
  case atStart => exact ⟨0, by omega, rfl, hH2.out⟩
  case round =>
    clear hH2
    obtain ⟨j, hj, rfl, H⟩ := hrel
    obtain ⟨N, c3, rfl, _⟩ := formM (H.own 0 rfl)
    have c1 : World.cell? (wr) ⟨d, 1, none⟩ = some _ := (H.blk 3 rfl).cell 1
    have cf1 : World.frozen? (wr) ⟨d, 1, none⟩ = false := (H.blk 3 rfl).frozen 1
    by_cases hlt : j < R.length
    · have g1 : decide ((j : Int) < (R.length : Int)) = true := by simp; omega
      have g1b : decide (j < R.length) = true := decide_eq_true hlt
      obtain ⟨y, hy⟩ : ∃ y, R[j]? = some y := ⟨_, List.getElem?_eq_getElem hlt⟩
      have hnx := erase_next (i := i) hy
      by_cases hij : j = i
      · have g2 : ((j : Int) != (i : Int)) = false := by simp [hij]
        rw [if_pos hij] at hnx
        have hnxh := Lib.hid hnx
        have hHh := Lib.hid H
        clear hnx hy hij H
        go_wp2_with fail
        go_roundw
        case rel => exact ⟨j + 1, by omega, by go_num, by rw [hnxh.out]; exact hHh.out⟩
        case measure => simp [RowKit.intOf]; omega
      · have g2 : ((j : Int) != (i : Int)) = true := by simp; omega
        rw [if_neg hij] at hnx
        obtain ⟨ad2, c', hv, L⟩ := icells_at (H.own 4 rfl).reads hy
        injection hv with e1 e2 e3
        injection e1 with e1
        subst e1 e3
        obtain ⟨i0, i1, i2, i3, i4⟩ := L
        have hll : ((R.take j).eraseIdx i).length ≤ R.length := by
          have h1 := (List.eraseIdx_sublist (R.take j) i).length_le
          have h2 := (List.take_sublist j R).length_le
          omega
        have hap : ((R.take (j + 1)).eraseIdx i).map It.cells = ((R.take j).eraseIdx i).map It.cells ++ [y].map It.cells := by rw [hnx, List.map_append]
        generalize hQ : (R.take j).eraseIdx i = Q at *
        generalize hQ2 : (R.take (j + 1)).eraseIdx i = Q2 at *
        have hQ2h := Lib.hid hQ2
        have haph := Lib.hid hap
        replace H := H.alloc #[.int .i64 y.id, .int .i64 y.key, .int .i64 y.cost, .int .i64 y.cls, .int .i64 y.until_] 84
        have hs2h := Lib.hid (oneR (H.blk 0 rfl))
        have hHh := Lib.hid H
        clear hnx hy hij e2 hap hQ hQ2 H
        go_wp2_with (at_builtin; refine stop_ ?_)
        refine Mk_.mk ?_
        refine hHh.out.append 1 rfl hs2h.out (Q.length + 1) (by simp) (Q2.map It.cells) haph.out rfl _ _ _ rfl (.agg #[.int .i64 0, .int .i64 0, .int .i64 0, .int .i64 0, .int .i64 0]) 40 Try.underlying29 infoR rfl (by decide) rfl rfl (icells_one _) (by omega) (by omega) ?_
        clear hHh hs2h
        intro N c3 wn H tn _
        clear tn c1 cf1 i0 i1 i2 i3 i4
        have hHh := Lib.hid (H.lose [0])
        clear H
        go_wp2_with fail
        go_roundw
        case rel => exact ⟨j + 1, by omega, by go_num, by rw [hQ2h.out]; exact hHh.out⟩
        case measure => simp [RowKit.intOf]; omega
    · obtain rfl : j = R.length := by omega
      have g1 : decide ((R.length : Int) < (R.length : Int)) = false := by simp
      rw [List.take_length] at H ⊢
      replace H := H.set 3 rfl 1 (.slice N (R.eraseIdx i).length c3)
      have x0 : World.cell? (wr.setCell ⟨d, 1, none⟩ (.slice N (R.eraseIdx i).length c3)) ⟨xb, 0, none⟩ = some _ := (H.blk 1 rfl).cell 0
      have x1 : World.cell? (wr.setCell ⟨d, 1, none⟩ (.slice N (R.eraseIdx i).length c3)) ⟨xb, 1, none⟩ = some _ := (H.blk 1 rfl).cell 1
      have x2 : World.cell? (wr.setCell ⟨d, 1, none⟩ (.slice N (R.eraseIdx i).length c3)) ⟨xb, 2, none⟩ = some _ := (H.blk 1 rfl).cell 2
      have x3 : World.cell? (wr.setCell ⟨d, 1, none⟩ (.slice N (R.eraseIdx i).length c3)) ⟨xb, 3, none⟩ = some _ := (H.blk 1 rfl).cell 3
      have x4 : World.cell? (wr.setCell ⟨d, 1, none⟩ (.slice N (R.eraseIdx i).length c3)) ⟨xb, 4, none⟩ = some _ := (H.blk 1 rfl).cell 4
      have z0 : World.cell? (wr.setCell ⟨d, 1, none⟩ (.slice N (R.eraseIdx i).length c3)) ⟨zb, 0, none⟩ = some _ := (H.blk 2 rfl).cell 0
      have zf0 : World.frozen? (wr.setCell ⟨d, 1, none⟩ (.slice N (R.eraseIdx i).length c3)) ⟨zb, 0, none⟩ = false := (H.blk 2 rfl).frozen 0
      have z1 : World.cell? (wr.setCell ⟨d, 1, none⟩ (.slice N (R.eraseIdx i).length c3)) ⟨zb, 1, none⟩ = some _ := (H.blk 2 rfl).cell 1
      have zf1 : World.frozen? (wr.setCell ⟨d, 1, none⟩ (.slice N (R.eraseIdx i).length c3)) ⟨zb, 1, none⟩ = false := (H.blk 2 rfl).frozen 1
      have z2 : World.cell? (wr.setCell ⟨d, 1, none⟩ (.slice N (R.eraseIdx i).length c3)) ⟨zb, 2, none⟩ = some _ := (H.blk 2 rfl).cell 2
      have zf2 : World.frozen? (wr.setCell ⟨d, 1, none⟩ (.slice N (R.eraseIdx i).length c3)) ⟨zb, 2, none⟩ = false := (H.blk 2 rfl).frozen 2
      have z3 : World.cell? (wr.setCell ⟨d, 1, none⟩ (.slice N (R.eraseIdx i).length c3)) ⟨zb, 3, none⟩ = some _ := (H.blk 2 rfl).cell 3
      have zf3 : World.frozen? (wr.setCell ⟨d, 1, none⟩ (.slice N (R.eraseIdx i).length c3)) ⟨zb, 3, none⟩ = false := (H.blk 2 rfl).frozen 3
      have z4 : World.cell? (wr.setCell ⟨d, 1, none⟩ (.slice N (R.eraseIdx i).length c3)) ⟨zb, 4, none⟩ = some _ := (H.blk 2 rfl).cell 4
      have zf4 : World.frozen? (wr.setCell ⟨d, 1, none⟩ (.slice N (R.eraseIdx i).length c3)) ⟨zb, 4, none⟩ = false := (H.blk 2 rfl).frozen 4
      have H7 := ((((H.set 2 rfl 0 (.int .i64 x.id)).set 2 rfl 1 (.int .i64 x.key)).set 2 rfl 2 (.int .i64 x.cost)).set 2 rfl 3 (.int .i64 x.cls)).set 2 rfl 4 (.int .i64 x.until_)
      have hR := H7.blk 2 rfl
      have hX := hXh.out _ _ (H7.keep [3, 0])
      clear H H7
      go_wp2_with fail
      refine bodyPost_ret (res_list (rs := [.cell 4 84, .tmp 5]) rfl (by simp) (.cell zb _ _ _ rfl hR Try.underlying84 rfl (by kernel_rfl) (.tmp .nil))) rfl ?_
      exact hX
theorem badQ_no3 {x : It} (h : badQ x = false) : decide (x.cost < 1) = false ∧ decide (x.cls < 0) = false ∧ decide (x.cls > 2) = false ∧ decide (x.until_ < 0) = false := by
  obtain ⟨h1, h2, h3, h4⟩ := badQ_no h
  exact ⟨h1, h2, decide_eq_false (by have := of_decide_eq_false h3; omega), h4⟩
theorem rput_bad (w : World) (x : It) (d : Nat) (h : badQ x = true) : Calls Try.prog 55 #[.pointer (some ⟨d, 0, none⟩), x.v] w fun e w' => e = .returned (.int .i64 1) ∧ Turns [] w w' := by
  unfold badQ at h
  unfold It.v
  by_cases h1 : x.cost < 1
  · have g1 := decide_eq_true h1
    clear h h1
    go_enter Try.func55, Try.ntmps55
    go_wp2_with fail
    go_ret
    exact ⟨rfl, (Turns.refl _ _).alloc _⟩
  · have g1 : decide (x.cost < 1) = false := decide_eq_false h1
    by_cases h2 : x.cls < 0
    · have g2 := decide_eq_true h2
      clear h h1 h2
      go_enter Try.func55, Try.ntmps55
      go_wp2_with fail
      go_ret
      exact ⟨rfl, (Turns.refl _ _).alloc _⟩
    · have g2 : decide (x.cls < 0) = false := decide_eq_false h2
      by_cases h3 : x.cls > 2
      · have g3 := decide_eq_true h3
        clear h h1 h2 h3
        go_enter Try.func55, Try.ntmps55
        go_wp2_with fail
        go_ret
        exact ⟨rfl, (Turns.refl _ _).alloc _⟩
      · have g3 : decide (x.cls > 2) = false := decide_eq_false h3
        have g4 : decide (x.until_ < 0) = true := by
          rw [g1, g2, decide_eq_false (show ¬ x.cls ≥ 3 by omega)] at h
          simpa using h
        clear h h1 h2 h3
        go_enter Try.func55, Try.ntmps55
        go_wp2_with fail
        go_ret
        exact ⟨rfl, (Turns.refl _ _).alloc _⟩
theorem rput_twice (w : World) (x : It) (d : Nat) (room : Int) (lv : Value) (R : List It) (h : Got (rq d room lv R) w) (hn : R.length ≤ 100000) (hb : badQ x = false) (hp : posQ R x.id ≥ 0) : Calls Try.prog 55 #[.pointer (some ⟨d, 0, none⟩), x.v] w fun e w' => e = .returned (.int .i64 5) ∧ Turns [] w w' := by
  obtain ⟨g1, g2, g3, g4⟩ := badQ_no3 hb
  have g5 := decide_eq_true hp
  have T := (Turns.refl [] w).alloc (.cells #[.int .i64 x.id, .int .i64 x.key, .int .i64 x.cost, .int .i64 x.cls, .int .i64 x.until_] 84)
  have Ph := Lib.hid (at_is _ d room lv R x.id (((h.sep.turns T)).got [0, 1]) (by omega))
  unfold It.v
  clear h hb hp
  go_enter Try.func55, Try.ntmps55
  go_wp2_with fail
  go_at_call 100
  refine Calls.mono (Ph.out) ?_
  rintro e w1 ⟨rfl, t1⟩
  go_wp2_with fail
  go_ret
  exact ⟨rfl, T.trans t1⟩
theorem rput_full (w : World) (x : It) (d : Nat) (room : Int) (lv : Value) (R : List It) (h : Got (rq d room lv R) w) (hn : R.length ≤ 100000) (hb : badQ x = false) (hp : ¬ posQ R x.id ≥ 0) (hr : (R.length : Int) ≥ room) : Calls Try.prog 55 #[.pointer (some ⟨d, 0, none⟩), x.v] w fun e w' => e = .returned (.int .i64 3) ∧ Turns [] w w' := by
  obtain ⟨g1, g2, g3, g4⟩ := badQ_no3 hb
  have g5 : decide (posQ R x.id ≥ 0) = false := decide_eq_false hp
  have g6 := decide_eq_true hr
  have T := (Turns.refl [] w).alloc (.cells #[.int .i64 x.id, .int .i64 x.key, .int .i64 x.cost, .int .i64 x.cls, .int .i64 x.until_] 84)
  obtain ⟨A, c, rfl, _⟩ := formM (h.sep.own 1 rfl)
  have Ph := Lib.hid (at_is _ d room _ R x.id (((h.sep.turns T)).got [0, 1]) (by omega))
  have hB := h.sep.blk 0 rfl
  unfold It.v
  clear h hb hp hr
  go_enter Try.func55, Try.ntmps55
  go_wp2_with fail
  go_at_call 100
  refine Calls.mono (Ph.out) ?_
  rintro e w1 ⟨rfl, t1⟩
  have T1 := T.trans t1
  have c0 : World.cell? (w1) ⟨d, 0, none⟩ = some _ := (hB.turns T1 (by simp)).cell 0
  have c1 : World.cell? (w1) ⟨d, 1, none⟩ = some _ := (hB.turns T1 (by simp)).cell 1
  go_wp2_with fail
  go_quiet (fail)
  have T2 := T1.drewN nq
  generalize w1.drewN nq = w2 at *
  go_wp2_with fail
  go_ret
  exact ⟨rfl, T2⟩
set_option maxHeartbeats 1000000 in
theorem rput_good (w : World) (x : It) (d : Nat) (room : Int) (lv : Value) (R : List It) (h : Got (rq d room lv R) w) (hn : R.length ≤ 100000) (hb : badQ x = false) (hp : ¬ posQ R x.id ≥ 0) (hr : ¬ (R.length : Int) ≥ room) : Calls Try.prog 55 #[.pointer (some ⟨d, 0, none⟩), x.v] w fun e w' => e = .returned (.int .i64 0) ∧ ∃ lv', Sep (fps (rq d room lv R)) w (rq d room lv' (R ++ [x])) w' := by
  obtain ⟨g1, g2, g3, g4⟩ := badQ_no3 hb
  have g5 : decide (posQ R x.id ≥ 0) = false := decide_eq_false hp
  have g6 : decide ((R.length : Int) ≥ room) = false := decide_eq_false hr
  have T := (Turns.refl [] w).alloc (.cells #[.int .i64 x.id, .int .i64 x.key, .int .i64 x.cost, .int .i64 x.cls, .int .i64 x.until_] 84)
  obtain ⟨A, c, rfl, _⟩ := formM (h.sep.own 1 rfl)
  have Ph := Lib.hid (at_is _ d room _ R x.id (((h.sep.turns T)).got [0, 1]) (by omega))
  have H := h.sep
  generalize hFF : fps (rq d room (.slice A R.length c) R) = FF at H ⊢
  obtain ⟨X, hX⟩ : ∃ X : Ending → World → Prop, X = fun e w' => e = .returned (.int .i64 0) ∧ ∃ lv', Sep FF w (rq d room lv' (R ++ [x])) w' := ⟨_, rfl⟩
  rw [← hX]
  have hXh : Hid (∀ w' lv', Sep FF w (rq d room lv' (R ++ [x])) w' → X (.returned (.int .i64 0)) w') := Lib.hid (fun w' lv' h => by rw [hX]; exact ⟨rfl, lv', h⟩)
  replace H := H.alloc #[.int .i64 x.id, .int .i64 x.key, .int .i64 x.cost, .int .i64 x.cls, .int .i64 x.until_] 84
  unfold It.v
  clear h hb hp hr hX hFF T
  have hHh := Lib.hid H
  clear H
  go_enter Try.func55, Try.ntmps55
  go_wp2_with fail
  go_at_call 100
  refine Calls.mono (Ph.out) ?_
  rintro e w1 ⟨rfl, t1⟩
  have H := hHh.out.turns t1
  clear t1 hHh Ph
  have c0 : World.cell? (w1) ⟨d, 0, none⟩ = some _ := (H.blk 1 rfl).cell 0
  have c1 : World.cell? (w1) ⟨d, 1, none⟩ = some _ := (H.blk 1 rfl).cell 1
  go_wp2_with fail
  go_quiet (fail)
  replace H := H.drewN nq
  clear c0 c1
  generalize w1.drewN nq = w2 at *
  have c1 : World.cell? (w2) ⟨d, 1, none⟩ = some _ := (H.blk 1 rfl).cell 1
  have t1 := (Turns.refl [] w2).alloc (.cells #[] 84)
  have c1b : (w2.alloc (.cells #[] 84)).cell? ⟨d, 1, none⟩ = some _ := t1.old c1
  replace H := H.newSlice t1 (own_nil_lit w2 84 5) (by simp [Value.ownBlock])
  have hs1 := Lib.hid (H.own 3 rfl).reads
  have hHh := Lib.hid H
  clear H t1
  go_wp2_with (at_builtin; refine stop_ ?_)
  refine Mk_.mk ?_
  refine hHh.out.append 0 rfl hs1.out R.length (by simp) (R.map It.cells) (by simp) rfl _ _ _ rfl (.agg #[.int .i64 0, .int .i64 0, .int .i64 0, .int .i64 0, .int .i64 0]) 40 Try.underlying29 infoR rfl (by decide) rfl rfl (icells_one _) (by omega) (by omega) ?_
  clear hHh hs1 c1 c1b
  intro A1 c1 w3 H t3 _
  clear t3
  have x0 : World.cell? (w3) ⟨w.heap.size, 0, none⟩ = some _ := (H.blk 1 rfl).cell 0
  have x1 : World.cell? (w3) ⟨w.heap.size, 1, none⟩ = some _ := (H.blk 1 rfl).cell 1
  have x2 : World.cell? (w3) ⟨w.heap.size, 2, none⟩ = some _ := (H.blk 1 rfl).cell 2
  have x3 : World.cell? (w3) ⟨w.heap.size, 3, none⟩ = some _ := (H.blk 1 rfl).cell 3
  have x4 : World.cell? (w3) ⟨w.heap.size, 4, none⟩ = some _ := (H.blk 1 rfl).cell 4
  replace H := H.alloc #[.int .i64 x.id, .int .i64 x.key, .int .i64 x.cost, .int .i64 x.cls, .int .i64 x.until_] 84
  have hs2h := Lib.hid (oneR (H.blk 0 rfl))
  have hHh := Lib.hid H
  clear H
  go_wp2_with (at_builtin; refine stop_ ?_)
  refine Mk_.mk ?_
  refine hHh.out.append 1 rfl hs2h.out (R.length + 1) (by simp) ((R ++ [x]).map It.cells) (by rw [List.map_append]) rfl _ _ _ rfl (.agg #[.int .i64 0, .int .i64 0, .int .i64 0, .int .i64 0, .int .i64 0]) 40 Try.underlying29 infoR rfl (by decide) rfl rfl (icells_one _) (by omega) (by omega) ?_
  clear hHh hs2h x0 x1 x2 x3 x4
  intro N c3 wn H tn _
  clear tn
  have c1 : World.cell? (wn) ⟨d, 1, none⟩ = some _ := (H.blk 3 rfl).cell 1
  have cf1 : World.frozen? (wn) ⟨d, 1, none⟩ = false := (H.blk 3 rfl).frozen 1
  have hX := hXh.out _ (.slice N (R.length + 1) c3) ((H.set 3 rfl 1 (.slice N (R.length + 1) c3)).keep [3, 1])
  clear H
  go_wp2_with fail
  exact hX
end Go.Proofs.Ytoojemdehmabhaa.Qx
