/- The walks of the document's queue: Expire. -/
import Derived.Test.YtoojemdehmabhaaQh
set_option linter.unusedVariables false
set_option linter.unusedSimpArgs false
set_option maxRecDepth 100000
namespace Go.Proofs.Ytoojemdehmabhaa.Qi
open Go.RowKit Go.MapKept Go.Shelf Hm Hs Hf Hg Hx Hy Hv Qa Qb Qe Qg Qh
abbrev tRi (v : Value) (l : List It) : Th := tOwn 84 5 v (l.map It.cells)
theorem infoR : (Try.prog.info? 84).map (fun i => (i.zero, i.size, i.bytes)) = some (some (.agg #[.int .i64 0, .int .i64 0, .int .i64 0, .int .i64 0, .int .i64 0]), 5, 40) := by kernel_rfl
theorem oneR {w : World} {b : Nat} {x : It} (h : Blk w b #[.int .i64 x.id, .int .i64 x.key, .int .i64 x.cost, .int .i64 x.cls, .int .i64 x.until_] 84) : RdS 5 w (.slice (some ⟨b, 0, none⟩) 1 1) ([x].map It.cells) :=
  RdS.of_cells (rows := [x].map It.cells) h rfl (by simp [It.cells]) 1 (by simp) (by decide)
set_option maxHeartbeats 2000000 in
theorem expire_is (w : World) (d : Nat) (room : Int) (lv : Value) (R : List It) (now : Int) (h : Got (rq d room lv R) w) (hn : R.length ≤ 100000) : Calls Try.prog 54 #[.pointer (some ⟨d, 0, none⟩), .int .i64 now] w
    fun e w' => ∃ u lv', e = .returned u ∧ Sep (fps (rq d room lv R)) w (rq d room lv' (stay R now) ++ [tRi u (gone R now)]) w' := by
  have H := h.sep
  generalize hFF : fps (rq d room lv R) = FF at H ⊢
  obtain ⟨A, c, rfl, _⟩ := (H.own 1 rfl).form
  rw [List.length_map] at H
  obtain ⟨X, hX⟩ : ∃ X : Ending → World → Prop, X = fun e w' => ∃ u lv', e = .returned u ∧ Sep FF w (rq d room lv' (stay R now) ++ [tRi u (gone R now)]) w' := ⟨_, rfl⟩
  rw [← hX]
  have hXh : Hid (∀ w' u lv', Sep FF w (rq d room lv' (stay R now) ++ [tRi u (gone R now)]) w' → X (.returned u) w') := Lib.hid (fun w' u lv' h => by rw [hX]; exact ⟨u, lv', rfl, h⟩)
  clear hX h hFF
  replace H := (H.nilSlice 84 5).nilSlice 84 5
  have c1 : World.cell? (w) ⟨d, 1, none⟩ = some _ := (H.blk 2 rfl).cell 1
  go_enter Try.func54, Try.ntmps54
  go_wp2_with fail
  go_loopw [5, 6, 7] (fun v5 v6 v7 wr => ∃ (j : Nat), j ≤ R.length ∧ v7 = .int .i64 j ∧ Sep FF w [tRi v5 (gone (R.take j) now), tRi v6 (stay (R.take j) now), tBlk d #[.int .i64 room, .slice A R.length c] 31, tRi (.slice A R.length c) R] wr) (fun _ _ v7 _ => R.length - (RowKit.intOf v7).toNat)
  case atStart => exact ⟨0, by omega, rfl, H⟩
  case round =>
    obtain ⟨j, hj, rfl, H1⟩ := hrel
    clear H c1
    have H := H1
    clear H1
    obtain ⟨N, c3, rfl, _⟩ := formM (H.own 0 rfl)
    obtain ⟨M, c4, rfl, _⟩ := formM (H.own 1 rfl)
    have c1 : World.cell? (wr) ⟨d, 1, none⟩ = some _ := (H.blk 2 rfl).cell 1
    have cf1 : World.frozen? (wr) ⟨d, 1, none⟩ = false := (H.blk 2 rfl).frozen 1
    have l1 : (gone (R.take j) now).length ≤ R.length := Nat.le_trans (List.length_filter_le _ _) (List.take_sublist j R).length_le
    have l2 : (stay (R.take j) now).length ≤ R.length := Nat.le_trans (List.length_filter_le _ _) (List.take_sublist j R).length_le
    by_cases hlt : j < R.length
    · have g1 : decide ((j : Int) < (R.length : Int)) = true := by simp; omega
      obtain ⟨x, hx⟩ : ∃ x, R[j]? = some x := ⟨_, List.getElem?_eq_getElem hlt⟩
      obtain ⟨ad, c', hv, L⟩ := icells_at (H.own 3 rfl).reads hx
      injection hv with e1 e2 e3
      subst e1 e3
      obtain ⟨i0, i1, i2, i3, i4⟩ := L
      have htk := take_next hx
      replace H := H.alloc #[.int .i64 x.id, .int .i64 x.key, .int .i64 x.cost, .int .i64 x.cls, .int .i64 x.until_] 84
      have hs2h := Lib.hid (oneR (H.blk 0 rfl))
      clear e2
      by_cases hu : x.until_ ≤ now
      · have g2 := decide_eq_true hu
        have eg : gone (R.take (j + 1)) now = gone (R.take j) now ++ [x] := by unfold gone; rw [htk, List.filter_append]; simp [hu]
        have es : stay (R.take (j + 1)) now = stay (R.take j) now := by unfold stay; rw [htk, List.filter_append]; simp [hu]
        generalize gone (R.take j) now = P at *
        generalize stay (R.take j) now = S at *
        have egh := Lib.hid eg
        have esh := Lib.hid es
        clear eg es hu htk hx
        go_wp2_with (at_builtin; refine stop_ ?_)
        refine Mk_.mk ?_
        refine H.append 1 rfl hs2h.out (P.length + 1) (by simp) ((P ++ [x]).map It.cells) (by rw [List.map_append]) rfl _ _ _ rfl (.agg #[.int .i64 0, .int .i64 0, .int .i64 0, .int .i64 0, .int .i64 0]) 40 Try.underlying29 infoR rfl (by decide) rfl rfl (icells_one _) (by omega) (by omega) ?_
        clear H hs2h
        intro N c3 wn H tn _
        clear tn c1 cf1 i0 i1 i2 i3 i4
        replace H := H.lose [0]
        go_wp2_with fail
        go_roundw
        case rel => exact ⟨j + 1, by omega, by go_num, by rw [egh.out, esh.out]; exact H⟩
        case measure => simp [RowKit.intOf]; omega
      · have g2 : decide (x.until_ ≤ now) = false := decide_eq_false hu
        have eg : gone (R.take (j + 1)) now = gone (R.take j) now := by unfold gone; rw [htk, List.filter_append]; simp [hu]
        have es : stay (R.take (j + 1)) now = stay (R.take j) now ++ [x] := by unfold stay; rw [htk, List.filter_append]; simp [hu]
        generalize gone (R.take j) now = P at *
        generalize stay (R.take j) now = S at *
        have egh := Lib.hid eg
        have esh := Lib.hid es
        clear eg es hu htk hx
        go_wp2_with (at_builtin; refine stop_ ?_)
        refine Mk_.mk ?_
        refine H.append 2 rfl hs2h.out (S.length + 1) (by simp) ((S ++ [x]).map It.cells) (by rw [List.map_append]) rfl _ _ _ rfl (.agg #[.int .i64 0, .int .i64 0, .int .i64 0, .int .i64 0, .int .i64 0]) 40 Try.underlying29 infoR rfl (by decide) rfl rfl (icells_one _) (by omega) (by omega) ?_
        clear H hs2h
        intro N2 c5 wn H tn _
        clear tn c1 cf1 i0 i1 i2 i3 i4
        replace H := H.lose [0]
        go_wp2_with fail
        go_roundw
        case rel => exact ⟨j + 1, by omega, by go_num, by rw [egh.out, esh.out]; exact H⟩
        case measure => simp [RowKit.intOf]; omega
    · obtain rfl : j = R.length := by omega
      have g1 : decide ((R.length : Int) < (R.length : Int)) = false := by simp
      rw [List.take_length] at H ⊢
      have hX := hXh.out _ (.slice N (gone R now).length c3) (.slice M (stay R now).length c4) ((H.set 2 rfl 1 (.slice M (stay R now).length c4)).keep [2, 1, 0])
      clear H
      go_wp2_with fail
      exact hX
end Go.Proofs.Ytoojemdehmabhaa.Qi
