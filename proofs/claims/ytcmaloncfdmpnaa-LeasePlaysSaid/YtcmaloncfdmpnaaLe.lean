/- The walks of the document's wallet: gone, Close, Drop. -/
import Derived.Test.YtcmaloncfdmpnaaLd
set_option linter.unusedVariables false
set_option linter.unusedSimpArgs false
set_option maxRecDepth 100000
namespace Go.Proofs.Ytcmaloncfdmpnaa.Le
open Go.RowKit Go.MapKept Hm Hs Hf Hg Hk Hx Hv Hl Sm Sat Wa Lw La Lb Ld
theorem erase_next {R : List Lea} {i j : Nat} {x : Lea} (h : R[j]? = some x) : (R.take (j + 1)).eraseIdx i = if j = i then (R.take j).eraseIdx i else (R.take j).eraseIdx i ++ [x] := by
  have hj := (List.getElem?_eq_some_iff.1 h).1
  have hl : (R.take j).length = j := by rw [List.length_take]; omega
  rw [List.take_add_one, h]
  show (R.take j ++ [x]).eraseIdx i = _
  split
  · rename_i e
    subst e
    have e2 : (R.take j).eraseIdx j = R.take j := List.eraseIdx_of_length_le (by omega)
    rw [List.eraseIdx_append_of_length_le (by omega), e2, hl, Nat.sub_self]
    simp
  · rename_i e
    by_cases h2 : i < j
    · rw [List.eraseIdx_append_of_lt_length (by omega)]
    · rw [List.eraseIdx_of_length_le (by simp; omega), List.eraseIdx_of_length_le (by omega)]
def DOut (w : World) (d : Nat) (lv : Value) (R R' : List Lea) (v : Value) (e : Ending) (w' : World) : Prop :=
  e = .returned v ∧ ∃ lv', Sep (fps (rw11 d lv R)) w (rw11 d lv' R') w'
theorem mcells_one (l : List Lea) : ∀ r ∈ l.map Lea.cells, ∀ u ∈ r, u.oneCell' = true := lcells_one l
set_option maxHeartbeats 1000000 in
theorem gone_is (w : World) (d : Nat) (lv : Value) (R : List Lea) (i : Nat) (h : Got (rw11 d lv R) w) (hn : R.length ≤ 100000) : Calls Try.prog 145 #[.pointer (some ⟨d, 0, none⟩), .int .i64 i] w (DOut w d lv R (R.eraseIdx i) (.tuple #[])) := by
  have H := h.sep
  generalize hFF : fps (rw11 d lv R) = FF at H
  obtain ⟨A, c, rfl, _⟩ := (H.own 1 rfl).form
  have hX : ∀ w' lv', Sep FF w (rw11 d lv' (R.eraseIdx i)) w' → DOut w d (.slice A (R.map Lea.cells).length c) R (R.eraseIdx i) (.tuple #[]) (.returned (.tuple #[])) w' := fun w' lv' h1 => ⟨rfl, lv', by rw [hFF]; exact h1⟩
  generalize DOut w d (.slice A (R.map Lea.cells).length c) R (R.eraseIdx i) (.tuple #[]) = X at *
  rw [List.length_map] at H
  have hXh := Lib.hid hX
  clear hX hFF h
  replace H := H.nilSlice 162 5
  have c0 : World.cell? (w) ⟨d, 0, none⟩ = some _ := (H.blk 1 rfl).cell 0
  go_enter Try.func145, Try.ntmps145
  go_wp2_with fail
  go_loopw [4, 5] (fun v4 v5 wr => ∃ (j : Nat), j ≤ R.length ∧ v5 = .int .i64 j ∧ Sep FF w [tOwn 162 5 v4 (((R.take j).eraseIdx i).map Lea.cells), tBlk d #[.slice A R.length c] 105, tOwn 162 5 (.slice A R.length c) (R.map Lea.cells)] wr) (fun _ v5 _ => R.length - (RowKit.intOf v5).toNat)
  case atStart => exact ⟨0, by omega, rfl, H⟩
  case round =>
    obtain ⟨j, hj, rfl, H1⟩ := hrel
    clear H c0
    have H := H1
    clear H1
    obtain ⟨N, c3, rfl, _⟩ := formM (H.own 0 rfl)
    have c0 : World.cell? (wr) ⟨d, 0, none⟩ = some _ := (H.blk 1 rfl).cell 0
    have cf0 : World.frozen? (wr) ⟨d, 0, none⟩ = false := (H.blk 1 rfl).frozen 0
    by_cases hlt : j < R.length
    · have g1 : decide ((j : Int) < (R.length : Int)) = true := by simp; omega
      obtain ⟨x, hx⟩ : ∃ x, R[j]? = some x := ⟨_, List.getElem?_eq_getElem hlt⟩
      have hnx := erase_next (i := i) hx
      by_cases hij : j = i
      · have g2 : ((j : Int) != (i : Int)) = false := by simp [hij]
        rw [if_pos hij] at hnx
        have hnxh := Lib.hid hnx
        clear hnx hx hij
        go_wp2_with fail
        go_roundw
        case rel => exact ⟨j + 1, by omega, by go_num, by rw [hnxh.out]; exact H⟩
        case measure => simp [RowKit.intOf]; omega
      · have g2 : ((j : Int) != (i : Int)) = true := by simp; omega
        rw [if_neg hij] at hnx
        obtain ⟨ad, c', hv, L⟩ := lcells_at (H.own 2 rfl).reads hx
        injection hv with e1 e2 e3
        subst e1 e3
        obtain ⟨i0, i1, i2, i3, i4⟩ := L
        have hll : ((R.take j).eraseIdx i).length ≤ R.length := by
          have h1 := (List.eraseIdx_sublist (R.take j) i).length_le
          have h2 := (List.take_sublist j R).length_le
          omega
        have hap : ((R.take (j + 1)).eraseIdx i).map Lea.cells = ((R.take j).eraseIdx i).map Lea.cells ++ [x].map Lea.cells := by rw [hnx, List.map_append]
        generalize hQ : (R.take j).eraseIdx i = Q at *
        generalize hQ2 : (R.take (j + 1)).eraseIdx i = Q2 at *
        have hQ2h := Lib.hid hQ2
        have haph := Lib.hid hap
        clear hnx hx hij e2 hap hQ hQ2
        replace H := H.alloc #[.int .i64 x.key, .int .i64 x.gen, .int .i64 x.amount, .int .i64 x.spent, .int .i64 x.until_] 162
        have hs2h := Lib.hid (oneLea (H.blk 0 rfl))
        go_wp2_with (at_builtin; refine stop_ ?_)
        refine Mk_.mk ?_
        refine H.append 1 rfl hs2h.out (Q.length + 1) (by simp) (Q2.map Lea.cells) haph.out rfl _ _ _ rfl (.agg #[.int .i64 0, .int .i64 0, .int .i64 0, .int .i64 0, .int .i64 0]) 40 Try.underlying103 infoM rfl (by decide) rfl rfl (mcells_one _) (by omega) (by omega) ?_
        clear H hs2h
        intro N c3 wn H tn _
        clear tn c0 i0 i1 i2 i3 i4
        replace H := H.lose [0]
        go_wp2_with fail
        go_roundw
        case rel => exact ⟨j + 1, by omega, by go_num, by rw [hQ2h.out]; exact H⟩
        case measure => simp [RowKit.intOf]; omega
    · obtain rfl : j = R.length := by omega
      have g1 : decide ((R.length : Int) < (R.length : Int)) = false := by simp
      rw [List.take_length] at H ⊢
      have hX := hXh.out _ _ ((H.set 1 rfl 0 (.slice N (R.eraseIdx i).length c3)).keep [1, 0] |>.same 1 rfl (tOwn 162 5 (.slice N (R.eraseIdx i).length c3) ((R.eraseIdx i).map Lea.cells)) rfl id)
      clear H
      go_wp2_with fail
      go_end0
      exact hX
/-- Close: what is told -/
def closeD (R : List Lea) (k g : Int) : Int := match find R k with | none => -1 | some x => if x.gen = g then x.spent else -1
def closeL (R : List Lea) (k : Int) : List Lea := if pos R k < 0 then R else R.eraseIdx (pos R k).toNat
set_option maxHeartbeats 1000000 in
theorem close_is (w : World) (d : Nat) (lv : Value) (R : List Lea) (k g : Int) (h : Got (rw11 d lv R) w) (hn : R.length ≤ 100000) : Calls Try.prog 112 #[.pointer (some ⟨d, 0, none⟩), .int .i64 k, .int .i64 g] w (DOut w d lv R (closeL R k) (.int .i64 (closeD R k g))) := by
  have hA := at_is w d lv R k h (by omega)
  have H := h.sep
  have hG := fun i w lv h => gone_is w d lv R i h hn
  generalize hFF : fps (rw11 d lv R) = FF at H
  obtain ⟨A, c, rfl, _⟩ := (H.own 1 rfl).form
  have hX : ∀ w' lv', Sep FF w (rw11 d lv' (closeL R k)) w' → DOut w d (.slice A (R.map Lea.cells).length c) R (closeL R k) (.int .i64 (closeD R k g)) (.returned (.int .i64 (closeD R k g))) w' := fun w' lv' h1 => ⟨rfl, lv', by rw [hFF]; exact h1⟩
  generalize DOut w d (.slice A (R.map Lea.cells).length c) R (closeL R k) (.int .i64 (closeD R k g)) = X at *
  rw [List.length_map] at H
  have hAh := Lib.hid hA
  clear hFF h hA
  rcases pos_is R k with ⟨h1, h2⟩ | ⟨i, x, h1, h2, h3, h4⟩
  · have e1 : closeD R k g = -1 := by unfold closeD; rw [h2]
    have e2 : closeL R k = R := by unfold closeL; rw [h1]; rfl
    rw [e1, e2] at hX
    have hXh := Lib.hid hX
    rw [h1] at hAh
    clear hX e1 e2 h1 h2 hG
    go_enter Try.func112, Try.ntmps112
    go_wp2_with fail
    go_at_call 116
    refine Calls.mono (hAh.out) ?_
    rintro e w1 ⟨rfl, t1⟩
    have hX := hXh.out _ _ (H.turns t1)
    clear H t1
    go_wp2_with fail
    exact hX
  · have e1 : closeD R k g = if x.gen = g then x.spent else -1 := by unfold closeD; rw [h3]
    have e2 : closeL R k = R.eraseIdx i := by
      unfold closeL
      rw [h4, if_neg (by omega)]
      rfl
    rw [e1, e2] at hX
    have hXh := Lib.hid hX
    rw [h4] at hAh
    have hGh := Lib.hid (hG i)
    have hi := (List.getElem?_eq_some_iff.1 h1).1
    have g0 : decide ((i : Int) < 0) = false := by simp
    have h1h := Lib.hid h1
    clear hX e1 e2 h2 h3 h4 hG h1
    go_enter Try.func112, Try.ntmps112
    go_wp2_with fail
    go_at_call 116
    refine Calls.mono (hAh.out) ?_
    rintro e w1 ⟨rfl, t1⟩
    replace H := H.turns t1
    clear hAh t1
    obtain ⟨ad, c', hv, L⟩ := lcells_at (H.own 1 rfl).reads h1h.out
    injection hv with q1 q2 q3
    subst q1 q3
    obtain ⟨i0, i1, i2, i3, i4⟩ := L
    have c0 : World.cell? (w1) ⟨d, 0, none⟩ = some _ := (H.blk 0 rfl).cell 0
    replace H := H.alloc #[.int .i64 x.key, .int .i64 x.gen, .int .i64 x.amount, .int .i64 x.spent, .int .i64 x.until_] 162
    have hGc := Lib.hid (hGh.out _ _ (H.got [1, 2]))
    clear hGh q2
    go_wp2_with fail
    go_at_call 145
    refine Calls.mono (hGc.out) ?_
    rintro e w2 ⟨rfl, lv2, h2⟩
    replace H := H.call [1, 2] h2
    clear h2 hGc c0 i0 i1 i2 i3 i4
    have c1 : World.cell? (w2) ⟨w1.heap.size, 1, none⟩ = some _ := (H.blk 2 rfl).cell 1
    have c3 : World.cell? (w2) ⟨w1.heap.size, 3, none⟩ = some _ := (H.blk 2 rfl).cell 3
    by_cases hg : x.gen = g
    · have g2 : (x.gen != g) = false := by simp [hg]
      rw [if_pos hg] at hXh
      have hX := hXh.out _ _ (H.keep [0, 1])
      clear H hg
      go_wp2_with fail
      exact hX
    · have g2 : (x.gen != g) = true := by simp [hg]
      rw [if_neg hg] at hXh
      have hX := hXh.out _ _ (H.keep [0, 1])
      clear H hg
      go_wp2_with fail
      exact hX
end Go.Proofs.Ytcmaloncfdmpnaa.Le
