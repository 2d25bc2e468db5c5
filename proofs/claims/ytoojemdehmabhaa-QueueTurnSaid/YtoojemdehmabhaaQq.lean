/- annonalaw12's Of. -/
import Derived.Test.YtoojemdehmabhaaQp
import Derived.Test.YtoojemdehmabhaaQi
set_option linter.unusedVariables false
set_option linter.unusedSimpArgs false
set_option maxRecDepth 100000
namespace Go.Proofs.Ytoojemdehmabhaa.Qq
open Go.RowKit Go.MapKept Go.Shelf Hm Hs Hf Hg Hx Hy Hv Qa Qb Qe Qi
set_option maxHeartbeats 1000000 in
theorem lof_is (w : World) (v : Value) (l : List It) (h : RdS 5 w v (l.map It.cells)) (hn : l.length ≤ 100000) : Calls Try.prog 39 #[v] w fun e w' => ∃ u, e = .returned u ∧ OwnS 84 5 w' u (l.map It.cells) ∧ Turns [] w w' ∧ (∀ k, u.ownBlock = some k → w.heap.size ≤ k) := by
  have hh := Lib.hid h
  obtain ⟨A, c, rfl, _⟩ := h.form
  rw [List.length_map]
  have H0 := (Sep.start w).nilSlice 84 5
  clear h
  go_enter Try.func39, Try.ntmps39
  go_wp2_with fail
  go_loopw [3, 4] (fun v3 v4 wr => ∃ (k : Nat), k ≤ l.length ∧ v4 = .int .i64 k ∧ Sep [] w [tOwn 84 5 v3 ((l.take k).map It.cells)] wr) (fun _ v4 _ => l.length - (RowKit.intOf v4).toNat)
  case atStart => exact ⟨0, by omega, rfl, H0⟩
  case round =>
    clear H0
    obtain ⟨k, hk, rfl, H⟩ := hrel
    have el : (l.take k).length = k := by rw [List.length_take]; omega
    obtain ⟨A3, c3, hvv, _⟩ := formM (H.own 0 rfl)
    rw [el] at hvv
    subst hvv
    by_cases hlt : k < l.length
    · have g1 : decide ((k : Int) < (l.length : Int)) = true := decide_eq_true (by omega)
      have g1b : decide (k < l.length) = true := decide_eq_true hlt
      obtain ⟨x, hx⟩ : ∃ x, l[k]? = some x := ⟨_, List.getElem?_eq_getElem hlt⟩
      obtain ⟨ad, c', hv, LX⟩ := icells_at hh.out hx
      injection hv with e1 e2 e3
      subst e1 e3
      obtain ⟨x0, x1, x2, x3, x4⟩ := LX.turns H.t
      have erh : Hid ((l.take (k + 1)).map It.cells = (l.take k).map It.cells ++ [x].map It.cells) := Lib.hid (by rw [take_next hx, List.map_append])
      have elh : Hid (k + 1 = ((l.take k).map It.cells).length + ([x].map It.cells).length) := Lib.hid (by rw [List.length_map, el]; rfl)
      have H2 := (H.alloc #[.int .i64 x.id, .int .i64 x.key, .int .i64 x.cost, .int .i64 x.cls, .int .i64 x.until_] 34).alloc #[.int .i64 x.id, .int .i64 x.key, .int .i64 x.cost, .int .i64 x.cls, .int .i64 x.until_] 84
      rw [World.size_alloc] at H2
      have O1 := Lib.hid (oneR (H2.blk 0 rfl))
      have hHh := Lib.hid H2
      clear hx e2 LX el H H2
      go_wp2_with (at_builtin; refine stop_ ?_)
      refine Mk_.mk ?_
      refine hHh.out.append 2 rfl O1.out (k + 1) elh.out ((l.take (k + 1)).map It.cells) erh.out rfl _ _ _ rfl (.agg #[.int .i64 0, .int .i64 0, .int .i64 0, .int .i64 0, .int .i64 0]) 40 Try.underlying29 infoR rfl (by decide) rfl rfl (icells_one _) (by omega) (by omega) ?_
      clear hHh O1 elh erh x0 x1 x2 x3 x4
      intro A4 c4 wn H tn _
      clear tn
      have H2 := Lib.hid (H.keep [2])
      clear H
      go_wp2_with fail
      go_roundw
      case rel => exact ⟨k + 1, by omega, by go_num, H2.out⟩
      case measure => simp [RowKit.intOf]; omega
    · obtain rfl : k = l.length := by omega
      have g1 : decide ((l.length : Int) < (l.length : Int)) = false := by simp
      rw [List.take_length] at H
      have O := H.own 0 rfl
      have T := H.t
      have Mi := mine_own H 0 rfl
      clear H
      go_wp2_with fail
      go_ret
      exact ⟨_, rfl, O, T, fun q hq => by simpa using Mi q hq⟩
end Go.Proofs.Ytoojemdehmabhaa.Qq
