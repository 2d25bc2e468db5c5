/- queue's First, Sum. -/
import Derived.Test.YtoojemdehmabhaaQm
import Derived.Test.YtoojemdehmabhaaSat
set_option linter.unusedVariables false
set_option linter.unusedSimpArgs false
set_option maxRecDepth 100000
namespace Go.Proofs.Ytoojemdehmabhaa.Qn
open Go.RowKit Go.MapKept Go.Shelf Hm Hs Hf Hg Hx Hy Hv Sm Sat Qa Qb Qc Qd Qe Qf Qk Ql Qm
theorem sum_two (a c : Int) : sum [a, c] = two a c := by unfold sum; simp only [List.foldl_cons, List.foldl_nil]; unfold two fit; omega
theorem irow2 (w : World) (x y : Int) : IRow (w.alloc (.cells #[.int .i64 x, .int .i64 y] 3)) (some ⟨w.heap.size, 0, none⟩) [x, y] := IRow.of_blk (Blk.new w _ _) rfl (by simp)
def sumQ (l : List It) (key : Int) : Int := sum ((ofQ l key).map It.cost)
set_option maxHeartbeats 1000000 in
theorem sum_is (w : World) (b : Nat) (room : Int) (iv : Value) (l : List It) (key : Int) (h : Got (qm b room iv l) w) (hn : l.length < 20) (hL : Cls l) : Calls Try.prog 44 #[.pointer (some ⟨b, 0, none⟩), .int .i64 key] w fun e w' => e = .returned (.int .i64 (sumQ l key)) ∧ Turns [] w w' := by
  have O1 := Lib.hid (of_is w b room iv l key h hn hL)
  have hol : (ofQ l key).length ≤ 20 := by
    unfold ofQ
    rw [stab_len (fun x hx => hL x (List.mem_filter.1 hx).1)]
    exact Nat.le_trans (List.length_filter_le _ _) (by omega)
  unfold sumQ
  generalize ofQ l key = O at *
  clear h hL
  go_enter Try.func44, Try.ntmps44
  go_wp2_with fail
  go_at_call 40
  refine Calls.mono (O1.out) ?_
  rintro e w1 ⟨u, rfl, o, t1⟩
  obtain ⟨A, c, rfl, _⟩ := formM o
  have ord := Lib.hid o.reads
  clear o O1
  go_wp2_with fail
  go_loopw [5, 12] (fun v5 v12 wr => ∃ (k : Nat), k ≤ O.length ∧ v12 = .int .i64 k ∧ v5 = .int .i64 (sum ((O.take k).map It.cost)) ∧ Turns [] w1 wr) (fun _ v12 _ => O.length - (RowKit.intOf v12).toNat)
  case atStart => exact ⟨0, by omega, rfl, rfl, Turns.refl _ _⟩
  case round =>
    obtain ⟨k, hk, rfl, rfl, T⟩ := hrel
    by_cases hlt : k < O.length
    · have g1 : decide ((k : Int) < (O.length : Int)) = true := decide_eq_true (by omega)
      have g1b : decide (k < O.length) = true := decide_eq_true hlt
      obtain ⟨x, hx⟩ : ∃ x, O[k]? = some x := ⟨_, List.getElem?_eq_getElem hlt⟩
      obtain ⟨ad, c', hv, LX⟩ := icells_at ord.out hx
      injection hv with e1 e2 e3
      subst e1 e3
      obtain ⟨x0, x1, x2, x3, x4⟩ := LX.turns T
      have hnx : sum ((O.take (k + 1)).map It.cost) = two (sum ((O.take k).map It.cost)) x.cost := by rw [take_next hx, List.map_append]; exact sum_snoc _ _
      have hnxh := Lib.hid hnx
      generalize sum ((O.take k).map It.cost) = s at *
      have T2 := (T.alloc (.cells #[.int .i64 x.id, .int .i64 x.key, .int .i64 x.cost, .int .i64 x.cls, .int .i64 x.until_] 34)).alloc (.cells #[.int .i64 s, .int .i64 x.cost] 3)
      have A5 := Lib.hid (add_is _ [s, x.cost] 2 _ (irow2 (wr.alloc (.cells #[.int .i64 x.id, .int .i64 x.key, .int .i64 x.cost, .int .i64 x.cls, .int .i64 x.until_] 34)) s x.cost))
      rw [sum_two, World.size_alloc] at A5
      clear hx e2 LX hnx
      go_wp2_with fail
      go_at_call 71
      refine Calls.mono (A5.out) ?_
      rintro e w2 ⟨rfl, t2⟩
      go_wp2_with fail
      go_roundw
      case rel => exact ⟨k + 1, by omega, by go_num, by rw [hnxh.out], T2.trans t2⟩
      case measure => simp [RowKit.intOf]; omega
    · obtain rfl : k = O.length := by omega
      have g1 : decide ((O.length : Int) < (O.length : Int)) = false := by simp
      rw [List.take_length]
      go_wp2_with fail
      go_ret
      exact ⟨rfl, t1.trans T⟩
set_option maxHeartbeats 1000000 in
theorem first_some (w : World) (b : Nat) (room : Int) (iv : Value) (l : List It) (key : Int) (x : It) (r : List It) (h : Got (qm b room iv l) w) (hn : l.length < 20) (hL : Cls l) (ho : ofQ l key = x :: r) : Calls Try.prog 13 #[.pointer (some ⟨b, 0, none⟩), .int .i64 key] w fun e w' => e = .returned (.tuple #[x.v, .bool true]) ∧ Turns [] w w' := by
  have H := (Sep.start w).alloc #[.int .i64 0, .int .i64 0, .int .i64 0, .int .i64 0, .int .i64 0] 34
  have hg : Got (qm b room iv l) (w.alloc (.cells #[.int .i64 0, .int .i64 0, .int .i64 0, .int .i64 0, .int .i64 0] 34)) := (h.sep.turns ((Turns.refl [] w).alloc (.cells #[.int .i64 0, .int .i64 0, .int .i64 0, .int .i64 0, .int .i64 0] 34))).got [0, 1]
  have O1 := Lib.hid (of_is _ b room iv l key hg hn hL)
  rw [ho] at O1
  have hHh := Lib.hid H
  unfold It.v
  clear h hL H hg ho
  go_enter Try.func13, Try.ntmps13
  go_wp2_with fail
  go_at_call 40
  refine Calls.mono (O1.out) ?_
  rintro e w1 ⟨u, rfl, o, t1⟩
  obtain ⟨ad, c, rfl, LX⟩ := icells_at (j := 0) (x := x) o.reads rfl
  obtain ⟨x0, x1, x2, x3, x4⟩ := LX
  simp only [Nat.zero_mul, Addr.add, if_true] at x0 x1 x2 x3 x4
  have H := hHh.out.turns t1
  have z0 : World.cell? (w1) ⟨w.heap.size, 0, none⟩ = some _ := (H.blk 0 rfl).cell 0
  have zf0 : World.frozen? (w1) ⟨w.heap.size, 0, none⟩ = false := (H.blk 0 rfl).frozen 0
  have z1 : World.cell? (w1) ⟨w.heap.size, 1, none⟩ = some _ := (H.blk 0 rfl).cell 1
  have zf1 : World.frozen? (w1) ⟨w.heap.size, 1, none⟩ = false := (H.blk 0 rfl).frozen 1
  have z2 : World.cell? (w1) ⟨w.heap.size, 2, none⟩ = some _ := (H.blk 0 rfl).cell 2
  have zf2 : World.frozen? (w1) ⟨w.heap.size, 2, none⟩ = false := (H.blk 0 rfl).frozen 2
  have z3 : World.cell? (w1) ⟨w.heap.size, 3, none⟩ = some _ := (H.blk 0 rfl).cell 3
  have zf3 : World.frozen? (w1) ⟨w.heap.size, 3, none⟩ = false := (H.blk 0 rfl).frozen 3
  have z4 : World.cell? (w1) ⟨w.heap.size, 4, none⟩ = some _ := (H.blk 0 rfl).cell 4
  have zf4 : World.frozen? (w1) ⟨w.heap.size, 4, none⟩ = false := (H.blk 0 rfl).frozen 4
  have H7 := ((((H.set 0 rfl 0 (.int .i64 x.id)).set 0 rfl 1 (.int .i64 x.key)).set 0 rfl 2 (.int .i64 x.cost)).set 0 rfl 3 (.int .i64 x.cls)).set 0 rfl 4 (.int .i64 x.until_)
  have hR := H7.blk 0 rfl
  have T := H7.t
  have g1 : ((r.length : Int) + 1 == 0) = false := by simp; omega
  clear H H7 o t1 hHh O1
  go_wp2_with fail
  refine bodyPost_ret (res_list (rs := [.cell 4 34, .tmp 5]) rfl (by simp) (.cell w.heap.size _ _ _ rfl hR Try.underlying34 rfl (by kernel_rfl) (.tmp .nil))) rfl ?_
  exact ⟨rfl, T⟩
end Go.Proofs.Ytoojemdehmabhaa.Qn
