/- slices.SortStableFunc of the queue's items; queue's Of. -/
import Derived.Test.YtoojemdehmabhaaQl
import Derived.Test.YtoojemdehmabhaaQe
import Derived.Test.YtoojemdehmabhaaQf
set_option linter.unusedVariables false
set_option linter.unusedSimpArgs false
set_option maxRecDepth 100000
namespace Go.Proofs.Ytoojemdehmabhaa.Qm
open Go.RowKit Go.MapKept Go.Shelf Hm Hs Hf Hg Hx Hy Hv Qa Qb Qc Qd Qe Qf Qk Ql
theorem stable_is (w : World) (v : Value) (L : List It) (h : OwnS 34 5 w v (L.map It.cells)) (hn : L.length < 20) (hL : Cls L) :
    Calls Try.prog 121 #[v, .int .i64 L.length, .func (.func 85) #[] #[]] w fun e w' => e = .returned (.tuple #[]) ∧ OwnS 34 5 w' v ((stab L).map It.cells) ∧ Turns v.ownBlock.toList w w' := by
  have I := Lib.hid (insort_is w v L h hn hL)
  have g1 : decide ((20 : Int) ≤ (L.length : Int)) = false := decide_eq_false (by omega)
  have g2 : decide ((20 : Int) < (L.length : Int)) = false := decide_eq_false (by omega)
  have g3 : decide (20 ≤ L.length) = false := decide_eq_false (by omega)
  have g4 : decide (20 < L.length) = false := decide_eq_false (by omega)
  obtain ⟨A, c, rfl, _⟩ := h.form
  rw [List.length_map] at *
  clear h hL
  go_enter Try.func121, Try.ntmps121
  go_wp2_with fail
  go_loopw [7, 8] (fun v7 v8 wr => v7 = .int .i64 0 ∧ v8 = .int .i64 20 ∧ wr = w) (fun _ _ _ => 0)
  case atStart => exact ⟨rfl, rfl, rfl⟩
  case round =>
    obtain ⟨rfl, rfl, rfl⟩ := hrel
    go_wp2_with fail
    go_at_call 143
    refine Calls.mono (I.out) ?_
    rintro e w1 ⟨rfl, o, t⟩
    go_wp2_with fail
    go_loopw [6] (fun v6 wr => v6 = .int .i64 20 ∧ wr = w1) (fun _ _ => 0)
    case atStart => exact ⟨rfl, rfl⟩
    case round =>
      obtain ⟨rfl, rfl⟩ := hrel
      go_wp2_with fail
      go_end0
      exact ⟨rfl, o, t⟩
theorem sortst_is (w : World) (v : Value) (L : List It) (h : OwnS 34 5 w v (L.map It.cells)) (hn : L.length < 20) (hL : Cls L) :
    Calls Try.prog 84 #[v, .func (.func 85) #[] #[]] w fun e w' => e = .returned (.tuple #[]) ∧ OwnS 34 5 w' v ((stab L).map It.cells) ∧ Turns v.ownBlock.toList w w' := by
  have I := Lib.hid (stable_is w v L h hn hL)
  obtain ⟨A, c, rfl, _⟩ := h.form
  rw [List.length_map] at *
  clear h hL
  go_enter Try.func84, Try.ntmps84
  go_wp2_with fail
  go_at_call 121
  refine Calls.mono (I.out) ?_
  rintro e w1 ⟨rfl, o, t⟩
  go_wp2_with fail
  go_end0
  exact ⟨rfl, o, t⟩
/-- those of a key, by classes -/
def ofQ (l : List It) (key : Int) : List It := stab (l.filter (fun x => !(x.key != key)))
theorem of_nil (w : World) (key : Int) : Calls Try.prog 40 #[.pointer none, .int .i64 key] w fun e w' => e = .returned (.slice none 0 0) ∧ Turns [] w w' := by
  go_enter Try.func40, Try.ntmps40
  go_wp2_with fail
  go_ret
  exact ⟨rfl, (Turns.refl _ _).alloc _⟩
set_option maxHeartbeats 1000000 in
theorem of_is (w : World) (b : Nat) (room : Int) (iv : Value) (l : List It) (key : Int) (h : Got (qm b room iv l) w) (hn : l.length < 20) (hL : Cls l) : Calls Try.prog 40 #[.pointer (some ⟨b, 0, none⟩), .int .i64 key] w fun e w' => ∃ u, e = .returned u ∧ OwnS 34 5 w' u ((ofQ l key).map It.cells) ∧ Turns [] w w' := by
  have T0 := (Turns.refl [] w).alloc (.cells #[.int .i64 key] 3)
  have H := (Sep.start w).alloc #[.int .i64 key] 3
  have C1 := Lib.hid (Qa.clone_is (w.alloc (.cells #[.int .i64 key] 3)) iv l ((h.sep.own 1 rfl).reads.mv (fun a u => T0.old)) (by omega))
  have c1 : (w.alloc (.cells #[.int .i64 key] 3)).cell? ⟨b, 1, none⟩ = some iv := T0.old ((h.sep.blk 0 rfl).cell 1)
  obtain ⟨A, c, rfl, _⟩ := (h.sep.own 1 rfl).form
  rw [List.length_map] at *
  have hfl : (l.filter (fun x => !(x.key != key))).length < 20 := Nat.lt_of_le_of_lt (List.length_filter_le _ _) hn
  have hfc : Cls (l.filter (fun x => !(x.key != key))) := fun x hx => hL x (List.mem_filter.1 hx).1
  have S1 := Lib.hid (fun W v h => sortst_is W v (l.filter (fun x => !(x.key != key))) h hfl hfc)
  have D1 := Lib.hid (fun W v (h : Got [tIt v l, tBlk w.heap.size #[.int .i64 key] 3] W) => delete_st W v l (tBlk w.heap.size #[.int .i64 key] 3) (fun x => x.key != key) 83 #[.pointer (some ⟨w.heap.size, 0, none⟩)] (fun _ T => T = tBlk w.heap.size #[.int .i64 key] 3) (enters_of Try.func83 (by kernel_rfl) rfl) h (by omega) rfl (of_says key _))
  have hHh := Lib.hid H
  unfold ofQ
  clear h H hL hfl hfc
  go_enter Try.func40, Try.ntmps40
  go_wp2_with fail
  go_at_call 56
  refine Calls.mono (C1.out) ?_
  rintro e w1 ⟨u, rfl, o, t1, hb⟩
  have H := hHh.out.newSlice t1 o hb
  have D2 := Lib.hid (D1.out w1 u (H.got [0, 1]))
  have hH2 := Lib.hid H
  clear H hHh C1 D1 o t1 hb c1
  go_wp2_with fail
  go_at_call 82
  refine Calls.mono (D2.out) ?_
  rintro e w2 ⟨u2, T, rfl, rfl, h2⟩
  have H := hH2.out.call [0, 1] h2
  have S2 := Lib.hid (S1.out w2 u2 (H.own 0 rfl))
  have hH3 := Lib.hid H
  clear H h2 hH2 D2 S1
  go_wp2_with fail
  go_at_call 84
  refine Calls.mono (S2.out) ?_
  rintro e w3 ⟨rfl, o3, t3⟩
  have H := hH3.out.slice 0 rfl o3 t3 (.inl rfl)
  have T := H.t
  go_wp2_with fail
  go_ret
  exact ⟨_, rfl, o3, T⟩
end Go.Proofs.Ytoojemdehmabhaa.Qm
