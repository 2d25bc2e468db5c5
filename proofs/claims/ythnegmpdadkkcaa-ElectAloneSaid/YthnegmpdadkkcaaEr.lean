/- The walk of annonalaw17.alive. -/
import Derived.Test.YthnegmpdadkkcaaEs
set_option linter.unusedVariables false
set_option linter.unusedSimpArgs false
set_option maxRecDepth 100000
namespace Go.Proofs.Ythnegmpdadkkcaa.Er
open Go.RowKit Go.MapKept Hm Hs Hr Hc Hd Hf Hg Hv Rg Cn El Em En Eo Ep Es
def e0 : El := ⟨3, 1, 4, 1, 0, 0⟩
def e1 : El := ⟨3, 1, 7, 2, 7, 2⟩
def e2 : El := ⟨3, 1, 7, 2, 0, 6⟩
def e3 : El := ⟨3, 1, 9, 2, 0, 6⟩
theorem ok0 : e0.ok := ⟨by decide, by decide, by decide, by decide, .inl rfl, by decide⟩
theorem ok1 : e1.ok := ⟨by decide, by decide, by decide, by decide, .inr rfl, by decide⟩
theorem ok2 : e2.ok := ⟨by decide, by decide, by decide, by decide, .inl rfl, by decide⟩
theorem a_new (w : World) : Calls Try.prog 39 #[.int .i64 3, .int .i64 1, .int .i64 4, .int .i64 1] w fun e w' => ∃ b, e = .returned (.tuple #[.pointer (some ⟨b, 0, none⟩), .int .i64 0]) ∧ IsE 159 w' b e0 ∧ w.heap.size ≤ b ∧ Turns [] w w' :=
  new_ok 3 1 4 1 ⟨by decide, by decide, by decide, by decide⟩ w
theorem a_stand (w : World) (b : Nat) (h : IsE 159 w b e0) : Calls Try.prog 45 #[.pointer (some ⟨b, 0, none⟩)] w fun x w' => x = .returned (.tuple #[.agg #[.bool true, .int .i64 7, .int .u64 2, .bool false], .int .i64 0]) ∧ IsE 159 w' b e1 ∧ Turns [b] w w' := by
  have hx : nextE e0 = (7, 0) := by rfl
  have := stand_is w b e0 7 h ok0 hx (by decide)
  rw [show (El.stand e0 7).win = false from by rfl, show (El.stand e0 7).won = e1 from by rfl] at this
  exact this
theorem a_count (w : World) (b : Nat) (h : IsE 159 w b e1) : Calls Try.prog 46 #[.pointer (some ⟨b, 0, none⟩), .int .i64 7, .int .u64 4] w fun x w' => x = .returned (.agg #[.bool false, .int .i64 7, .int .u64 6, .bool true]) ∧ IsE 159 w' b e2 ∧ Turns [b] w w' := by
  have := take_count w b e1 7 4 h ok1 (by decide) rfl (by decide)
  rw [show (El.more e1 4).win = true from by rfl, show (El.more e1 4).won = e2 from by rfl] at this
  exact this
theorem a_none (w : World) (b : Nat) (h : IsE 159 w b e2) : Calls Try.prog 46 #[.pointer (some ⟨b, 0, none⟩), .int .i64 7, .int .u64 4] w fun x w' => x = .returned (.agg #[.bool false, .int .i64 0, .int .u64 0, .bool false]) ∧ Turns [] w w' :=
  take_none w b e2 7 4 h ok2 (by decide) (.inr (by decide))
theorem a_raise (w : World) (b : Nat) (h : IsE 159 w b e2) : Calls Try.prog 46 #[.pointer (some ⟨b, 0, none⟩), .int .i64 9, .int .u64 1] w fun x w' => x = .returned (.agg #[.bool true, .int .i64 9, .int .u64 3, .bool false]) ∧ IsE 159 w' b e3 ∧ Turns [b] w w' :=
  take_raise w b e2 9 1 h ok2 (by decide) (by decide)
theorem a_promised (w : World) (b : Nat) (h : IsE 159 w b e3) : Calls Try.prog 41 #[.pointer (some ⟨b, 0, none⟩)] w fun x w' => x = .returned (.int .i64 9) ∧ Turns [] w w' := promised_is w b e3 h
theorem a_round (w : World) (b : Nat) (h : IsE 159 w b e3) : Calls Try.prog 43 #[.pointer (some ⟨b, 0, none⟩)] w fun x w' => x = .returned (.int .i64 2) ∧ Turns [] w w' := round_is w b e3 h
theorem a_standing (w : World) (b : Nat) (h : IsE 159 w b e3) : Calls Try.prog 44 #[.pointer (some ⟨b, 0, none⟩)] w fun x w' => x = .returned (.int .i64 0) ∧ Turns [] w w' := standing_is w b e3 h
set_option maxHeartbeats 4000000 in
theorem alive_is (w : World) : Calls Try.prog 38 #[] w fun x w' => x = .returned (.bool true) ∧ Turns [] w w' := by
  go_enter Try.func38, Try.ntmps38
  go_wp2_with fail
  go_at_call 39
  refine Calls.mono (a_new _) ?_
  rintro e w1 ⟨b, rfl, h1, hb, T1⟩
  have l1 := Blk.lt h1
  go_wp2_with fail
  go_at_call 45
  refine Calls.mono (a_stand _ b h1) ?_
  rintro e w2 ⟨rfl, h2, t2⟩
  have T2 := T1.then t2 (by simpa using hb)
  have l2 := Blk.lt h2
  have qA := (Turns.refl [] w2).alloc (.cells #[.bool true, .int .i64 7, .int .u64 2, .bool false] 77)
  have r3 := Blk.new w2 #[.bool true, .int .i64 7, .int .u64 2, .bool false] 77
  have k2 : IsE 159 (w2.alloc (.cells #[.bool true, .int .i64 7, .int .u64 2, .bool false] 77)) b e1 := Blk.turns h2 qA (by simp)
  have U2 := T2.trans qA
  clear h1 T1 t2 h2 qA T2
  go_wp2_with fail
  go_at_call 46
  refine Calls.mono (a_count _ b k2) ?_
  rintro e w3 ⟨rfl, h3, t3⟩
  have s3 := t3.size
  rw [World.size_alloc] at s3
  have r3b := r3.turns t3 (by simp; omega)
  have T3 := U2.then t3 (by simpa using hb)
  have qB := (Turns.refl [] w3).alloc (.cells #[.bool false, .int .i64 7, .int .u64 6, .bool true] 77)
  have r3c := r3b.turns qB (by simp)
  have r5 := Blk.new w3 #[.bool false, .int .i64 7, .int .u64 6, .bool true] 77
  have k3 : IsE 159 (w3.alloc (.cells #[.bool false, .int .i64 7, .int .u64 6, .bool true] 77)) b e2 := Blk.turns h3 qB (by simp)
  have U3 := T3.trans qB
  clear k2 U2 t3 r3 r3b h3 qB T3
  go_wp2_with fail
  go_at_call 46
  refine Calls.mono (a_none _ b k3) ?_
  rintro e w4 ⟨rfl, t4⟩
  have s4 := t4.size
  rw [World.size_alloc] at s4
  have T4 := U3.trans t4
  have h4 : IsE 159 w4 b e2 := Blk.turns k3 t4 (by simp)
  have qC := (Turns.refl [] w4).alloc (.cells #[.bool false, .int .i64 0, .int .u64 0, .bool false] 77)
  have r3d := (r3c.turns t4 (by simp)).turns qC (by simp)
  have r5b := (r5.turns t4 (by simp)).turns qC (by simp)
  have r6 := Blk.new w4 #[.bool false, .int .i64 0, .int .u64 0, .bool false] 77
  have k4 : IsE 159 (w4.alloc (.cells #[.bool false, .int .i64 0, .int .u64 0, .bool false] 77)) b e2 := Blk.turns h4 qC (by simp)
  have U4 := T4.trans qC
  clear k3 U3 t4 r3c r5 h4 qC T4
  go_wp2_with fail
  go_at_call 46
  refine Calls.mono (a_raise _ b k4) ?_
  rintro e w5 ⟨rfl, h5, t5⟩
  have s5 := t5.size
  rw [World.size_alloc] at s5
  have T5 := U4.then t5 (by simpa using hb)
  have qD := (Turns.refl [] w5).alloc (.cells #[.bool true, .int .i64 9, .int .u64 3, .bool false] 77)
  have r3e := (r3d.turns t5 (by simp; omega)).turns qD (by simp)
  have r5c := (r5b.turns t5 (by simp; omega)).turns qD (by simp)
  have r6b := (r6.turns t5 (by simp; omega)).turns qD (by simp)
  have r7 := Blk.new w5 #[.bool true, .int .i64 9, .int .u64 3, .bool false] 77
  have k5 : IsE 159 (w5.alloc (.cells #[.bool true, .int .i64 9, .int .u64 3, .bool false] 77)) b e3 := Blk.turns h5 qD (by simp)
  have U5 := T5.trans qD
  clear k4 U4 t5 r3d r5b r6 h5 qD T5 l1 l2 hb
  have a0 := r3e.cell 0
  have a1 := r3e.cell 1
  have a2 := r3e.cell 2
  have a3 := r3e.cell 3
  have b0 := r5c.cell 0
  have b1 := r5c.cell 1
  have b2 := r5c.cell 2
  have b3 := r5c.cell 3
  have c0 := r6b.cell 0
  have c1 := r6b.cell 1
  have c2 := r6b.cell 2
  have c3 := r6b.cell 3
  have d0 := r7.cell 0
  have d1 := r7.cell 1
  have d2 := r7.cell 2
  have d3 := r7.cell 3
  clear r3e r5c r6b r7
  go_wp2_with fail
  go_at_call 41
  refine Calls.mono (a_promised _ b k5) ?_
  rintro e w6 ⟨rfl, t6⟩
  have k6 : IsE 159 w6 b e3 := Blk.turns k5 t6 (by simp)
  go_wp2_with fail
  go_at_call 43
  refine Calls.mono (a_round _ b k6) ?_
  rintro e w7 ⟨rfl, t7⟩
  have k7 : IsE 159 w7 b e3 := Blk.turns k6 t7 (by simp)
  go_wp2_with fail
  go_at_call 44
  refine Calls.mono (a_standing _ b k7) ?_
  rintro e w8 ⟨rfl, t8⟩
  go_wp2_with fail
  go_ret
  exact ⟨rfl, ((U5.trans t6).trans t7).trans t8⟩
end Go.Proofs.Ythnegmpdadkkcaa.Er
