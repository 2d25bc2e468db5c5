/- Rings: alive; RingMeet; RingNth. -/
import Derived.Test.YtmaielpfeajelaaDoorRh
import Derived.Test.YtmaielpfeajelaaDoorRf
import Derived.Test.YtmaielpfeajelaaDoorHa
import Derived.Test.YtmaielpfeajelaaDoorHv
set_option linter.unusedVariables false
set_option linter.unusedSimpArgs false
set_option maxRecDepth 100000
namespace Go.Proofs.YtmaielpfeajelaaDoor.Ri
open Go.RowKit Go.Shelf Go.ChangeShapes Go.WideShapes Hm Hs Hv Hc Hd Hx Hy Ho Hn Ha Ra Rg Rb Rc Rd Rh Re Rf
theorem a_nth : nthV [4, 9, 7] 2 = 7 := (nth_only (l := [4, 9, 7]) (m := 2) (y := 7) (by decide) (by decide) (by decide +kernel) (by decide +kernel)).symm
theorem a_nod : nodI (nod 29) = [0, 2, 3, 4] := by decide +kernel
set_option maxHeartbeats 2000000 in
theorem alive_is (w : World) (hT : Tab w) : Calls Tryd.prog 35 #[] w fun e w' => e = .returned (.bool true) ∧ Turns [] w w' := by
  have hTh := Lib.hid hT
  have e1 := Lib.hid (fun w => all_any 5 w)
  rw [show allN 5 = 31 from by decide +kernel] at e1
  have e2 := Lib.hid (fun w => without_any 31 1 (by decide) w)
  rw [show withoutN 31 1 = 29 from by decide +kernel] at e2
  have e4 := Lib.hid (fun w h => next_any 29 5 0 (by decide) w h)
  rw [show nextI 29 5 0 = 2 from by decide +kernel] at e4
  have e5 := Lib.hid (fun w h => next_any 29 5 4 (by decide) w h)
  rw [show nextI 29 5 4 = 0 from by decide +kernel] at e5
  have e6 := Lib.hid (fun w => count_is 29 (by decide) w)
  rw [show ones 64 29 = 4 from by decide +kernel] at e6
  have e7 := Lib.hid (fun w => has_any 29 1 (by decide) w)
  rw [show hasB 29 1 = false from by decide +kernel] at e7
  have e8 := Lib.hid (fun w => with_any 29 1 (by decide) w)
  rw [show withN 29 1 = 31 from by decide +kernel] at e8
  have e9 := Lib.hid (fun w => maj_any 4 (by decide) w)
  rw [show majI 4 = 3 from by decide +kernel] at e9
  clear hT
  go_enter Tryd.func35, Tryd.ntmps35
  go_wp2_with fail
  go_at_call 30
  refine Calls.mono (e1.out _) ?_
  rintro e w1 ⟨rfl, t1⟩
  go_wp2_with fail
  go_at_call 26
  refine Calls.mono (e2.out _) ?_
  rintro e w2 ⟨rfl, t2⟩
  have T2 := (t1.trans t2)
  have Rw : RdS 1 (w2.alloc (.cells #[.int .i64 4, .int .i64 9, .int .i64 7] 3)) (.slice (some ⟨w2.heap.size, 0, none⟩) 3 3) (ins [4, 9, 7]) := RdS.of_cells (rows := ins [4, 9, 7]) (Blk.new w2 #[.int .i64 4, .int .i64 9, .int .i64 7] 3) rfl (by simp [ins]) 3 (by simp [ins]) (by decide)
  have e3 := Lib.hid (nth_yes _ _ [4, 9, 7] 2 Rw (by decide) (by decide) (by decide))
  rw [a_nth] at e3
  have T3 := T2.alloc (.cells #[.int .i64 4, .int .i64 9, .int .i64 7] 3)
  clear t1 t2 e1 e2 Rw T2
  go_wp2_with fail
  go_at_call 36
  refine Calls.mono (e3.out) ?_
  rintro e w3 ⟨rfl, t3⟩
  have T4 := T3.trans t3
  have Tb4 := Lib.hid (hTh.out.turns T4)
  clear t3 e3 T3
  go_wp2_with fail
  go_at_call 28
  refine Calls.mono (e4.out _ Tb4.out) ?_
  rintro e w4 ⟨rfl, t4⟩
  have T5 := T4.trans t4
  have Tb5 := Lib.hid (Tb4.out.turns t4)
  clear t4 e4 T4 Tb4
  go_wp2_with fail
  go_at_call 28
  refine Calls.mono (e5.out _ Tb5.out) ?_
  rintro e w5 ⟨rfl, t5⟩
  have T6 := T5.trans t5
  have Tb6 := Lib.hid (Tb5.out.turns t5)
  clear t5 e5 T5 Tb5
  go_wp2_with fail
  go_at_call 34
  refine Calls.mono (e6.out _) ?_
  rintro e w6 ⟨rfl, t6⟩
  go_wp2_with fail
  go_at_call 20
  refine Calls.mono (e7.out _) ?_
  rintro e w7 ⟨rfl, t7⟩
  go_wp2_with fail
  go_at_call 24
  refine Calls.mono (e8.out _) ?_
  rintro e w8 ⟨rfl, t8⟩
  have T8 := ((T6.trans t6).trans t7).trans t8
  have Nh := Lib.hid (nodes_is 29 (by decide) w8 (Tb6.out.turns ((t6.trans t7).trans t8)))
  rw [a_nod] at Nh
  clear t6 t7 t8 e6 e7 e8 T6 Tb6
  go_wp2_with fail
  go_at_call 21
  refine Calls.mono (Nh.out) ?_
  rintro e w9 ⟨v, rfl, o, t9, _⟩
  obtain ⟨A, c, rfl, _⟩ := formI o
  have T9 := T8.trans t9
  clear o t9 T8 Nh
  go_wp2_with fail
  go_at_call 32
  refine Calls.mono (e9.out _) ?_
  rintro e wa ⟨rfl, ta⟩
  go_wp2_with fail
  go_ret
  exact ⟨rfl, T9.trans ta⟩
theorem meets {N a b : Nat} (hN : N ≤ 64) (ha : N / 2 + 1 ≤ ones 64 (a &&& (2 ^ N - 1))) (hb : N / 2 + 1 ≤ ones 64 (b &&& (2 ^ N - 1))) : 0 < ones 64 ((a &&& (2 ^ N - 1)) &&& (b &&& (2 ^ N - 1))) := by
  rw [ones_mask hN] at ha hb
  by_cases h : ∀ i, i < N → ¬ (bit a i = true ∧ bit b i = true)
  · have := ones_meet h
    omega
  · simp only [Classical.not_forall] at h
    obtain ⟨i, hi, h⟩ := h
    have h2 : bit a i = true ∧ bit b i = true := Classical.not_not.1 h
    refine ones_pos (i := i) (by omega) ?_
    rw [bit_and, bit_and, bit_and, h2.1, h2.2, bit_mask]
    simp [hi]
set_option maxHeartbeats 2000000 in
theorem meet_is (S a b : Nat) (hS : S < 256) (ha : U64 a) (hb : U64 b) (w : World) (hT : Tab w) : Calls Tryd.prog 7 #[.int .u8 S, .int .u64 a, .int .u64 b] w fun e w' => e = .returned (.bool true) ∧ Turns [] w w' := by
  obtain ⟨N, hN⟩ : ∃ N, S % 64 + 1 = N := ⟨_, rfl⟩
  have hN1 : 1 ≤ N ∧ N ≤ 64 := by omega
  have g0 : IntKind.i64.wrap (S : Int) = (S : Int) := IntWalk.i64_in _ (by omega)
  have g1 : Int.tmod (S : Int) 64 = ((S % 64 : Nat) : Int) := by rw [Int.tmod_eq_emod_of_nonneg (by omega)]; omega
  have g1b : IntKind.i64.wrap ((S % 64 : Nat) : Int) = ((S % 64 : Nat) : Int) := IntWalk.i64_in _ (by omega)
  have g2 : IntKind.i64.wrap (((S % 64 : Nat) : Int) + 1) = (N : Int) := by rw [IntWalk.i64_in _ (by omega)]; omega
  have g1c : (S : Int) % 64 = ((S % 64 : Nat) : Int) := by omega
  generalize S % 64 = q at *
  have hmt := Lib.hid (fun h1 h2 => meets (N := N) (a := a) (b := b) hN1.2 h1 h2)
  have hp : 2 ^ N ≤ 2 ^ 64 := Nat.pow_le_pow_right (by omega) hN1.2
  have Ah := Lib.hid (fun w => all_yes N hN1 w)
  have Mh := Lib.hid (fun w => majority_is N ⟨hN1.1, by omega⟩ w)
  obtain ⟨m, hm⟩ : ∃ m, 2 ^ N - 1 = m := ⟨_, rfl⟩
  obtain ⟨M, hM⟩ : ∃ M, N / 2 + 1 = M := ⟨_, rfl⟩
  rw [hm] at hmt Ah
  rw [hM] at hmt Mh
  have ga : bits .and .u64 (a : Int) (m : Int) = ((a &&& m : Nat) : Int) := u64_and_nat a m ha (by omega)
  have gb : bits .and .u64 (b : Int) (m : Int) = ((b &&& m : Nat) : Int) := u64_and_nat b m hb (by omega)
  have la : a &&& m < 18446744073709551616 := Nat.lt_of_le_of_lt Nat.and_le_left ha
  have lb : b &&& m < 18446744073709551616 := Nat.lt_of_le_of_lt Nat.and_le_left hb
  obtain ⟨x, hx⟩ : ∃ x, a &&& m = x := ⟨_, rfl⟩
  obtain ⟨y, hy⟩ : ∃ y, b &&& m = y := ⟨_, rfl⟩
  rw [hx] at hmt ga la
  rw [hy] at hmt gb lb
  have gz : bits .and .u64 (x : Int) (y : Int) = ((x &&& y : Nat) : Int) := u64_and_nat x y la lb
  have lz : x &&& y < 18446744073709551616 := Nat.lt_of_le_of_lt Nat.and_le_left la
  obtain ⟨z, hz⟩ : ∃ z, x &&& y = z := ⟨_, rfl⟩
  rw [hz] at hmt gz lz
  have Cx := Lib.hid (fun w => count_is x la w)
  have Cy := Lib.hid (fun w => count_is y lb w)
  have Cz := Lib.hid (fun w => count_is z lz w)
  generalize ones 64 x = cx at *
  generalize ones 64 y = cy at *
  generalize ones 64 z = cz at *
  have hTh := Lib.hid hT
  clear hT hN hN1 hp hm hM hx hy hz la lb lz ha hb hS
  by_cases h1 : cx < M
  · have q1 : decide ((cx : Int) < (M : Int)) = true := decide_eq_true (by omega)
    have q2 : decide (cx < M) = true := decide_eq_true h1
    go_enter Tryd.func7, Tryd.ntmps7
    go_wp2_with fail
    go_at_call 30
    refine Calls.mono (Ah.out _) ?_
    rintro e w1 ⟨rfl, t1⟩
    go_wp2_with fail
    go_at_call 30
    refine Calls.mono (Ah.out _) ?_
    rintro e w2 ⟨rfl, t2⟩
    go_wp2_with fail
    go_at_call 34
    refine Calls.mono (Cx.out _) ?_
    rintro e w3 ⟨rfl, t3⟩
    go_wp2_with fail
    go_at_call 32
    refine Calls.mono (Mh.out _) ?_
    rintro e w4 ⟨rfl, t4⟩
    have T4 := ((t1.trans t2).trans t3).trans t4
    go_wp2_with fail
    go_at_call 35
    refine Calls.mono (alive_is _ (hTh.out.turns T4)) ?_
    rintro e w5 ⟨rfl, t5⟩
    go_wp2_with fail
    go_ret
    exact ⟨rfl, T4.trans t5⟩
  · have q1 : decide ((cx : Int) < (M : Int)) = false := decide_eq_false (by omega)
    have q2 : decide (cx < M) = false := decide_eq_false h1
    have q2b : M ≤ cx := by omega
    by_cases h2 : cy < M
    · have q3 : decide ((cy : Int) < (M : Int)) = true := decide_eq_true (by omega)
      have q4 : decide (cy < M) = true := decide_eq_true h2
      go_enter Tryd.func7, Tryd.ntmps7
      go_wp2_with fail
      go_at_call 30
      refine Calls.mono (Ah.out _) ?_
      rintro e w1 ⟨rfl, t1⟩
      go_wp2_with fail
      go_at_call 30
      refine Calls.mono (Ah.out _) ?_
      rintro e w2 ⟨rfl, t2⟩
      go_wp2_with fail
      go_at_call 34
      refine Calls.mono (Cx.out _) ?_
      rintro e w3 ⟨rfl, t3⟩
      go_wp2_with fail
      go_at_call 32
      refine Calls.mono (Mh.out _) ?_
      rintro e w4 ⟨rfl, t4⟩
      go_wp2_with fail
      go_at_call 34
      refine Calls.mono (Cy.out _) ?_
      rintro e w5 ⟨rfl, t5⟩
      go_wp2_with fail
      go_at_call 32
      refine Calls.mono (Mh.out _) ?_
      rintro e w6 ⟨rfl, t6⟩
      have T6 := ((((t1.trans t2).trans t3).trans t4).trans t5).trans t6
      go_wp2_with fail
      go_at_call 35
      refine Calls.mono (alive_is _ (hTh.out.turns T6)) ?_
      rintro e w7 ⟨rfl, t7⟩
      go_wp2_with fail
      go_ret
      exact ⟨rfl, T6.trans t7⟩
    · have q3 : decide ((cy : Int) < (M : Int)) = false := decide_eq_false (by omega)
      have q4 : decide (cy < M) = false := decide_eq_false h2
      have q4b : M ≤ cy := by omega
      have hz := hmt.out q2b q4b
      have q5 : decide ((cz : Int) > 0) = true := decide_eq_true (by omega)
      have q6 : decide (0 < cz) = true := decide_eq_true hz
      go_enter Tryd.func7, Tryd.ntmps7
      go_wp2_with fail
      go_at_call 30
      refine Calls.mono (Ah.out _) ?_
      rintro e w1 ⟨rfl, t1⟩
      go_wp2_with fail
      go_at_call 30
      refine Calls.mono (Ah.out _) ?_
      rintro e w2 ⟨rfl, t2⟩
      go_wp2_with fail
      go_at_call 34
      refine Calls.mono (Cx.out _) ?_
      rintro e w3 ⟨rfl, t3⟩
      go_wp2_with fail
      go_at_call 32
      refine Calls.mono (Mh.out _) ?_
      rintro e w4 ⟨rfl, t4⟩
      go_wp2_with fail
      go_at_call 34
      refine Calls.mono (Cy.out _) ?_
      rintro e w5 ⟨rfl, t5⟩
      go_wp2_with fail
      go_at_call 32
      refine Calls.mono (Mh.out _) ?_
      rintro e w6 ⟨rfl, t6⟩
      have T6 := ((((t1.trans t2).trans t3).trans t4).trans t5).trans t6
      go_wp2_with fail
      go_at_call 35
      refine Calls.mono (alive_is _ (hTh.out.turns T6)) ?_
      rintro e w7 ⟨rfl, t7⟩
      go_wp2_with fail
      go_at_call 34
      refine Calls.mono (Cz.out _) ?_
      rintro e w8 ⟨rfl, t8⟩
      go_wp2_with fail
      go_ret
      exact ⟨by simp [q5, q6, hz], (T6.trans t7).trans t8⟩
theorem meet_opened {H : Type} (enc : TypeId × Value → H) (W : World) (hT : TabAt 0 Lib.deBruijn64tab W) {base : Nat} {v0 v1 v2 : Value} {d0 d1 d2 : DataW H} {p0 p1 p2 : List MemPlace} (h0 : DataW.Trod enc Tryd.prog W 0 (fun _ => true) true 5 v0 d0 p0)
    (h1 : DataW.Trod enc Tryd.prog W 0 (fun _ => true) true 39 v1 d1 p1) (h2 : DataW.Trod enc Tryd.prog W 0 (fun _ => true) true 39 v2 d2 p2)
    (o0 : Value.okWide Tryd.prog W .any base 5 v0) (o1 : Value.okWide Tryd.prog W .any base 39 v1) (o2 : Value.okWide Tryd.prog W .any base 39 v2) :
    Calls Tryd.prog 7 #[v0, v1, v2] W fun e w' => e = .returned (.bool true) ∧ Below W.heap.size W w' := by
  obtain ⟨S, rfl, b0⟩ := arg_int Tryd.underlying5 (by kernel_rfl) h0 o0
  obtain ⟨a, rfl, b1⟩ := arg_int Tryd.underlying39 (by kernel_rfl) h1 o1
  obtain ⟨b, rfl, b2⟩ := arg_int Tryd.underlying39 (by kernel_rfl) h2 o2
  have c0 := u8_bd b0
  have c1 := u64_bd b1
  have c2 := u64_bd b2
  obtain ⟨S, rfl⟩ : ∃ k : Nat, S = k := ⟨S.toNat, by omega⟩
  obtain ⟨a, rfl⟩ : ∃ k : Nat, a = k := ⟨a.toNat, by omega⟩
  obtain ⟨b, rfl⟩ : ∃ k : Nat, b = k := ⟨b.toNat, by omega⟩
  exact (meet_is S a b (by omega) (show a < _ by omega) (show b < _ by omega) W hT).mono fun e w' ⟨he, t⟩ => ⟨he, t.isBelow⟩
end Go.Proofs.YtmaielpfeajelaaDoor.Ri
