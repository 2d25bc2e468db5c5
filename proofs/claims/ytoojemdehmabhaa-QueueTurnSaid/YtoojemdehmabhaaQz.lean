/- annonalaw12's alive. -/
import Derived.Test.YtoojemdehmabhaaQy
set_option linter.unusedVariables false
set_option linter.unusedSimpArgs false
set_option maxRecDepth 100000
namespace Go.Proofs.Ytoojemdehmabhaa.Qz
open Go.RowKit Go.MapKept Go.Shelf Hm Hs Hf Hg Hx Hy Hv Sm Qa Qb Qe Qf Qg Qh Qi Qj Qk Qm Qn Qo Qq Qr Qt Qv Qw Qx Qy
theorem turns_of {w w' : World} {l : List Th} (H : Sep [] w l w') : Turns [] w w' := H.t
set_option maxHeartbeats 2000000 in
theorem alive_any (w : World) : Calls Try.prog 9 #[] w fun e w' => e = .returned (.bool true) ∧ Turns [] w w' := by
  have p1 : putQ 2 [] ⟨1, 5, 3, 2, 9⟩ = (0, [⟨1, 5, 3, 2, 9⟩]) := by rfl
  have p2 : putQ 2 [⟨1, 5, 3, 2, 9⟩] ⟨2, 5, 4, 0, 7⟩ = (0, [⟨1, 5, 3, 2, 9⟩, ⟨2, 5, 4, 0, 7⟩]) := by rfl
  have p3 : putQ 2 [⟨1, 5, 3, 2, 9⟩, ⟨2, 5, 4, 0, 7⟩] ⟨3, 5, 4, 0, 7⟩ = (3, [⟨1, 5, 3, 2, 9⟩, ⟨2, 5, 4, 0, 7⟩]) := by rfl
  have p4 : ofQ [⟨1, 5, 3, 2, 9⟩, ⟨2, 5, 4, 0, 7⟩] 5 = [⟨2, 5, 4, 0, 7⟩, ⟨1, 5, 3, 2, 9⟩] := by rfl
  have p5 : sumQ [⟨1, 5, 3, 2, 9⟩, ⟨2, 5, 4, 0, 7⟩] 5 = 7 := by rfl
  have p6 : stay [⟨1, 5, 3, 2, 9⟩, ⟨2, 5, 4, 0, 7⟩] 7 = [⟨1, 5, 3, 2, 9⟩] := by rfl
  have p7 : gone [⟨1, 5, 3, 2, 9⟩, ⟨2, 5, 4, 0, 7⟩] 7 = [⟨2, 5, 4, 0, 7⟩] := by rfl
  have hc : Cls [⟨1, 5, 3, 2, 9⟩, ⟨2, 5, 4, 0, 7⟩] := by
    intro x hx
    simp at hx
    rcases hx with rfl | rfl <;> decide
  have P1 := Lib.hid (fun w b iv h => put_any w _ b 2 iv _ h (by simp) _ _ p1)
  have P2 := Lib.hid (fun w b iv h => put_any w _ b 2 iv _ h (by simp) _ _ p2)
  have P3 := Lib.hid (fun w b iv h => put_any w _ b 2 iv _ h (by simp) _ _ p3)
  have P4 := Lib.hid (fun w b iv h => first_some w b 2 iv _ 5 _ _ h (by simp) hc p4)
  have P5 := Lib.hid (fun w b iv (h : Got (qm b 2 iv [⟨1, 5, 3, 2, 9⟩, ⟨2, 5, 4, 0, 7⟩]) w) => p5 ▸ sum_is w b 2 iv [⟨1, 5, 3, 2, 9⟩, ⟨2, 5, 4, 0, 7⟩] 5 h (by simp) hc)
  have P6 := Lib.hid (fun w b iv (h : Got (qm b 2 iv [⟨1, 5, 3, 2, 9⟩, ⟨2, 5, 4, 0, 7⟩]) w) => p7 ▸ p6 ▸ Qg.expire_is w b 2 iv [⟨1, 5, 3, 2, 9⟩, ⟨2, 5, 4, 0, 7⟩] 7 h (by simp))
  have P7 := Lib.hid (fun w b iv h => all_is w b 2 iv [⟨1, 5, 3, 2, 9⟩] h (by simp))
  unfold It.v at P1 P2 P3 P4
  clear p1 p2 p3 p4 p5 p6 p7 hc
  go_enter Try.func9, Try.ntmps9
  go_wp2_with fail
  go_at_call 10
  refine Calls.mono (Qe.new_is _ 2 (by omega)) ?_
  rintro e w1 ⟨b, rfl, H⟩
  have P1c := Lib.hid (P1.out _ _ _ (H.got [0, 1]))
  have hH1 := Lib.hid H
  clear H P1
  go_wp2_with fail
  go_at_call 46
  refine Calls.mono (P1c.out) ?_
  rintro e w2 ⟨rfl, iv2, h2⟩
  have H := hH1.out.call [0, 1] h2
  have P2c := Lib.hid (P2.out _ _ _ (H.got [0, 1]))
  have hH2 := Lib.hid H
  clear H P2 P1c hH1 h2
  go_wp2_with fail
  go_at_call 46
  refine Calls.mono (P2c.out) ?_
  rintro e w3 ⟨rfl, iv3, h3⟩
  have H := hH2.out.call [0, 1] h3
  have P3c := Lib.hid (P3.out _ _ _ (H.got [0, 1]))
  have hH3 := Lib.hid H
  clear H P3 P2c hH2 h3
  go_wp2_with fail
  go_at_call 46
  refine Calls.mono (P3c.out) ?_
  rintro e w4 ⟨rfl, iv4, h4⟩
  have H := hH3.out.call [0, 1] h4
  have P4c := Lib.hid (P4.out _ _ _ (H.got [0, 1]))
  have hH4 := Lib.hid H
  clear H P4 P3c hH3 h4
  go_wp2_with fail
  go_at_call 13
  refine Calls.mono (P4c.out) ?_
  rintro e w5 ⟨rfl, t5⟩
  have H := (hH4.out.turns t5).alloc #[.int .i64 2, .int .i64 5, .int .i64 4, .int .i64 0, .int .i64 7] 34
  have P5c := Lib.hid (P5.out _ _ _ (H.got [1, 2]))
  have hH5 := Lib.hid H
  clear H P5 P4c hH4 t5
  go_wp2_with fail
  go_at_call 44
  refine Calls.mono (P5c.out) ?_
  rintro e w6 ⟨rfl, t6⟩
  have H := hH5.out.turns t6
  have P6c := Lib.hid (P6.out _ _ _ (H.got [1, 2]))
  have hH6 := Lib.hid H
  clear H P6 P5c hH5 t6
  go_wp2_with fail
  go_at_call 47
  refine Calls.mono (P6c.out) ?_
  rintro e w7 ⟨u, iv7, rfl, h7⟩
  have H := hH6.out.call [1, 2] h7
  have x0 : World.cell? (w7) ⟨w5.heap.size, 0, none⟩ = some _ := (H.blk 3 rfl).cell 0
  obtain ⟨ad, c, rfl, LX⟩ := icells_at (j := 0) (H.own 2 rfl).reads rfl
  have y0 := LX.i
  simp only [Nat.zero_mul, Addr.add, if_true] at y0
  have P7c := Lib.hid (P7.out _ _ _ (H.got [0, 1]))
  have T := Lib.hid H.t
  clear H P7 P6c hH6 h7 LX
  go_wp2_with fail
  go_at_call 12
  refine Calls.mono (P7c.out) ?_
  rintro e w8 ⟨v8, rfl, o8, t8, _⟩
  obtain ⟨A8, c8, rfl, _⟩ := formM o8
  have T8 := T.out.trans t8
  clear T t8 o8 P7c
  go_wp2_with fail
  go_ret
  exact ⟨rfl, T8⟩
end Go.Proofs.Ytoojemdehmabhaa.Qz
