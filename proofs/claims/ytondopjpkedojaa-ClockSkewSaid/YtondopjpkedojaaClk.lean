/- The walks of package clock, and of annonalaw08.alive. -/
import Derived.Test.YtondopjpkedojaaSat
set_option linter.unusedVariables false
set_option linter.unusedSimpArgs false
set_option maxRecDepth 100000
namespace Go.Proofs.Ytondopjpkedojaa.Clk
open Go.RowKit Hm Sm Sat
/-- What Read tells: a sum that may run over once, at 2^63. -/
def rdg (t d s : Int) : Int := fit (wrap64 (fit t + min (max d (-fit s)) (fit s)))
theorem between_is (x lo hi : Int) (w : World) : Calls Try.prog 77 #[.int .i64 x, .int .i64 lo, .int .i64 hi] w fun e w' => e = .returned (.int .i64 (min (max x lo) hi)) ∧ Turns [] w w' := by
  go_enter Try.func77, Try.ntmps77
  go_wp2
  go_ret
  exact ⟨rfl, Turns.refl _ _⟩
theorem read_is (t d s : Int) (w : World) : Calls Try.prog 16 #[.int .i64 t, .int .i64 d, .int .i64 s] w fun e w' => e = .returned (.int .i64 (rdg t d s)) ∧ Turns [] w w' := by
  have hs := fit_bd s
  unfold rdg
  go_enter Try.func16, Try.ntmps16
  go_wp2_with fail
  go_at_call 25
  refine (fit_is s _).mono ?_
  rintro e w1 ⟨rfl, t1⟩
  go_wp2_with fail
  go_at_call 25
  refine (fit_is t _).mono ?_
  rintro e w2 ⟨rfl, t2⟩
  go_wp2_with fail
  go_at_call 77
  refine (between_is d _ _ _).mono ?_
  rintro e w3 ⟨rfl, t3⟩
  go_wp2_with fail
  go_at_call 25
  refine (fit_is _ _).mono ?_
  rintro e w4 ⟨rfl, t4⟩
  go_wp2_with fail
  go_ret
  exact ⟨rfl, ((t1.trans t2).trans t3).trans t4⟩
theorem left_is (a b c : Int) (w : World) : Calls Try.prog 20 #[.int .i64 a, .int .i64 b, .int .i64 c] w fun e w' => e = .returned (.int .i64 (sub (two a c) b)) ∧ Turns [] w w' := by
  have hr := IRow.of_blk (xs := [a, c]) (Blk.new w #[.int .i64 a, .int .i64 c] 3) rfl (by simp)
  have e : sum [a, c] = two a c := by unfold sum; simp only [List.foldl_cons, List.foldl_nil]; unfold two fit; omega
  go_enter Try.func20, Try.ntmps20
  go_wp2_with fail
  go_at_call 26
  refine (add_is _ [a, c] 2 _ hr).mono ?_
  rw [e]
  rintro e w1 ⟨rfl, t1⟩
  go_wp2_with fail
  go_at_call 28
  refine (sub_is _ _ _).mono ?_
  rintro e w2 ⟨rfl, t2⟩
  go_wp2_with fail
  go_ret
  exact ⟨rfl, (((Turns.refl _ _).alloc _).trans t1).trans t2⟩
theorem passed_is (a b c : Int) (w : World) : Calls Try.prog 18 #[.int .i64 a, .int .i64 b, .int .i64 c] w fun e w' => e = .returned (.bool (sub (two a c) b == 0)) ∧ Turns [] w w' := by
  go_enter Try.func18, Try.ntmps18
  go_wp2_with fail
  go_at_call 20
  refine (left_is a b c _).mono ?_
  rintro e w1 ⟨rfl, t1⟩
  go_wp2_with fail
  go_ret
  exact ⟨rfl, t1⟩
theorem alive_is (w : World) : Calls Try.prog 15 #[] w fun e w' => e = .returned (.bool true) ∧ Turns [] w w' := by
  have e1 : rdg 50 (-9) 4 = 46 := by unfold rdg wrap64 fit; rfl
  have e2 : rdg 50 3 4 = 53 := by unfold rdg wrap64 fit; rfl
  have e3 : rdg 2 (-9) 4 = 0 := by unfold rdg wrap64 fit; rfl
  have e4 : (sub (two 10 5) 15 == 0) = true := by rfl
  have e5 : (sub (two 10 5) 14 == 0) = false := by rfl
  have e6 : sub (two 10 5) 12 = 3 := by rfl
  have r1 := fun w => e1 ▸ read_is 50 (-9) 4 w
  have r2 := fun w => e2 ▸ read_is 50 3 4 w
  have r3 := fun w => e3 ▸ read_is 2 (-9) 4 w
  have r4 := fun w => e4 ▸ passed_is 10 15 5 w
  have r5 := fun w => e5 ▸ passed_is 10 14 5 w
  have r6 := fun w => e6 ▸ left_is 10 12 5 w
  clear e1 e2 e3 e4 e5 e6
  go_enter Try.func15, Try.ntmps15
  go_wp2_with fail
  go_at_call 16
  refine (r1 _).mono ?_
  rintro e w1 ⟨rfl, t1⟩
  go_wp2_with fail
  go_at_call 16
  refine (r2 _).mono ?_
  rintro e w2 ⟨rfl, t2⟩
  go_wp2_with fail
  go_at_call 16
  refine (r3 _).mono ?_
  rintro e w3 ⟨rfl, t3⟩
  go_wp2_with fail
  go_at_call 18
  refine (r4 _).mono ?_
  rintro e w4 ⟨rfl, t4⟩
  go_wp2_with fail
  go_at_call 18
  refine (r5 _).mono ?_
  rintro e w5 ⟨rfl, t5⟩
  go_wp2_with fail
  go_at_call 20
  refine (r6 _).mono ?_
  rintro e w6 ⟨rfl, t6⟩
  go_wp2_with fail
  go_ret
  exact ⟨rfl, ((((t1.trans t2).trans t3).trans t4).trans t5).trans t6⟩
end Go.Proofs.Ytondopjpkedojaa.Clk
