/- The walks of package clock, and of annonalaw08.alive. -/
import Derived.Test.YtmaielpfeajelaaDoorSat
set_option linter.unusedVariables false
set_option linter.unusedSimpArgs false
set_option maxRecDepth 100000
namespace Go.Proofs.YtmaielpfeajelaaDoor.Clk
open Go.RowKit Hm Sm Sat
/-- What Read tells: a sum that may run over once, at 2^63. -/
def rdg (t d s : Int) : Int := fit (wrap64 (fit t + min (max d (-fit s)) (fit s)))
theorem left_is (a b c : Int) (w : World) : Calls Tryd.prog 50 #[.int .i64 a, .int .i64 b, .int .i64 c] w fun e w' => e = .returned (.int .i64 (sub (two a c) b)) ∧ Turns [] w w' := by
  have hr := IRow.of_blk (xs := [a, c]) (Blk.new w #[.int .i64 a, .int .i64 c] 3) rfl (by simp)
  have e : sum [a, c] = two a c := by unfold sum; simp only [List.foldl_cons, List.foldl_nil]; unfold two fit; omega
  go_enter Tryd.func50, Tryd.ntmps50
  go_wp2_with fail
  go_at_call 61
  refine (add_is _ [a, c] 2 _ hr).mono ?_
  rw [e]
  rintro e w1 ⟨rfl, t1⟩
  go_wp2_with fail
  go_at_call 60
  refine (sub_is _ _ _).mono ?_
  rintro e w2 ⟨rfl, t2⟩
  go_wp2_with fail
  go_ret
  exact ⟨rfl, (((Turns.refl _ _).alloc _).trans t1).trans t2⟩
theorem passed_is (a b c : Int) (w : World) : Calls Tryd.prog 41 #[.int .i64 a, .int .i64 b, .int .i64 c] w fun e w' => e = .returned (.bool (sub (two a c) b == 0)) ∧ Turns [] w w' := by
  go_enter Tryd.func41, Tryd.ntmps41
  go_wp2_with fail
  go_at_call 50
  refine (left_is a b c _).mono ?_
  rintro e w1 ⟨rfl, t1⟩
  go_wp2_with fail
  go_ret
  exact ⟨rfl, t1⟩
end Go.Proofs.YtmaielpfeajelaaDoor.Clk
