/- The walks of package sat, and of annonaref01's functions. -/
import Derived.Test.YtoojemdehmabhaaProg
import Derived.Test.YtoojemdehmabhaaHm
import Derived.Test.YtoojemdehmabhaaHr
import Derived.Test.YtoojemdehmabhaaSm
import Derived.Lib.MinMax
import Derived.KernelRfl
set_option linter.unusedVariables false
set_option linter.unusedSimpArgs false
set_option maxRecDepth 100000
namespace Go.Proofs.Ytoojemdehmabhaa.Sat
open Go.RowKit Hm Sm
theorem ret64 {a b : Int} (h : a = b) : Ending.returned (.int .i64 a) = .returned (.int .i64 b) := by rw [h]
theorem clamp_is (x lo hi : Int) (w : World) (h : decide (hi < lo) = false) : Calls Try.prog 120 #[.int .i64 x, .int .i64 lo, .int .i64 hi] w fun e w' => e = .returned (.int .i64 (min (max x lo) hi)) ∧ Turns [] w w' := by
  go_enter Try.func120, Try.ntmps120
  go_wp2
  go_ret
  exact ⟨rfl, Turns.refl _ _⟩
theorem fit_is (x : Int) (w : World) : Calls Try.prog 77 #[.int .i64 x] w fun e w' => e = .returned (.int .i64 (fit x)) ∧ Turns [] w w' := by
  go_enter Try.func77, Try.ntmps77
  go_wp2_with fail
  go_at_call 120
  refine (clamp_is x 0 4611686018427387904 _ (by decide)).mono ?_
  rintro e w1 ⟨rfl, t1⟩
  go_wp2_with fail
  go_ret
  exact ⟨rfl, t1⟩
theorem sub_is (a b : Int) (w : World) : Calls Try.prog 73 #[.int .i64 a, .int .i64 b] w fun e w' => e = .returned (.int .i64 (sub a b)) ∧ Turns [] w w' := by
  have ha := fit_bd a; have hb := fit_bd b
  go_enter Try.func73, Try.ntmps73
  go_wp2_with fail
  go_at_call 77
  refine (fit_is a _).mono ?_
  rintro e w1 ⟨rfl, t1⟩
  go_wp2_with fail
  go_at_call 77
  refine (fit_is b _).mono ?_
  rintro e w2 ⟨rfl, t2⟩
  go_wp2_with fail
  go_ret
  exact ⟨rfl, t1.trans t2⟩
theorem add_is (A : Option Addr) (xs : List Int) (c : Nat) (w : World) (hr : IRow w A xs) : Calls Try.prog 71 #[.slice A xs.length c] w fun e w' => e = .returned (.int .i64 (sum xs)) ∧ Turns [] w w' := by
  have hl := hr.1
  go_enter Try.func71, Try.ntmps71
  go_wp2_with fail
  go_loopw [3, 8] (fun v3 v8 wr => ∃ k : Nat, k ≤ xs.length ∧ v8 = .int .i64 k ∧ v3 = .int .i64 (sum (xs.take k)) ∧ Turns [] w wr) (fun _ v8 _ => xs.length - (intOf v8).toNat)
  case atStart => exact ⟨0, Nat.zero_le _, rfl, rfl, Turns.refl _ _⟩
  case round =>
    obtain ⟨k, hk, rfl, rfl, T⟩ := hrel
    by_cases hlt : k < xs.length
    · obtain ⟨x, hx⟩ : ∃ x, xs[k]? = some x := ⟨_, List.getElem?_eq_getElem hlt⟩
      obtain ⟨ad, rfl, hc⟩ := hr.at_ hx
      have hc1 := T.old hc
      have hs := sum_bd (xs.take k)
      have HT : Hid (sum (xs.take (k + 1)) = two (sum (xs.take k)) x) := by rw [take_snoc hx]; exact sum_snoc _ _
      have HS := step_is (sum (xs.take k)) x hs.1 hs.2
      have hf := fit_bd x
      generalize sum (xs.take k) = s at *
      have HS2 : Hid _ := HS
      clear hc HS
      have hlt' : decide ((k : Int) < (xs.length : Int)) = true := by simp; omega
      go_wp2_with fail
      go_at_call 77
      refine (fit_is x _).mono ?_
      rintro e w1 ⟨rfl, t1⟩
      go_wp2_with fail
      go_at_call 77
      refine (fit_is _ _).mono ?_
      rintro e w2 ⟨rfl, t2⟩
      go_wp2_with fail
      go_roundw
      case rel => exact ⟨k + 1, by omega, by go_num, by rw [HT.out, ← HS2.out], (T.trans t1).trans t2⟩
      case measure => simp [intOf]; omega
    · have hk2 : k = xs.length := by omega
      subst hk2
      have hlt' : decide ((xs.length : Int) < (xs.length : Int)) = false := by simp
      go_wp2_with fail
      go_ret
      exact ⟨ret64 (by rw [List.take_length]), T⟩
theorem rfit_is (x : Int) (w : World) : Calls Try.prog 79 #[.int .i64 x] w fun e w' => e = .returned (.int .i64 (fit x)) ∧ Turns [] w w' := by
  by_cases h1 : x < 0
  · have e : fit x = 0 := by unfold fit; omega
    have h1' := decide_eq_true h1
    rw [e]
    go_enter Try.func79, Try.ntmps79
    go_wp2
    go_ret
    exact ⟨rfl, Turns.refl _ _⟩
  · by_cases h2 : x > 4611686018427387904
    · have e : fit x = 4611686018427387904 := by unfold fit; omega
      have h2' := decide_eq_true h2
      rw [e]
      go_enter Try.func79, Try.ntmps79
      go_wp2
      go_ret
      exact ⟨rfl, Turns.refl _ _⟩
    · have e : fit x = x := by unfold fit; omega
      have h2' := decide_eq_false h2
      rw [e]
      go_enter Try.func79, Try.ntmps79
      go_wp2
      go_ret
      exact ⟨rfl, Turns.refl _ _⟩
theorem two_is (a b : Int) (w : World) : Calls Try.prog 32 #[.int .i64 a, .int .i64 b] w fun e w' => e = .returned (.int .i64 (two a b)) ∧ Turns [] w w' := by
  have ha := fit_bd a; have hb := fit_bd b
  by_cases h : fit b > 4611686018427387904 - fit a
  · have e : two a b = 4611686018427387904 := by unfold two; omega
    have h' := decide_eq_true h
    rw [e]
    go_enter Try.func32, Try.ntmps32
    go_wp2_with fail
    go_at_call 79
    refine (rfit_is a _).mono ?_
    rintro e w1 ⟨rfl, t1⟩
    go_wp2_with fail
    go_at_call 79
    refine (rfit_is b _).mono ?_
    rintro e w2 ⟨rfl, t2⟩
    go_wp2_with fail
    go_ret
    exact ⟨rfl, t1.trans t2⟩
  · have e : two a b = fit a + fit b := by unfold two; omega
    have h' := decide_eq_false h
    rw [e]
    go_enter Try.func32, Try.ntmps32
    go_wp2_with fail
    go_at_call 79
    refine (rfit_is a _).mono ?_
    rintro e w1 ⟨rfl, t1⟩
    go_wp2_with fail
    go_at_call 79
    refine (rfit_is b _).mono ?_
    rintro e w2 ⟨rfl, t2⟩
    go_wp2_with fail
    go_ret
    exact ⟨rfl, t1.trans t2⟩
theorem radd_is (A : Option Addr) (xs : List Int) (c : Nat) (w : World) (hr : IRow w A xs) : Calls Try.prog 78 #[.slice A xs.length c] w fun e w' => e = .returned (.int .i64 (sum xs)) ∧ Turns [] w w' := by
  have hl := hr.1
  go_enter Try.func78, Try.ntmps78
  go_wp2_with fail
  go_loopw [3, 4] (fun v3 v8 wr => ∃ k : Nat, k ≤ xs.length ∧ v8 = .int .i64 k ∧ v3 = .int .i64 (sum (xs.take k)) ∧ Turns [] w wr) (fun _ v8 _ => xs.length - (intOf v8).toNat)
  case atStart => exact ⟨0, Nat.zero_le _, rfl, rfl, Turns.refl _ _⟩
  case round =>
    obtain ⟨k, hk, rfl, rfl, T⟩ := hrel
    by_cases hlt : k < xs.length
    · obtain ⟨x, hx⟩ : ∃ x, xs[k]? = some x := ⟨_, List.getElem?_eq_getElem hlt⟩
      obtain ⟨ad, rfl, hc⟩ := hr.at_ hx
      have hc1 := T.old hc
      have HT : Hid (sum (xs.take (k + 1)) = two (sum (xs.take k)) x) := by rw [take_snoc hx]; exact sum_snoc _ _
      generalize sum (xs.take k) = s at *
      clear hc
      have hlt' : decide ((k : Int) < (xs.length : Int)) = true := by simp; omega
      go_wp2_with fail
      go_at_call 32
      refine (two_is _ _ _).mono ?_
      rintro e w1 ⟨rfl, t1⟩
      go_wp2_with fail
      go_roundw
      case rel => exact ⟨k + 1, by omega, by go_num, by rw [HT.out], T.trans t1⟩
      case measure => simp [intOf]; omega
    · have hk2 : k = xs.length := by omega
      subst hk2
      have hlt' : decide ((xs.length : Int) < (xs.length : Int)) = false := by simp
      go_wp2_with fail
      go_ret
      exact ⟨ret64 (by rw [List.take_length]), T⟩
end Go.Proofs.Ytoojemdehmabhaa.Sat
