/- SatOrder: for all integers sums and products hang on no order and never fall, and differences and quotients fit them; no condition. -/
import Derived.Test.YtondopjpkedojaaPSatOrderx1
import Derived.Lib.Mul64
set_option linter.unusedVariables false
set_option linter.unusedSimpArgs false
namespace Go.Proofs.Ytondopjpkedojaa.Pure
open Go.RowKit Go.Proofs.Ytondopjpkedojaa.PSatOrder Go.Proofs.YtondopjpkedojaaW.PrintWords Go.Proofs.YtondopjpkedojaaW.PrintLast Go.Proofs.YtondopjpkedojaaW.PrintMore

theorem bd64 {a : Int} (h : (Lit.int .i64 a).wf = true) : -9223372036854775808 ≤ a ∧ a ≤ 9223372036854775807 := by
  simp [Lit.wf, IntKind.min, IntKind.max, IntKind.signed, IntKind.bits] at h
  exact h
theorem mx_is (a b : Int) : mx a b = max a b := by unfold mx; split <;> omega
theorem mn_is (a b : Int) : mn a b = min a b := by unfold mn; split <;> omega
theorem wr {x : Int} (h0 : -9223372036854775808 ≤ x) (h1 : x ≤ 9223372036854775807) : wrap64 x = x := by unfold wrap64; omega
def fit (x : Int) : Int := min (max x 0) 4611686018427387904
theorem fit_bd (x : Int) : 0 ≤ fit x ∧ fit x ≤ 4611686018427387904 := by unfold fit; omega
theorem fit_is (x : Int) : sat_Fit.f x = some (fit x) := by
  unfold sat_Fit.f sat_Clamp.f
  rw [if_neg (by omega), mx_is, mn_is]
  rfl
def two (a b : Int) : Int := min (fit a + fit b) 4611686018427387904
def sub (a b : Int) : Int := max (fit a - fit b) 0
theorem sub_is (a b : Int) : sat_Sub.f a b = some (sub a b) := by
  unfold sat_Sub.f sub
  rw [fit_is, fit_is]
  simp only [Option.bind_some, mx_is]
  unfold wrap64 fit
  congr 1; omega
theorem step_is (s x : Int) (h0 : 0 ≤ s) (h1 : s ≤ 4611686018427387904) : fit (wrap64 (s + mn (fit x) (wrap64 (4611686018427387904 - s)))) = two s x := by
  rw [mn_is]
  unfold two wrap64 fit
  omega
theorem two_bd (a b : Int) : 0 ≤ two a b ∧ two a b ≤ 4611686018427387904 := by unfold two fit; omega
theorem round_is (k : Nat) (l : List Int) (s : Int) (i : Nat) (hl : l.length ≤ 1000) (hi : i < l.length) (h0 : 0 ≤ s) (h1 : s ≤ 4611686018427387904) :
    sat_Add.l0 (k + 1) s l (l.length : Int) (i : Int) = sat_Add.l0 k (two s (l.getD i 0)) l (l.length : Int) ((i + 1 : Nat) : Int) := by
  conv => lhs; unfold sat_Add.l0
  rw [if_pos (by omega), if_pos (by omega), if_pos (by omega)]
  simp only [fit_is, Option.bind_some, rd, Int.toNat_natCast]
  rw [step_is _ _ h0 h1, wr (x := (i : Int) + 1) (by omega) (by omega)]
  rfl
theorem add2_is (k : Nat) (a b : Int) : sat_Add.f (k + 3) [a, b] = some (two a b) := by
  have e1 := two_bd 0 a
  unfold sat_Add.f
  have r0 := round_is (k + 2) [a, b] 0 0 (by simp) (by simp) (by omega) (by omega)
  have r1 := round_is (k + 1) [a, b] (two 0 a) 1 (by simp) (by simp) (by omega) (by omega)
  refine (r0.trans r1).trans ?_
  unfold sat_Add.l0
  rw [if_neg (by simp)]
  congr 1
  simp only [List.getD_cons_zero, List.getD_cons_succ]
  unfold two fit
  omega
theorem add3_is (k : Nat) (a b c : Int) : sat_Add.f (k + 4) [a, b, c] = some (two (two (two 0 a) b) c) := by
  have e1 := two_bd 0 a
  have e2 := two_bd (two 0 a) b
  unfold sat_Add.f
  have r0 := round_is (k + 3) [a, b, c] 0 0 (by simp) (by simp) (by omega) (by omega)
  have r1 := round_is (k + 2) [a, b, c] (two 0 a) 1 (by simp) (by simp) (by omega) (by omega)
  have r2 := round_is (k + 1) [a, b, c] (two (two 0 a) b) 2 (by simp) (by simp) (by omega) (by omega)
  refine ((r0.trans r1).trans r2).trans ?_
  unfold sat_Add.l0
  rw [if_neg (by simp)]
  rfl
theorem uw (x : Int) : IntKind.u64.wrap x = x % 18446744073709551616 := by
  simp [IntKind.wrap, IntKind.signed, IntKind.bits]
theorem and32 (x : Int) (h0 : 0 ≤ x) (h1 : x < 18446744073709551616) : Go.bits .and .u64 x 4294967295 = x % 4294967296 := bits_mask .u64 64 (by decide) (fun n h0 h1 => by rw [uw]; omega) 32 (by decide) x h0 h1
theorem mul64_is (x y : Int) (hx0 : 0 ≤ x) (hx1 : x < 18446744073709551616) (hy0 : 0 ≤ y) (hy1 : y < 18446744073709551616) :
    bits_Mul64.f x y = some (x * y / 18446744073709551616, x * y % 18446744073709551616) := by
  obtain ⟨x, rfl⟩ : ∃ n : Nat, x = n := ⟨x.toNat, by omega⟩
  obtain ⟨y, rfl⟩ : ∃ n : Nat, y = n := ⟨y.toNat, by omega⟩
  obtain ⟨h1, h2, h3, h4⟩ := Lib.mul64_hi x y (by omega) (by omega)
  have h11 := Lib.half_mul_le (a := x / 4294967296) (b := y / 4294967296) (by omega) (by omega)
  have h10 := Lib.half_mul_le (a := x / 4294967296) (b := y % 4294967296) (by omega) (by omega)
  have h01 := Lib.half_mul_le (a := x % 4294967296) (b := y / 4294967296) (by omega) (by omega)
  have h00 := Lib.half_mul_le (a := x % 4294967296) (b := y % 4294967296) (by omega) (by omega)
  unfold bits_Mul64.f
  rw [and32 _ hx0 hx1, and32 _ hy0 hy1]
  have c11 : ((x : Int) / 4294967296) * ((y : Int) / 4294967296) = ((x / 4294967296 * (y / 4294967296) : Nat) : Int) := by simp only [Int.natCast_mul, Int.natCast_ediv, Int.natCast_emod, Int.cast_ofNat_Int]
  have c10 : ((x : Int) / 4294967296) * ((y : Int) % 4294967296) = ((x / 4294967296 * (y % 4294967296) : Nat) : Int) := by simp only [Int.natCast_mul, Int.natCast_ediv, Int.natCast_emod, Int.cast_ofNat_Int]
  have c01 : ((x : Int) % 4294967296) * ((y : Int) / 4294967296) = ((x % 4294967296 * (y / 4294967296) : Nat) : Int) := by simp only [Int.natCast_mul, Int.natCast_ediv, Int.natCast_emod, Int.cast_ofNat_Int]
  have c00 : ((x : Int) % 4294967296) * ((y : Int) % 4294967296) = ((x % 4294967296 * (y % 4294967296) : Nat) : Int) := by simp only [Int.natCast_mul, Int.natCast_ediv, Int.natCast_emod, Int.cast_ofNat_Int]
  have cp : (x : Int) * (y : Int) = ((x * y : Nat) : Int) := by simp only [Int.natCast_mul, Int.natCast_ediv, Int.natCast_emod, Int.cast_ofNat_Int]
  rw [c11, c10, c01, c00, cp]
  generalize x / 4294967296 * (y / 4294967296) = a at *
  generalize x / 4294967296 * (y % 4294967296) = b at *
  generalize x % 4294967296 * (y / 4294967296) = c at *
  generalize x % 4294967296 * (y % 4294967296) = d at *
  generalize x * y = p at *
  simp only [uw]
  have i1 : ((d : Int) % 18446744073709551616) = d := by omega
  have i2 : ((b : Int) % 18446744073709551616 + (d : Int) % 18446744073709551616 / 4294967296) % 18446744073709551616 = ((b + d / 4294967296 : Nat) : Int) := by omega
  rw [i2, and32 _ (by omega) (by omega)]
  have i3 : (((b + d / 4294967296 : Nat) : Int) % 4294967296 + (c : Int) % 18446744073709551616) % 18446744073709551616 = (((b + d / 4294967296) % 4294967296 + c : Nat) : Int) := by omega
  rw [i3]
  congr 2
  omega
def mul (a b : Int) : Int := min (fit a * fit b) 4611686018427387904
theorem mul_is (a b : Int) : sat_Mul.f a b = some (mul a b) := by
  have ha := fit_bd a; have hb := fit_bd b
  have hp : 0 ≤ fit a * fit b := Int.mul_nonneg ha.1 hb.1
  unfold sat_Mul.f mul
  simp only [fit_is, Option.bind_some, uw]
  rw [show fit a % 18446744073709551616 = fit a from by omega, show fit b % 18446744073709551616 = fit b from by omega]
  rw [mul64_is _ _ ha.1 (by omega) hb.1 (by omega)]
  simp only [Option.bind_some]
  generalize fit a * fit b = p at *
  unfold wrap64
  split
  · congr 1; omega
  · split <;> (congr 1; omega)
def ceil (a b : Int) : Int := if fit b = 0 then 4611686018427387904 else if fit a % fit b > 0 then fit a / fit b + 1 else fit a / fit b
theorem div_bd {x y : Int} (hx : 0 ≤ x) (h : x ≤ 4611686018427387904) (hy : 0 < y) : 0 ≤ x / y ∧ x / y ≤ 4611686018427387904 :=
  ⟨Int.ediv_nonneg hx (by omega), Int.le_trans (Int.ediv_le_self _ hx) h⟩
theorem ceil_is (a b : Int) : sat_Ceil.f a b = some (ceil a b) := by
  have ha := fit_bd a; have hb := fit_bd b
  unfold sat_Ceil.f ceil
  simp only [fit_is, Option.bind_some]
  by_cases h : fit b = 0
  · rw [if_pos h, if_pos h]
  · have hd := div_bd ha.1 ha.2 (y := fit b) (by omega)
    rw [if_neg h, if_neg h, Int.tmod_eq_emod_of_nonneg ha.1, Int.tdiv_eq_ediv_of_nonneg ha.1]
    rw [wr (x := fit a / fit b) (by omega) (by omega), wr (by omega) (by omega)]
    split <;> rfl
theorem clamp_is : sat_Clamp.f 9 1 4 = some 4 := by
  unfold sat_Clamp.f
  rw [if_neg (by omega), mx_is, mn_is]
  rfl
theorem alive_is (k : Nat) : annonalaw01_alive.f (k + 4) = some true := by
  unfold annonalaw01_alive.f
  rw [add3_is, show k + 4 = (k + 1) + 3 from rfl, add2_is, sub_is, mul_is, mul_is, ceil_is, clamp_is]
  rfl

theorem mul_comm' (a b : Int) : mul a b = mul b a := by unfold mul; rw [Int.mul_comm]
theorem mul_mono {x z y : Int} (h : fit x ≤ fit z) : mul x y ≤ mul z y := by
  have := Int.mul_le_mul_of_nonneg_right h (fit_bd y).1
  unfold mul; omega
theorem fit_id {x : Int} (h0 : 0 ≤ x) (h1 : x ≤ 4611686018427387904) : fit x = x := by unfold fit; omega
theorem fit_fit (x : Int) : fit (fit x) = fit x := fit_id (fit_bd x).1 (fit_bd x).2
theorem ceil_bd (a b : Int) : 0 ≤ ceil a b ∧ ceil a b ≤ 4611686018427387904 := by
  have ha := fit_bd a; have hb := fit_bd b
  unfold ceil
  split
  · omega
  · have hd := div_bd ha.1 ha.2 (y := fit b) (by omega)
    split
    · have := Int.emod_add_mul_ediv (fit a) (fit b)
      refine ⟨by omega, ?_⟩
      have h2 : fit a / fit b ≤ fit a := Int.ediv_le_self _ ha.1
      rcases Int.lt_or_le (fit a / fit b) (fit a) with h3 | h3
      · omega
      · have e : fit a / fit b = fit a := by omega
        rw [e] at this
        have h5 : 1 * fit a ≤ fit b * fit a := Int.mul_le_mul_of_nonneg_right (by omega) ha.1
        omega
    · omega
theorem back (a b : Int) : fit b = 0 ∧ ceil a b = 4611686018427387904 ∨ 0 < fit b ∧ fit a ≤ mul (ceil a b) b ∧ mul (ceil a b) b < two a b ∨ mul (ceil a b) b = 4611686018427387904 := by
  have ha := fit_bd a; have hb := fit_bd b; have hc := ceil_bd a b
  by_cases h0 : fit b = 0
  · left; refine ⟨h0, ?_⟩; unfold ceil; rw [if_pos h0]
  · by_cases h1 : mul (ceil a b) b = 4611686018427387904
    · right; right; exact h1
    · right; left
      have e : mul (ceil a b) b = ceil a b * fit b := by
        unfold mul at h1 ⊢
        rw [fit_id hc.1 hc.2] at h1 ⊢
        omega
      have hm := Int.emod_add_mul_ediv (fit a) (fit b)
      have hl := Int.emod_lt_of_pos (fit a) (b := fit b) (by omega)
      have hn := Int.emod_nonneg (fit a) (b := fit b) (by omega)
      have hub : mul (ceil a b) b < 4611686018427387904 := by unfold mul at h1 ⊢; omega
      rw [e] at hub ⊢
      have key : fit a ≤ ceil a b * fit b ∧ ceil a b * fit b < fit a + fit b := by
        unfold ceil
        rw [if_neg h0]
        split
        · rw [Int.add_mul, Int.one_mul, Int.mul_comm (fit a / fit b)]; omega
        · rw [Int.mul_comm]; omega
      refine ⟨by omega, key.1, ?_⟩
      unfold two; omega

/-- For all integers sums and products hang on no order and never fall, and differences and quotients fit them. -/
theorem SatOrder : annonalaw01_SatOrder.Pure := by
  intro a b m _ _ _
  refine ⟨6 + 1, ?_⟩
  have ha := fit_bd a; have hb := fit_bd b; have hm := fit_bd m
  have hj : annonalaw01_SatOrder.j0 (6 + 1) a b (fit a) (fit b) false = some true := by
    show annonalaw01_SatOrder.j0 (6 + 1) _ _ _ _ _ = _
    rw [annonalaw01_SatOrder.j0]
    rw [if_neg (by decide), ceil_is]; simp only [Option.bind_some]
    rw [mul_is]; simp only [Option.bind_some]
    rw [show 6 = 2 + 4 from rfl, alive_is]; simp only [Option.bind_some, if_true]
    rw [show 2 + 4 = 3 + 3 from rfl, add2_is]; simp only [Option.bind_some]
    have e : two (fit a) (fit b) = two a b := by unfold two; rw [fit_fit, fit_fit]
    rw [e]
    rcases back a b with ⟨h1, h2⟩ | ⟨h1, h2, h3⟩ | h1
    · rw [if_pos h1, if_pos h2]
    · rw [if_neg (by omega), if_pos (by omega), if_pos (by omega), if_pos h3]
    · rw [h1]
      repeat' split
      all_goals first | rfl | simp
  unfold annonalaw01_SatOrder.f
  rw [fit_is, fit_is, fit_is]; simp only [Option.bind_some]
  rw [show 6 + 1 = 4 + 3 from rfl, add2_is]; simp only [Option.bind_some]
  rw [add2_is]; simp only [Option.bind_some]
  rw [mul_is]; simp only [Option.bind_some]
  rw [add2_is]; simp only [Option.bind_some]
  have ez : fit (two (fit a) (fit m)) = two (fit a) (fit m) := fit_id (two_bd _ _).1 (two_bd _ _).2
  have hz : fit a ≤ fit (two (fit a) (fit m)) := by rw [ez]; unfold two; rw [fit_fit, fit_fit]; omega
  have hab : two a b = two b a := by unfold two; omega
  rw [if_pos hab, mul_is]; simp only [Option.bind_some]
  rw [if_pos (mul_comm' a b), add2_is]; simp only [Option.bind_some]
  have h1 : ¬ two (two (fit a) (fit m)) (fit b) < two a b := by
    have e1 : two (two (fit a) (fit m)) (fit b) = min (fit (two (fit a) (fit m)) + fit b) 4611686018427387904 := by
      unfold two; rw [fit_fit b]
    have e2 : two a b = min (fit a + fit b) 4611686018427387904 := rfl
    omega
  rw [if_neg h1, mul_is]; simp only [Option.bind_some]
  have h2 : ¬ mul (two (fit a) (fit m)) (fit b) < mul a b := by
    have e1 : mul (two (fit a) (fit m)) (fit b) = mul (two (fit a) (fit m)) b := by unfold mul; rw [fit_fit]
    have := mul_mono (x := a) (y := b) hz
    omega
  rw [if_neg h2, show (4 + 3 : Nat) = 6 + 1 from rfl]
  have h3 : ¬ fit a < 0 := by omega
  have h4 : decide (fit a > 4611686018427387904) = false := by simp; omega
  rw [if_neg h3, h4, hj, sub_is]; simp only [Option.bind_some]
  split
  · rename_i h5
    have : sub (two a b) a = fit b := by unfold sub two at *; unfold fit at *; omega
    rw [if_pos this]
  · rfl
end Go.Proofs.Ytondopjpkedojaa.Pure
