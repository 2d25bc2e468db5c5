/- The walks of bits.Mul64, sat.Mul, sat.Ceil. -/
import Derived.Test.YtmaielpfeajelaaSat
set_option linter.unusedVariables false
set_option linter.unusedSimpArgs false
set_option maxRecDepth 100000
namespace Go.Proofs.Ytmaielpfeajelaa.Mu
open Go.RowKit Hm Sm Sat
def mul64f (a0 a1 : Int) : Int × Int := (IntKind.u64.wrap ((IntKind.u64.wrap ((IntKind.u64.wrap ((a0 / 4294967296) * (a1 / 4294967296))) + ((IntKind.u64.wrap ((IntKind.u64.wrap ((a0 / 4294967296) * (Go.bits .and .u64 a1 4294967295))) + ((IntKind.u64.wrap ((Go.bits .and .u64 a0 4294967295) * (Go.bits .and .u64 a1 4294967295))) / 4294967296))) / 4294967296))) + ((IntKind.u64.wrap ((Go.bits .and .u64 (IntKind.u64.wrap ((IntKind.u64.wrap ((a0 / 4294967296) * (Go.bits .and .u64 a1 4294967295))) + ((IntKind.u64.wrap ((Go.bits .and .u64 a0 4294967295) * (Go.bits .and .u64 a1 4294967295))) / 4294967296))) 4294967295) + (IntKind.u64.wrap ((Go.bits .and .u64 a0 4294967295) * (a1 / 4294967296))))) / 4294967296)), IntKind.u64.wrap (a0 * a1))
theorem mul64_is (x y : Int) (hx0 : 0 ≤ x) (hx1 : x < 18446744073709551616) (hy0 : 0 ≤ y) (hy1 : y < 18446744073709551616) :
    mul64f x y = (x * y / 18446744073709551616, x * y % 18446744073709551616) := by
  obtain ⟨x, rfl⟩ : ∃ n : Nat, x = n := ⟨x.toNat, by omega⟩
  obtain ⟨y, rfl⟩ : ∃ n : Nat, y = n := ⟨y.toNat, by omega⟩
  obtain ⟨h1, h2, h3, h4⟩ := Lib.mul64_hi x y (by omega) (by omega)
  have h11 := Lib.half_mul_le (a := x / 4294967296) (b := y / 4294967296) (by omega) (by omega)
  have h10 := Lib.half_mul_le (a := x / 4294967296) (b := y % 4294967296) (by omega) (by omega)
  have h01 := Lib.half_mul_le (a := x % 4294967296) (b := y / 4294967296) (by omega) (by omega)
  have h00 := Lib.half_mul_le (a := x % 4294967296) (b := y % 4294967296) (by omega) (by omega)
  unfold mul64f
  rw [and32 _ hx0 hx1, and32 _ hy0 hy1]
  have c11 : ((x : Int) / 4294967296) * ((y : Int) / 4294967296) = ((x / 4294967296 * (y / 4294967296) : Nat) : Int) := by simp only [Int.natCast_mul, Int.natCast_ediv, Int.natCast_emod, Int.cast_ofNat_Int]
  have c10 : ((x : Int) / 4294967296) * ((y : Int) % 4294967296) = ((x / 4294967296 * (y % 4294967296) : Nat) : Int) := by simp only [Int.natCast_mul, Int.natCast_ediv, Int.natCast_emod, Int.cast_ofNat_Int]
  have c01 : ((x : Int) % 4294967296) * ((y : Int) / 4294967296) = ((x % 4294967296 * (y / 4294967296) : Nat) : Int) := by simp only [Int.natCast_mul, Int.natCast_ediv, Int.natCast_emod, Int.cast_ofNat_Int]
  have c00 : ((x : Int) % 4294967296) * ((y : Int) % 4294967296) = ((x % 4294967296 * (y % 4294967296) : Nat) : Int) := by simp only [Int.natCast_mul, Int.natCast_ediv, Int.natCast_emod, Int.cast_ofNat_Int]
  have cp : (x : Int) * (y : Int) = ((x * y : Nat) : Int) := by simp only [Int.natCast_mul, Int.natCast_ediv, Int.natCast_emod, Int.cast_ofNat_Int]
  rw [c11, c10, c01, c00, cp]
  generalize x / 4294967296 * (y / 4294967296) = a at *
  generalize x / 4294967296 * (y % 4294967296) = b at *
  generalize x % 4294967296 * (y / 4294967296) = c at *
  generalize x % 4294967296 * (y % 4294967296) = d at *
  generalize x * y = p at *
  simp only [uw]
  have i1 : ((d : Int) % 18446744073709551616) = d := by omega
  have i2 : ((b : Int) % 18446744073709551616 + (d : Int) % 18446744073709551616 / 4294967296) % 18446744073709551616 = ((b + d / 4294967296 : Nat) : Int) := by omega
  rw [i2, and32 _ (by omega) (by omega)]
  have i3 : (((b + d / 4294967296 : Nat) : Int) % 4294967296 + (c : Int) % 18446744073709551616) % 18446744073709551616 = (((b + d / 4294967296) % 4294967296 + c : Nat) : Int) := by omega
  rw [i3]
  congr 1
  omega
set_option maxHeartbeats 4000000 in
theorem mul64_calls (x y : Int) (w : World) : Calls Try.prog 47 #[.int .u64 x, .int .u64 y] w fun e w' => e = .returned (.tuple #[.int .u64 (mul64f x y).1, .int .u64 (mul64f x y).2]) ∧ Turns [] w w' := by
  unfold mul64f
  go_enter Try.func47, Try.ntmps47
  go_wp2_with fail
  go_ret2
  exact ⟨rfl, Turns.refl _ _⟩
theorem mul_walk (a b : Int) (w : World) : Calls Try.prog 30 #[.int .i64 a, .int .i64 b] w fun e w' => e = .returned (.int .i64 (mul a b)) ∧ Turns [] w w' := by
  have ha := fit_bd a; have hb := fit_bd b
  have hp : 0 ≤ fit a * fit b := Int.mul_nonneg ha.1 hb.1
  have hm : mul a b = min (fit a * fit b) 4611686018427387904 := rfl
  have h64 := mul64_is (fit a) (fit b) ha.1 (by omega) hb.1 (by omega)
  obtain ⟨x, hx⟩ : ∃ x, fit a = x := ⟨_, rfl⟩
  obtain ⟨y, hy⟩ : ∃ y, fit b = y := ⟨_, rfl⟩
  have fa := fit_is a
  have fb := fit_is b
  rw [hx] at ha hp hm h64 fa
  rw [hy] at hb hp hm h64 fb
  have ux : IntKind.u64.wrap x = x := by rw [uw]; omega
  have uy : IntKind.u64.wrap y = y := by rw [uw]; omega
  obtain ⟨p, hpp⟩ : ∃ p, x * y = p := ⟨_, rfl⟩
  rw [hpp] at hp hm h64
  obtain ⟨M, hM⟩ : ∃ M, mul a b = M := ⟨_, rfl⟩
  rw [hM] at hm ⊢
  clear hx hy hM hpp
  have hc : Calls Try.prog 47 #[.int .u64 x, .int .u64 y] w fun e w' => True := (mul64_calls x y w).mono fun _ _ _ => trivial
  clear hc
  obtain ⟨h, hh⟩ : ∃ h, p / 18446744073709551616 = h := ⟨_, rfl⟩
  obtain ⟨l, hl⟩ : ∃ l, p % 18446744073709551616 = l := ⟨_, rfl⟩
  rw [hh, hl] at h64
  have H1 := congrArg Prod.fst h64
  have H2 := congrArg Prod.snd h64
  clear h64
  by_cases g1 : h > 0
  · have d1 := decide_eq_true g1
    obtain rfl : M = 4611686018427387904 := by omega
    clear hm hh hl g1 hp
    go_enter Try.func30, Try.ntmps30
    go_wp2_with fail
    go_at_call 28
    refine Calls.mono (fa _) ?_
    rintro e w1 ⟨rfl, t1⟩
    go_wp2_with fail
    go_at_call 28
    refine Calls.mono (fb _) ?_
    rintro e w2 ⟨rfl, t2⟩
    go_wp2_with fail
    go_at_call 47
    refine Calls.mono (mul64_calls x y _) ?_
    rintro e w3 ⟨rfl, t3⟩
    rw [H1, H2]
    go_wp2_with fail
    go_ret
    exact ⟨rfl, (t1.trans t2).trans t3⟩
  · have d1 := decide_eq_false g1
    by_cases g2 : l > 4611686018427387904
    · have d2 := decide_eq_true g2
      obtain rfl : M = 4611686018427387904 := by omega
      clear hm hh hl g1 g2 hp
      go_enter Try.func30, Try.ntmps30
      go_wp2_with fail
      go_at_call 28
      refine Calls.mono (fa _) ?_
      rintro e w1 ⟨rfl, t1⟩
      go_wp2_with fail
      go_at_call 28
      refine Calls.mono (fb _) ?_
      rintro e w2 ⟨rfl, t2⟩
      go_wp2_with fail
      go_at_call 47
      refine Calls.mono (mul64_calls x y _) ?_
      rintro e w3 ⟨rfl, t3⟩
      rw [H1, H2]
      go_wp2_with fail
      go_ret
      exact ⟨rfl, (t1.trans t2).trans t3⟩
    · have d2 := decide_eq_false g2
      obtain rfl : M = l := by omega
      have hlb : 0 ≤ M ∧ M ≤ 4611686018427387904 := by omega
      clear hm hh hl g1 g2 hp
      go_enter Try.func30, Try.ntmps30
      go_wp2_with fail
      go_at_call 28
      refine Calls.mono (fa _) ?_
      rintro e w1 ⟨rfl, t1⟩
      go_wp2_with fail
      go_at_call 28
      refine Calls.mono (fb _) ?_
      rintro e w2 ⟨rfl, t2⟩
      go_wp2_with fail
      go_at_call 47
      refine Calls.mono (mul64_calls x y _) ?_
      rintro e w3 ⟨rfl, t3⟩
      rw [H1, H2]
      go_wp2_with fail
      go_ret
      exact ⟨rfl, (t1.trans t2).trans t3⟩
def ceil (a b : Int) : Int := if fit b = 0 then 4611686018427387904 else if fit a % fit b > 0 then fit a / fit b + 1 else fit a / fit b
theorem div_bd {x y : Int} (hx : 0 ≤ x) (h : x ≤ 4611686018427387904) (hy : 0 < y) : 0 ≤ x / y ∧ x / y ≤ 4611686018427387904 :=
  ⟨Int.ediv_nonneg hx (by omega), Int.le_trans (Int.ediv_le_self _ hx) h⟩
end Go.Proofs.Ytmaielpfeajelaa.Mu
