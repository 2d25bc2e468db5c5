/- The walks of bits.Mul64, sat.Mul, sat.Ceil. -/
import Derived.Test.YtmaielpfeajelaaDoorSat
set_option linter.unusedVariables false
set_option linter.unusedSimpArgs false
set_option maxRecDepth 100000
namespace Go.Proofs.YtmaielpfeajelaaDoor.Mu
open Go.RowKit Hm Sm Sat
def mul64f (a0 a1 : Int) : Int × Int := (IntKind.u64.wrap ((IntKind.u64.wrap ((IntKind.u64.wrap ((a0 / 4294967296) * (a1 / 4294967296))) + ((IntKind.u64.wrap ((IntKind.u64.wrap ((a0 / 4294967296) * (Go.bits .and .u64 a1 4294967295))) + ((IntKind.u64.wrap ((Go.bits .and .u64 a0 4294967295) * (Go.bits .and .u64 a1 4294967295))) / 4294967296))) / 4294967296))) + ((IntKind.u64.wrap ((Go.bits .and .u64 (IntKind.u64.wrap ((IntKind.u64.wrap ((a0 / 4294967296) * (Go.bits .and .u64 a1 4294967295))) + ((IntKind.u64.wrap ((Go.bits .and .u64 a0 4294967295) * (Go.bits .and .u64 a1 4294967295))) / 4294967296))) 4294967295) + (IntKind.u64.wrap ((Go.bits .and .u64 a0 4294967295) * (a1 / 4294967296))))) / 4294967296)), IntKind.u64.wrap (a0 * a1))
theorem mul64_is (x y : Int) (hx0 : 0 ≤ x) (hx1 : x < 18446744073709551616) (hy0 : 0 ≤ y) (hy1 : y < 18446744073709551616) :
    mul64f x y = (x * y / 18446744073709551616, x * y % 18446744073709551616) := by
  obtain ⟨x, rfl⟩ : ∃ n : Nat, x = n := ⟨x.toNat, by omega⟩
  obtain ⟨y, rfl⟩ : ∃ n : Nat, y = n := ⟨y.toNat, by omega⟩
  obtain ⟨h1, h2, h3, h4⟩ := Lib.mul64_hi x y (by omega) (by omega)
  have h11 := Lib.half_mul_le (a := x / 4294967296) (b := y / 4294967296) (by omega) (by omega)
  have h10 := Lib.half_mul_le (a := x / 4294967296) (b := y % 4294967296) (by omega) (by omega)
  have h01 := Lib.half_mul_le (a := x % 4294967296) (b := y / 4294967296) (by omega) (by omega)
  have h00 := Lib.half_mul_le (a := x % 4294967296) (b := y % 4294967296) (by omega) (by omega)
  unfold mul64f
  rw [and32 _ hx0 hx1, and32 _ hy0 hy1]
  have c11 : ((x : Int) / 4294967296) * ((y : Int) / 4294967296) = ((x / 4294967296 * (y / 4294967296) : Nat) : Int) := by simp only [Int.natCast_mul, Int.natCast_ediv, Int.natCast_emod, Int.cast_ofNat_Int]
  have c10 : ((x : Int) / 4294967296) * ((y : Int) % 4294967296) = ((x / 4294967296 * (y % 4294967296) : Nat) : Int) := by simp only [Int.natCast_mul, Int.natCast_ediv, Int.natCast_emod, Int.cast_ofNat_Int]
  have c01 : ((x : Int) % 4294967296) * ((y : Int) / 4294967296) = ((x % 4294967296 * (y / 4294967296) : Nat) : Int) := by simp only [Int.natCast_mul, Int.natCast_ediv, Int.natCast_emod, Int.cast_ofNat_Int]
  have c00 : ((x : Int) % 4294967296) * ((y : Int) % 4294967296) = ((x % 4294967296 * (y % 4294967296) : Nat) : Int) := by simp only [Int.natCast_mul, Int.natCast_ediv, Int.natCast_emod, Int.cast_ofNat_Int]
  have cp : (x : Int) * (y : Int) = ((x * y : Nat) : Int) := by simp only [Int.natCast_mul, Int.natCast_ediv, Int.natCast_emod, Int.cast_ofNat_Int]
  rw [c11, c10, c01, c00, cp]
  generalize x / 4294967296 * (y / 4294967296) = a at *
  generalize x / 4294967296 * (y % 4294967296) = b at *
  generalize x % 4294967296 * (y / 4294967296) = c at *
  generalize x % 4294967296 * (y % 4294967296) = d at *
  generalize x * y = p at *
  simp only [uw]
  have i1 : ((d : Int) % 18446744073709551616) = d := by omega
  have i2 : ((b : Int) % 18446744073709551616 + (d : Int) % 18446744073709551616 / 4294967296) % 18446744073709551616 = ((b + d / 4294967296 : Nat) : Int) := by omega
  rw [i2, and32 _ (by omega) (by omega)]
  have i3 : (((b + d / 4294967296 : Nat) : Int) % 4294967296 + (c : Int) % 18446744073709551616) % 18446744073709551616 = (((b + d / 4294967296) % 4294967296 + c : Nat) : Int) := by omega
  rw [i3]
  congr 1
  omega
set_option maxHeartbeats 4000000 in
theorem mul64_calls (x y : Int) (w : World) : Calls Tryd.prog 59 #[.int .u64 x, .int .u64 y] w fun e w' => e = .returned (.tuple #[.int .u64 (mul64f x y).1, .int .u64 (mul64f x y).2]) ∧ Turns [] w w' := by
  unfold mul64f
  go_enter Tryd.func59, Tryd.ntmps59
  go_wp2_with fail
  go_ret2
  exact ⟨rfl, Turns.refl _ _⟩
theorem div_bd {x y : Int} (hx : 0 ≤ x) (h : x ≤ 4611686018427387904) (hy : 0 < y) : 0 ≤ x / y ∧ x / y ≤ 4611686018427387904 :=
  ⟨Int.ediv_nonneg hx (by omega), Int.le_trans (Int.ediv_le_self _ hx) h⟩
end Go.Proofs.YtmaielpfeajelaaDoor.Mu
