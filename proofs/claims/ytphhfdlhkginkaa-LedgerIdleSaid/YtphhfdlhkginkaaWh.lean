/- Several small texts of this work in one: Rs Sat Mu Mv Cf Cn. -/
import Derived.Test.YtphhfdlhkginkaaProg
import Derived.Test.YtphhfdlhkginkaaWg
import Derived.KernelRfl
import Derived.Lib.Hide
import Derived.BigQuiet
import Derived.Deep.QuietTactic
import Derived.Lib.MinMax
import Derived.Deep.LoopGhost
import Derived.WalkSpells
section
/- annonaref02.Same of two lists that are one. -/
set_option linter.unusedVariables false
set_option linter.unusedSimpArgs false
set_option maxRecDepth 100000
namespace Go.Proofs.Ytphhfdlhkginkaa.Rs
open Go.RowKit Hm Hs
theorem same_is (w : World) (v u : Value) (l : List Int) (hv : RdS 1 w v (ins l)) (hu : RdS 1 w u (ins l)) : Calls Try.prog 16 #[v, u] w fun e w' => e = .returned (.bool true) ∧ Turns [] w w' := by
  have hv0 := Lib.hid hv
  have hu0 := Lib.hid hu
  obtain ⟨A, c, rfl, hc, hcm⟩ := hv.form
  obtain ⟨B, c2, rfl, hc2, hcm2⟩ := hu.form
  simp only [ins_len] at hc hc2 ⊢
  clear hv hu
  go_enter Try.func16, Try.ntmps16
  go_wp2_with fail
  go_loopw [5] (fun v5 wr => ∃ (k : Nat), k ≤ l.length ∧ v5 = .int .i64 k ∧ Turns [] w wr) (fun v5 _ => l.length - (RowKit.intOf v5).toNat)
  case atStart => exact ⟨0, Nat.zero_le _, rfl, Turns.refl _ _⟩
  case round =>
    obtain ⟨k, hk, rfl, T⟩ := hrel
    by_cases hlt : k < l.length
    · have g1 : decide ((k : Int) < (l.length : Int)) = true := by simp; omega
      obtain ⟨x, hx⟩ : ∃ x, l[k]? = some x := ⟨_, List.getElem?_eq_getElem hlt⟩
      obtain ⟨ad, c', hv, _, hcell⟩ := hv0.out.at_ (j := k) (r := [.int .i64 x]) (by unfold ins; rw [List.getElem?_map, hx]; rfl)
      obtain ⟨ad2, c2', hv2, _, hcell2⟩ := hu0.out.at_ (j := k) (r := [.int .i64 x]) (by unfold ins; rw [List.getElem?_map, hx]; rfl)
      injection hv with e1 e2 e3
      injection hv2 with e4 e5 e6
      subst e1 e3 e4 e6
      have i0 := T.old (hcell 0 _ rfl)
      have i1 := T.old (hcell2 0 _ rfl)
      rw [Nat.mul_one, Nat.add_zero] at i0 i1
      clear hx hcell hcell2 hv0 hu0
      go_wp2_with fail
      go_quiet (fail)
      go_wp2_with fail
      go_roundw
      case rel => exact ⟨k + 1, by omega, by go_num, T.drewN _⟩
      case measure => simp [RowKit.intOf]; omega
    · obtain rfl : k = l.length := by omega
      have g1 : decide ((l.length : Int) < (l.length : Int)) = false := by simp
      go_wp2_with fail
      go_ret
      exact ⟨rfl, T⟩
end Go.Proofs.Ytphhfdlhkginkaa.Rs
end
section
/- The walks of package sat, and of annonaref01's functions. -/
set_option linter.unusedVariables false
set_option linter.unusedSimpArgs false
set_option maxRecDepth 100000
namespace Go.Proofs.Ytphhfdlhkginkaa.Sat
open Go.RowKit Hm Sm
theorem ret64 {a b : Int} (h : a = b) : Ending.returned (.int .i64 a) = .returned (.int .i64 b) := by rw [h]
theorem clamp_is (x lo hi : Int) (w : World) (h : decide (hi < lo) = false) : Calls Try.prog 67 #[.int .i64 x, .int .i64 lo, .int .i64 hi] w fun e w' => e = .returned (.int .i64 (min (max x lo) hi)) ∧ Turns [] w w' := by
  go_enter Try.func67, Try.ntmps67
  go_wp2
  go_ret
  exact ⟨rfl, Turns.refl _ _⟩
theorem fit_is (x : Int) (w : World) : Calls Try.prog 45 #[.int .i64 x] w fun e w' => e = .returned (.int .i64 (fit x)) ∧ Turns [] w w' := by
  go_enter Try.func45, Try.ntmps45
  go_wp2_with fail
  go_at_call 67
  refine (clamp_is x 0 4611686018427387904 _ (by decide)).mono ?_
  rintro e w1 ⟨rfl, t1⟩
  go_wp2_with fail
  go_ret
  exact ⟨rfl, t1⟩
theorem sub_is (a b : Int) (w : World) : Calls Try.prog 41 #[.int .i64 a, .int .i64 b] w fun e w' => e = .returned (.int .i64 (sub a b)) ∧ Turns [] w w' := by
  have ha := fit_bd a; have hb := fit_bd b
  go_enter Try.func41, Try.ntmps41
  go_wp2_with fail
  go_at_call 45
  refine (fit_is a _).mono ?_
  rintro e w1 ⟨rfl, t1⟩
  go_wp2_with fail
  go_at_call 45
  refine (fit_is b _).mono ?_
  rintro e w2 ⟨rfl, t2⟩
  go_wp2_with fail
  go_ret
  exact ⟨rfl, t1.trans t2⟩
theorem add_is (A : Option Addr) (xs : List Int) (c : Nat) (w : World) (hr : IRow w A xs) : Calls Try.prog 39 #[.slice A xs.length c] w fun e w' => e = .returned (.int .i64 (sum xs)) ∧ Turns [] w w' := by
  have hl := hr.1
  go_enter Try.func39, Try.ntmps39
  go_wp2_with fail
  go_loopw [3, 8] (fun v3 v8 wr => ∃ k : Nat, k ≤ xs.length ∧ v8 = .int .i64 k ∧ v3 = .int .i64 (sum (xs.take k)) ∧ Turns [] w wr) (fun _ v8 _ => xs.length - (intOf v8).toNat)
  case atStart => exact ⟨0, Nat.zero_le _, rfl, rfl, Turns.refl _ _⟩
  case round =>
    obtain ⟨k, hk, rfl, rfl, T⟩ := hrel
    by_cases hlt : k < xs.length
    · obtain ⟨x, hx⟩ : ∃ x, xs[k]? = some x := ⟨_, List.getElem?_eq_getElem hlt⟩
      obtain ⟨ad, rfl, hc⟩ := hr.at_ hx
      have hc1 := T.old hc
      have hs := sum_bd (xs.take k)
      have HT : Hid (sum (xs.take (k + 1)) = two (sum (xs.take k)) x) := by rw [take_snoc hx]; exact sum_snoc _ _
      have HS := step_is (sum (xs.take k)) x hs.1 hs.2
      have hf := fit_bd x
      generalize sum (xs.take k) = s at *
      have HS2 : Hid _ := HS
      clear hc HS
      have hlt' : decide ((k : Int) < (xs.length : Int)) = true := by simp; omega
      go_wp2_with fail
      go_at_call 45
      refine (fit_is x _).mono ?_
      rintro e w1 ⟨rfl, t1⟩
      go_wp2_with fail
      go_at_call 45
      refine (fit_is _ _).mono ?_
      rintro e w2 ⟨rfl, t2⟩
      go_wp2_with fail
      go_roundw
      case rel => exact ⟨k + 1, by omega, by go_num, by rw [HT.out, ← HS2.out], (T.trans t1).trans t2⟩
      case measure => simp [intOf]; omega
    · have hk2 : k = xs.length := by omega
      subst hk2
      have hlt' : decide ((xs.length : Int) < (xs.length : Int)) = false := by simp
      go_wp2_with fail
      go_ret
      exact ⟨ret64 (by rw [List.take_length]), T⟩
theorem rfit_is (x : Int) (w : World) : Calls Try.prog 47 #[.int .i64 x] w fun e w' => e = .returned (.int .i64 (fit x)) ∧ Turns [] w w' := by
  by_cases h1 : x < 0
  · have e : fit x = 0 := by unfold fit; omega
    have h1' := decide_eq_true h1
    rw [e]
    go_enter Try.func47, Try.ntmps47
    go_wp2
    go_ret
    exact ⟨rfl, Turns.refl _ _⟩
  · by_cases h2 : x > 4611686018427387904
    · have e : fit x = 4611686018427387904 := by unfold fit; omega
      have h2' := decide_eq_true h2
      rw [e]
      go_enter Try.func47, Try.ntmps47
      go_wp2
      go_ret
      exact ⟨rfl, Turns.refl _ _⟩
    · have e : fit x = x := by unfold fit; omega
      have h2' := decide_eq_false h2
      rw [e]
      go_enter Try.func47, Try.ntmps47
      go_wp2
      go_ret
      exact ⟨rfl, Turns.refl _ _⟩
theorem two_is (a b : Int) (w : World) : Calls Try.prog 22 #[.int .i64 a, .int .i64 b] w fun e w' => e = .returned (.int .i64 (two a b)) ∧ Turns [] w w' := by
  have ha := fit_bd a; have hb := fit_bd b
  by_cases h : fit b > 4611686018427387904 - fit a
  · have e : two a b = 4611686018427387904 := by unfold two; omega
    have h' := decide_eq_true h
    rw [e]
    go_enter Try.func22, Try.ntmps22
    go_wp2_with fail
    go_at_call 47
    refine (rfit_is a _).mono ?_
    rintro e w1 ⟨rfl, t1⟩
    go_wp2_with fail
    go_at_call 47
    refine (rfit_is b _).mono ?_
    rintro e w2 ⟨rfl, t2⟩
    go_wp2_with fail
    go_ret
    exact ⟨rfl, t1.trans t2⟩
  · have e : two a b = fit a + fit b := by unfold two; omega
    have h' := decide_eq_false h
    rw [e]
    go_enter Try.func22, Try.ntmps22
    go_wp2_with fail
    go_at_call 47
    refine (rfit_is a _).mono ?_
    rintro e w1 ⟨rfl, t1⟩
    go_wp2_with fail
    go_at_call 47
    refine (rfit_is b _).mono ?_
    rintro e w2 ⟨rfl, t2⟩
    go_wp2_with fail
    go_ret
    exact ⟨rfl, t1.trans t2⟩
theorem radd_is (A : Option Addr) (xs : List Int) (c : Nat) (w : World) (hr : IRow w A xs) : Calls Try.prog 46 #[.slice A xs.length c] w fun e w' => e = .returned (.int .i64 (sum xs)) ∧ Turns [] w w' := by
  have hl := hr.1
  go_enter Try.func46, Try.ntmps46
  go_wp2_with fail
  go_loopw [3, 4] (fun v3 v8 wr => ∃ k : Nat, k ≤ xs.length ∧ v8 = .int .i64 k ∧ v3 = .int .i64 (sum (xs.take k)) ∧ Turns [] w wr) (fun _ v8 _ => xs.length - (intOf v8).toNat)
  case atStart => exact ⟨0, Nat.zero_le _, rfl, rfl, Turns.refl _ _⟩
  case round =>
    obtain ⟨k, hk, rfl, rfl, T⟩ := hrel
    by_cases hlt : k < xs.length
    · obtain ⟨x, hx⟩ : ∃ x, xs[k]? = some x := ⟨_, List.getElem?_eq_getElem hlt⟩
      obtain ⟨ad, rfl, hc⟩ := hr.at_ hx
      have hc1 := T.old hc
      have HT : Hid (sum (xs.take (k + 1)) = two (sum (xs.take k)) x) := by rw [take_snoc hx]; exact sum_snoc _ _
      generalize sum (xs.take k) = s at *
      clear hc
      have hlt' : decide ((k : Int) < (xs.length : Int)) = true := by simp; omega
      go_wp2_with fail
      go_at_call 22
      refine (two_is _ _ _).mono ?_
      rintro e w1 ⟨rfl, t1⟩
      go_wp2_with fail
      go_roundw
      case rel => exact ⟨k + 1, by omega, by go_num, by rw [HT.out], T.trans t1⟩
      case measure => simp [intOf]; omega
    · have hk2 : k = xs.length := by omega
      subst hk2
      have hlt' : decide ((xs.length : Int) < (xs.length : Int)) = false := by simp
      go_wp2_with fail
      go_ret
      exact ⟨ret64 (by rw [List.take_length]), T⟩
end Go.Proofs.Ytphhfdlhkginkaa.Sat
end
section
/- The walks of bits.Mul64, sat.Mul, sat.Ceil. -/
set_option linter.unusedVariables false
set_option linter.unusedSimpArgs false
set_option maxRecDepth 100000
namespace Go.Proofs.Ytphhfdlhkginkaa.Mu
open Go.RowKit Hm Sm Sat
def mul64f (a0 a1 : Int) : Int × Int := (IntKind.u64.wrap ((IntKind.u64.wrap ((IntKind.u64.wrap ((a0 / 4294967296) * (a1 / 4294967296))) + ((IntKind.u64.wrap ((IntKind.u64.wrap ((a0 / 4294967296) * (Go.bits .and .u64 a1 4294967295))) + ((IntKind.u64.wrap ((Go.bits .and .u64 a0 4294967295) * (Go.bits .and .u64 a1 4294967295))) / 4294967296))) / 4294967296))) + ((IntKind.u64.wrap ((Go.bits .and .u64 (IntKind.u64.wrap ((IntKind.u64.wrap ((a0 / 4294967296) * (Go.bits .and .u64 a1 4294967295))) + ((IntKind.u64.wrap ((Go.bits .and .u64 a0 4294967295) * (Go.bits .and .u64 a1 4294967295))) / 4294967296))) 4294967295) + (IntKind.u64.wrap ((Go.bits .and .u64 a0 4294967295) * (a1 / 4294967296))))) / 4294967296)), IntKind.u64.wrap (a0 * a1))
theorem mul64_is (x y : Int) (hx0 : 0 ≤ x) (hx1 : x < 18446744073709551616) (hy0 : 0 ≤ y) (hy1 : y < 18446744073709551616) :
    mul64f x y = (x * y / 18446744073709551616, x * y % 18446744073709551616) := by
  obtain ⟨x, rfl⟩ : ∃ n : Nat, x = n := ⟨x.toNat, by omega⟩
  obtain ⟨y, rfl⟩ : ∃ n : Nat, y = n := ⟨y.toNat, by omega⟩
  obtain ⟨h1, h2, h3, h4⟩ := Lib.mul64_hi x y (by omega) (by omega)
  have h11 := Lib.half_mul_le (a := x / 4294967296) (b := y / 4294967296) (by omega) (by omega)
  have h10 := Lib.half_mul_le (a := x / 4294967296) (b := y % 4294967296) (by omega) (by omega)
  have h01 := Lib.half_mul_le (a := x % 4294967296) (b := y / 4294967296) (by omega) (by omega)
  have h00 := Lib.half_mul_le (a := x % 4294967296) (b := y % 4294967296) (by omega) (by omega)
  unfold mul64f
  rw [and32 _ hx0 hx1, and32 _ hy0 hy1]
  have c11 : ((x : Int) / 4294967296) * ((y : Int) / 4294967296) = ((x / 4294967296 * (y / 4294967296) : Nat) : Int) := by simp only [Int.natCast_mul, Int.natCast_ediv, Int.natCast_emod, Int.cast_ofNat_Int]
  have c10 : ((x : Int) / 4294967296) * ((y : Int) % 4294967296) = ((x / 4294967296 * (y % 4294967296) : Nat) : Int) := by simp only [Int.natCast_mul, Int.natCast_ediv, Int.natCast_emod, Int.cast_ofNat_Int]
  have c01 : ((x : Int) % 4294967296) * ((y : Int) / 4294967296) = ((x % 4294967296 * (y / 4294967296) : Nat) : Int) := by simp only [Int.natCast_mul, Int.natCast_ediv, Int.natCast_emod, Int.cast_ofNat_Int]
  have c00 : ((x : Int) % 4294967296) * ((y : Int) % 4294967296) = ((x % 4294967296 * (y % 4294967296) : Nat) : Int) := by simp only [Int.natCast_mul, Int.natCast_ediv, Int.natCast_emod, Int.cast_ofNat_Int]
  have cp : (x : Int) * (y : Int) = ((x * y : Nat) : Int) := by simp only [Int.natCast_mul, Int.natCast_ediv, Int.natCast_emod, Int.cast_ofNat_Int]
  rw [c11, c10, c01, c00, cp]
  generalize x / 4294967296 * (y / 4294967296) = a at *
  generalize x / 4294967296 * (y % 4294967296) = b at *
  generalize x % 4294967296 * (y / 4294967296) = c at *
  generalize x % 4294967296 * (y % 4294967296) = d at *
  generalize x * y = p at *
  simp only [uw]
  have i1 : ((d : Int) % 18446744073709551616) = d := by omega
  have i2 : ((b : Int) % 18446744073709551616 + (d : Int) % 18446744073709551616 / 4294967296) % 18446744073709551616 = ((b + d / 4294967296 : Nat) : Int) := by omega
  rw [i2, and32 _ (by omega) (by omega)]
  have i3 : (((b + d / 4294967296 : Nat) : Int) % 4294967296 + (c : Int) % 18446744073709551616) % 18446744073709551616 = (((b + d / 4294967296) % 4294967296 + c : Nat) : Int) := by omega
  rw [i3]
  congr 1
  omega
set_option maxHeartbeats 4000000 in
theorem mul64_calls (x y : Int) (w : World) : Calls Try.prog 64 #[.int .u64 x, .int .u64 y] w fun e w' => e = .returned (.tuple #[.int .u64 (mul64f x y).1, .int .u64 (mul64f x y).2]) ∧ Turns [] w w' := by
  unfold mul64f
  go_enter Try.func64, Try.ntmps64
  go_wp2_with fail
  go_ret2
  exact ⟨rfl, Turns.refl _ _⟩
theorem mul_walk (a b : Int) (w : World) : Calls Try.prog 40 #[.int .i64 a, .int .i64 b] w fun e w' => e = .returned (.int .i64 (mul a b)) ∧ Turns [] w w' := by
  have ha := fit_bd a; have hb := fit_bd b
  have hp : 0 ≤ fit a * fit b := Int.mul_nonneg ha.1 hb.1
  have hm : mul a b = min (fit a * fit b) 4611686018427387904 := rfl
  have h64 := mul64_is (fit a) (fit b) ha.1 (by omega) hb.1 (by omega)
  obtain ⟨x, hx⟩ : ∃ x, fit a = x := ⟨_, rfl⟩
  obtain ⟨y, hy⟩ : ∃ y, fit b = y := ⟨_, rfl⟩
  have fa := fit_is a
  have fb := fit_is b
  rw [hx] at ha hp hm h64 fa
  rw [hy] at hb hp hm h64 fb
  have ux : IntKind.u64.wrap x = x := by rw [uw]; omega
  have uy : IntKind.u64.wrap y = y := by rw [uw]; omega
  obtain ⟨p, hpp⟩ : ∃ p, x * y = p := ⟨_, rfl⟩
  rw [hpp] at hp hm h64
  obtain ⟨M, hM⟩ : ∃ M, mul a b = M := ⟨_, rfl⟩
  rw [hM] at hm ⊢
  clear hx hy hM hpp
  have hc : Calls Try.prog 64 #[.int .u64 x, .int .u64 y] w fun e w' => True := (mul64_calls x y w).mono fun _ _ _ => trivial
  clear hc
  obtain ⟨h, hh⟩ : ∃ h, p / 18446744073709551616 = h := ⟨_, rfl⟩
  obtain ⟨l, hl⟩ : ∃ l, p % 18446744073709551616 = l := ⟨_, rfl⟩
  rw [hh, hl] at h64
  have H1 := congrArg Prod.fst h64
  have H2 := congrArg Prod.snd h64
  clear h64
  by_cases g1 : h > 0
  · have d1 := decide_eq_true g1
    obtain rfl : M = 4611686018427387904 := by omega
    clear hm hh hl g1 hp
    go_enter Try.func40, Try.ntmps40
    go_wp2_with fail
    go_at_call 45
    refine Calls.mono (fa _) ?_
    rintro e w1 ⟨rfl, t1⟩
    go_wp2_with fail
    go_at_call 45
    refine Calls.mono (fb _) ?_
    rintro e w2 ⟨rfl, t2⟩
    go_wp2_with fail
    go_at_call 64
    refine Calls.mono (mul64_calls x y _) ?_
    rintro e w3 ⟨rfl, t3⟩
    rw [H1, H2]
    go_wp2_with fail
    go_ret
    exact ⟨rfl, (t1.trans t2).trans t3⟩
  · have d1 := decide_eq_false g1
    by_cases g2 : l > 4611686018427387904
    · have d2 := decide_eq_true g2
      obtain rfl : M = 4611686018427387904 := by omega
      clear hm hh hl g1 g2 hp
      go_enter Try.func40, Try.ntmps40
      go_wp2_with fail
      go_at_call 45
      refine Calls.mono (fa _) ?_
      rintro e w1 ⟨rfl, t1⟩
      go_wp2_with fail
      go_at_call 45
      refine Calls.mono (fb _) ?_
      rintro e w2 ⟨rfl, t2⟩
      go_wp2_with fail
      go_at_call 64
      refine Calls.mono (mul64_calls x y _) ?_
      rintro e w3 ⟨rfl, t3⟩
      rw [H1, H2]
      go_wp2_with fail
      go_ret
      exact ⟨rfl, (t1.trans t2).trans t3⟩
    · have d2 := decide_eq_false g2
      obtain rfl : M = l := by omega
      have hlb : 0 ≤ M ∧ M ≤ 4611686018427387904 := by omega
      clear hm hh hl g1 g2 hp
      go_enter Try.func40, Try.ntmps40
      go_wp2_with fail
      go_at_call 45
      refine Calls.mono (fa _) ?_
      rintro e w1 ⟨rfl, t1⟩
      go_wp2_with fail
      go_at_call 45
      refine Calls.mono (fb _) ?_
      rintro e w2 ⟨rfl, t2⟩
      go_wp2_with fail
      go_at_call 64
      refine Calls.mono (mul64_calls x y _) ?_
      rintro e w3 ⟨rfl, t3⟩
      rw [H1, H2]
      go_wp2_with fail
      go_ret
      exact ⟨rfl, (t1.trans t2).trans t3⟩
def ceil (a b : Int) : Int := if fit b = 0 then 4611686018427387904 else if fit a % fit b > 0 then fit a / fit b + 1 else fit a / fit b
theorem div_bd {x y : Int} (hx : 0 ≤ x) (h : x ≤ 4611686018427387904) (hy : 0 < y) : 0 ≤ x / y ∧ x / y ≤ 4611686018427387904 :=
  ⟨Int.ediv_nonneg hx (by omega), Int.le_trans (Int.ediv_le_self _ hx) h⟩
end Go.Proofs.Ytphhfdlhkginkaa.Mu
end
section
/- annonaref01's Sub and Mul. -/
set_option linter.unusedVariables false
set_option linter.unusedSimpArgs false
set_option maxRecDepth 100000
namespace Go.Proofs.Ytphhfdlhkginkaa.Mv
open Go.RowKit Hm Sm Sat Mu
theorem rsub_is (a b : Int) (w : World) : Calls Try.prog 48 #[.int .i64 a, .int .i64 b] w fun e w' => e = .returned (.int .i64 (sub a b)) ∧ Turns [] w w' := by
  have ha := fit_bd a; have hb := fit_bd b
  have fa := rfit_is a
  have fb := rfit_is b
  have hm : sub a b = max (fit a - fit b) 0 := rfl
  obtain ⟨M, hM⟩ : ∃ M, sub a b = M := ⟨_, rfl⟩
  rw [hM] at hm ⊢
  generalize fit a = x at *
  generalize fit b = y at *
  clear hM
  by_cases h : y > x
  · have g := decide_eq_true h
    obtain rfl : M = 0 := by omega
    clear hm h
    go_enter Try.func48, Try.ntmps48
    go_wp2_with fail
    go_at_call 47
    refine Calls.mono (fa _) ?_
    rintro e w1 ⟨rfl, t1⟩
    go_wp2_with fail
    go_at_call 47
    refine Calls.mono (fb _) ?_
    rintro e w2 ⟨rfl, t2⟩
    go_wp2_with fail
    go_ret
    exact ⟨rfl, t1.trans t2⟩
  · have g := decide_eq_false h
    obtain rfl : M = x - y := by omega
    clear hm h
    go_enter Try.func48, Try.ntmps48
    go_wp2_with fail
    go_at_call 47
    refine Calls.mono (fa _) ?_
    rintro e w1 ⟨rfl, t1⟩
    go_wp2_with fail
    go_at_call 47
    refine Calls.mono (fb _) ?_
    rintro e w2 ⟨rfl, t2⟩
    go_wp2_with fail
    go_ret
    exact ⟨rfl, t1.trans t2⟩
/-- by doubling, from the highest digit on -/
def dbl (x y : Int) (k : Nat) : Int := min (x * (y / 2 ^ k)) 4611686018427387904
theorem dbl_bd {x y : Int} (hx : 0 ≤ x) (hy : 0 ≤ y) (k : Nat) : 0 ≤ dbl x y k ∧ dbl x y k ≤ 4611686018427387904 := by
  have : 0 ≤ x * (y / 2 ^ k) := Int.mul_nonneg hx (Int.ediv_nonneg hy (Int.le_of_lt (Int.pow_pos (by decide))))
  unfold dbl; omega
theorem half_div (y : Int) (m : Nat) : y / 2 ^ (m + 1) = y / 2 ^ m / 2 := by
  rw [Int.pow_succ, Int.ediv_ediv_of_nonneg (Int.le_of_lt (Int.pow_pos (by decide)))]
theorem two_id {s t : Int} (hs : 0 ≤ s ∧ s ≤ 4611686018427387904) (ht : 0 ≤ t ∧ t ≤ 4611686018427387904) : two s t = min (s + t) 4611686018427387904 := by
  unfold two; rw [fit_id hs.1 hs.2, fit_id ht.1 ht.2]
theorem dbl_even {x y : Int} (hx : 0 ≤ x ∧ x ≤ 4611686018427387904) (hy : 0 ≤ y) (m : Nat) (h : ¬ (y / 2 ^ m) % 2 = 1) : dbl x y m = two (dbl x y (m + 1)) (dbl x y (m + 1)) := by
  rw [two_id (dbl_bd hx.1 hy _) (dbl_bd hx.1 hy _)]
  unfold dbl
  rw [half_div]
  have hz : 0 ≤ y / 2 ^ m := Int.ediv_nonneg hy (Int.le_of_lt (Int.pow_pos (by decide)))
  generalize y / 2 ^ m = z at *
  obtain ⟨q, hq⟩ : ∃ q, z / 2 = q := ⟨_, rfl⟩
  have hz2 : z = 2 * q := by omega
  have hp : 0 ≤ x * q := Int.mul_nonneg hx.1 (by omega)
  rw [hq, hz2, show x * (2 * q) = 2 * (x * q) from by rw [Int.mul_left_comm]]
  generalize x * q = p at *
  omega
theorem dbl_odd {x y : Int} (hx : 0 ≤ x ∧ x ≤ 4611686018427387904) (hy : 0 ≤ y) (m : Nat) (h : (y / 2 ^ m) % 2 = 1) : dbl x y m = two (two (dbl x y (m + 1)) (dbl x y (m + 1))) x := by
  rw [two_id (two_bd _ _) hx, two_id (dbl_bd hx.1 hy _) (dbl_bd hx.1 hy _)]
  unfold dbl
  rw [half_div]
  have hz : 0 ≤ y / 2 ^ m := Int.ediv_nonneg hy (Int.le_of_lt (Int.pow_pos (by decide)))
  generalize y / 2 ^ m = z at *
  obtain ⟨q, hq⟩ : ∃ q, z / 2 = q := ⟨_, rfl⟩
  have hz2 : z = 2 * q + 1 := by omega
  have hp : 0 ≤ x * q := Int.mul_nonneg hx.1 (by omega)
  rw [hq, hz2, show x * (2 * q + 1) = 2 * (x * q) + x from by rw [Int.mul_add, Int.mul_left_comm, Int.mul_one]]
  generalize x * q = p at *
  omega
set_option maxHeartbeats 1000000 in
theorem rmul_is (a b : Int) (w : World) : Calls Try.prog 23 #[.int .i64 a, .int .i64 b] w fun e w' => e = .returned (.int .i64 (mul a b)) ∧ Turns [] w w' := by
  have ha := fit_bd a; have hb := fit_bd b
  have fa := rfit_is a
  have fb := rfit_is b
  have hm : mul a b = min (fit a * fit b) 4611686018427387904 := rfl
  obtain ⟨M, hM⟩ : ∃ M, mul a b = M := ⟨_, rfl⟩
  rw [hM] at hm ⊢
  generalize fit a = x at *
  generalize fit b = y at *
  have h63 : Hid (0 = dbl x y 63) := Lib.hid (by
    unfold dbl
    have : y / 2 ^ 63 = 0 := Int.ediv_eq_zero_of_lt hb.1 (by omega)
    rw [this]; omega)
  have h0 : Hid (M = dbl x y 0) := Lib.hid (by unfold dbl; rw [hm, Int.pow_zero, Int.ediv_one])
  clear hM hm
  go_enter Try.func23, Try.ntmps23
  go_wp2_with fail
  go_at_call 47
  refine Calls.mono (fa _) ?_
  rintro e w1 ⟨rfl, t1⟩
  go_wp2_with fail
  go_at_call 47
  refine Calls.mono (fb _) ?_
  rintro e w2 ⟨rfl, t2⟩
  go_wp2_with fail
  go_loopw [7, 8] (fun v7 v8 wr => ∃ (k : Nat) (s : Int), k ≤ 63 ∧ v8 = .int .i64 ((k : Int) - 1) ∧ v7 = .int .i64 s ∧ s = dbl x y k ∧ Turns [] w2 wr) (fun _ v8 _ => (intOf v8 + 1).toNat)
  case atStart => exact ⟨63, 0, by omega, rfl, rfl, h63.out, Turns.refl _ _⟩
  case round =>
    obtain ⟨k, s, hk, rfl, rfl, hs, T⟩ := hrel
    cases k with
    | zero =>
      have g1 : decide (((0 : Nat) : Int) - 1 ≥ 0) = false := by decide
      have hM := h0.out
      rw [← hs] at hM
      subst hM
      clear hs
      go_wp2_with fail
      go_ret
      exact ⟨rfl, (t1.trans t2).trans T⟩
    | succ m =>
      have e1 : (((m + 1 : Nat)) : Int) - 1 = (m : Int) := by omega
      rw [e1]
      have g1 : decide ((m : Int) ≥ 0) = true := by simp
      have hw1 : IntKind.u64.wrap (m : Int) = (m : Int) := by rw [uw]; omega
      have hsh : Op.shift .shr .i64 y .u64 (m : Int) = pure (.int .i64 (y / 2 ^ m)) := by
        rw [shift_shr_any .i64 .u64 y (m : Int) (by omega)]
        have : min ((m : Int).toNat) (IntKind.bits .i64) = m := by show min ((m : Int).toNat) 64 = m; omega
        rw [this]
      have hse := Lib.hid (dbl_even ha hb.1 m)
      have hso := Lib.hid (dbl_odd ha hb.1 m)
      rw [← hs] at hse hso
      have hz : 0 ≤ y / 2 ^ m := Int.ediv_nonneg hb.1 (Int.le_of_lt (Int.pow_pos (by decide)))
      have hzt : (y / 2 ^ m).tmod 2 = (y / 2 ^ m) % 2 := Int.tmod_eq_emod_of_nonneg hz
      clear hs e1
      by_cases ho : (y / 2 ^ m) % 2 = 1
      · have g2 : ((y / 2 ^ m).tmod 2 == 1) = true := by rw [hzt]; simpa using ho
        have hx := Lib.hid (hso.out ho)
        clear ho hzt hz hsh
        go_wp2_with fail
        go_at_call 22
        refine Calls.mono (two_is _ _ _) ?_
        rintro e w3 ⟨rfl, t3⟩
        go_wp2_with fail
        go_at_call 22
        refine Calls.mono (two_is _ _ _) ?_
        rintro e w4 ⟨rfl, t4⟩
        go_wp2_with fail
        go_roundw
        case rel => exact ⟨m, _, by omega, by first | rfl | go_num, rfl, hx.out.symm, (T.trans t3).trans t4⟩
        case measure => simp [RowKit.intOf] <;> omega
      · have g2 : ((y / 2 ^ m).tmod 2 == 1) = false := by rw [hzt]; simpa using ho
        have hx := Lib.hid (hse.out ho)
        clear ho hzt hz hsh
        go_wp2_with fail
        go_at_call 22
        refine Calls.mono (two_is _ _ _) ?_
        rintro e w3 ⟨rfl, t3⟩
        go_wp2_with fail
        go_roundw
        case rel => exact ⟨m, _, by omega, by first | rfl | go_num, rfl, hx.out.symm, T.trans t3⟩
        case measure => simp [RowKit.intOf] <;> omega
end Go.Proofs.Ytphhfdlhkginkaa.Mv
end
section
/- The walks of package conf: numbers, keys, ballots, spans, Check, Quarantine. -/
set_option linter.unusedVariables false
set_option linter.unusedSimpArgs false
set_option maxRecDepth 100000
namespace Go.Proofs.Ytphhfdlhkginkaa.Cf
open Go.RowKit Go.MapKept Hm Hs Hr Hb
def inSpan (lo x : Int) : Bool := !(decide (x < lo) || decide (x > 2147483648))
/-- at the first that is outside -/
def outAt (lo : Int) : List Int → Nat → Int
  | [], _ => -1
  | x :: l, k => if inSpan lo x then outAt lo l (k + 1) else (k : Int)
theorem outAt_cons (lo x : Int) (l : List Int) (k : Nat) : outAt lo (x :: l) k = if inSpan lo x then outAt lo l (k + 1) else (k : Int) := rfl
theorem outAt_nil (lo : Int) (k : Nat) : outAt lo [] k = -1 := rfl
theorem outAt_ge (lo : Int) : ∀ (l : List Int) (k : Nat), decide (outAt lo l k ≥ 0) = !(l.all (inSpan lo))
  | [], k => by simp [outAt]
  | x :: l, k => by
    unfold outAt
    cases h : inSpan lo x
    · simp [h]
    · simp only [h, if_true, List.all_cons, Bool.true_and]
      exact outAt_ge lo l (k + 1)
end Go.Proofs.Ytphhfdlhkginkaa.Cf
end
section
/- The walks of package conf and annonaref03: keys, ballots. -/
set_option linter.unusedVariables false
set_option linter.unusedSimpArgs false
set_option maxRecDepth 100000
namespace Go.Proofs.Ytphhfdlhkginkaa.Cn
open Go.RowKit Go.MapKept Hm Hs Hr Hb Cf
def nodesB (n : Int) : Bool := decide (1 ≤ n ∧ n ≤ 64)
theorem rright_is (n : Int) (w : World) : Calls Try.prog 52 #[.int .i64 n] w fun e w' => e = .returned (.bool (nodesB n)) ∧ Turns [] w w' := by
  unfold nodesB
  by_cases h1 : n ≥ 1
  · have g1 := decide_eq_true h1
    by_cases h2 : n ≤ 64
    · have g2 := decide_eq_true h2
      rw [decide_eq_true (by omega : 1 ≤ n ∧ n ≤ 64)]
      go_enter Try.func52, Try.ntmps52
      go_wp2_with fail
      go_ret
      exact ⟨rfl, Turns.refl _ _⟩
    · have g2 := decide_eq_false h2
      rw [decide_eq_false (by omega : ¬ (1 ≤ n ∧ n ≤ 64))]
      go_enter Try.func52, Try.ntmps52
      go_wp2_with fail
      go_ret
      exact ⟨rfl, Turns.refl _ _⟩
  · have g1 := decide_eq_false h1
    rw [decide_eq_false (by omega : ¬ (1 ≤ n ∧ n ≤ 64))]
    go_enter Try.func52, Try.ntmps52
    go_wp2_with fail
    go_ret
    exact ⟨rfl, Turns.refl _ _⟩
theorem nodes_yes {n : Int} (h : 1 ≤ n ∧ n ≤ 64) : nodesB n = true := decide_eq_true h
theorem nodes_no {n : Int} (h : ¬ (1 ≤ n ∧ n ≤ 64)) : nodesB n = false := decide_eq_false h
/-- a ballot that may be asked for -/
def mayNext (n node : Int) : Prop := (1 ≤ n ∧ n ≤ 64) ∧ 0 ≤ node ∧ node < n
/-- the next ballot of a node, if there is room -/
def nextT (n above node : Int) : Int := if above < n + node then n + node else n + node + ((above - (n + node)) / n + 1) * n
theorem div_bd {a n : Int} (hn : 1 ≤ n) (ha : 0 ≤ a) : 0 ≤ a / n ∧ a / n * n ≤ a ∧ a < a / n * n + n := by
  have h1 := Int.emod_nonneg a (by omega : n ≠ 0)
  have h2 := Int.emod_lt_of_pos a (by omega : 0 < n)
  have h3 := Int.mul_ediv_add_emod a n
  have h4 : n * (a / n) = a / n * n := Int.mul_comm _ _
  have h5 : 0 ≤ a / n := Int.ediv_nonneg ha (by omega)
  omega
theorem nextT_form {n above node : Int} (h : mayNext n node) : ∃ j : Int, nextT n above node = j * n + node ∧ max (above + 1) n ≤ nextT n above node ∧ nextT n above node - n < max (above + 1) n ∧ 1 ≤ j := by
  unfold mayNext at h
  unfold nextT
  by_cases hc : above < n + node
  · rw [if_pos hc]
    exact ⟨1, by omega, by omega, by omega, by omega⟩
  · rw [if_neg hc]
    obtain ⟨h1, h2, h3⟩ := div_bd (a := above - (n + node)) (n := n) (by omega) (by omega)
    generalize (above - (n + node)) / n = q at *
    have e : (q + 1) * n = q * n + n := by rw [Int.add_mul, Int.one_mul]
    have e2 : (q + 1 + 1) * n = (q + 1) * n + n := by rw [Int.add_mul, Int.one_mul]
    refine ⟨q + 1 + 1, ?_, ?_, ?_, ?_⟩
    · omega
    · omega
    · omega
    · omega
theorem nextT_mod {n above node : Int} (h : mayNext n node) : nextT n above node % n = node := by
  obtain ⟨j, e, _⟩ := nextT_form (above := above) h
  unfold mayNext at h
  rw [e, Int.add_comm, Int.add_mul_emod_self_right]
  exact Int.emod_eq_of_lt h.2.1 h.2.2
theorem nextT_first {n above node b : Int} (h : mayNext n node) (h1 : max (above + 1) n ≤ b) (h2 : b < nextT n above node) : b % n ≠ node := by
  obtain ⟨j, e, h3, h4, _⟩ := nextT_form (above := above) h
  unfold mayNext at h
  intro hb
  have h5 := Int.mul_ediv_add_emod b n
  rw [hb] at h5
  generalize b / n = k at *
  have hc : n * k = k * n := Int.mul_comm _ _
  have hlt : k * n < j * n := by omega
  have hkj : k < j := by
    rcases Int.lt_or_le k j with h6 | h6
    · exact h6
    · have := Int.mul_le_mul_of_nonneg_right h6 (by omega : 0 ≤ n); omega
  have h7 := Int.mul_le_mul_of_nonneg_right (by omega : k ≤ j - 1) (by omega : 0 ≤ n)
  rw [Int.sub_mul, Int.one_mul] at h7
  omega
theorem wrap_in {x : Int} (h : -9223372036854775808 ≤ x ∧ x ≤ 9223372036854775807) : wrap64 x = x := by unfold wrap64; omega
def nextR (n above node : Int) : Int × Int := if nextT n above node > 1099511627776 then (0, 6) else (nextT n above node, 0)
/-- whose a ballot is -/
def ownerR (n b : Int) : Int := if (1 ≤ n ∧ n ≤ 64) ∧ n ≤ b ∧ b ≤ 1099511627776 then b % n else -1
end Go.Proofs.Ytphhfdlhkginkaa.Cn
end
