/- Saturating numbers as plain functions. No program in sight. -/
import Derived.RowKit
import Derived.Lib.Mul64
import Derived.Laws.BitsLemmas
set_option linter.unusedVariables false
set_option linter.unusedSimpArgs false
namespace Go.Proofs.Ytoojemdehmabhaa.Sm
open Go.RowKit
theorem wr {x : Int} (h0 : -9223372036854775808 ≤ x) (h1 : x ≤ 9223372036854775807) : wrap64 x = x := by unfold wrap64; omega
def fit (x : Int) : Int := min (max x 0) 4611686018427387904
theorem fit_bd (x : Int) : 0 ≤ fit x ∧ fit x ≤ 4611686018427387904 := by unfold fit; omega
theorem fit_id {x : Int} (h0 : 0 ≤ x) (h1 : x ≤ 4611686018427387904) : fit x = x := by unfold fit; omega
theorem fit_fit (x : Int) : fit (fit x) = fit x := fit_id (fit_bd x).1 (fit_bd x).2
def two (a b : Int) : Int := min (fit a + fit b) 4611686018427387904
theorem two_bd (a b : Int) : 0 ≤ two a b ∧ two a b ≤ 4611686018427387904 := by unfold two fit; omega
theorem two_zero (a : Int) : two 0 a = fit a := by unfold two fit; omega
def sub (a b : Int) : Int := max (fit a - fit b) 0
theorem sub_bd (a b : Int) : 0 ≤ sub a b ∧ sub a b ≤ 4611686018427387904 := by unfold sub fit; omega
def sum (l : List Int) : Int := l.foldl two 0
theorem sum_snoc (l : List Int) (x : Int) : sum (l ++ [x]) = two (sum l) x := by unfold sum; rw [List.foldl_append]; rfl
theorem sum_bd (l : List Int) : 0 ≤ sum l ∧ sum l ≤ 4611686018427387904 := by
  rcases List.eq_nil_or_concat l with rfl | ⟨r, x, rfl⟩
  · unfold sum; decide
  · rw [List.concat_eq_append, sum_snoc]; exact two_bd _ _
theorem take_snoc {l : List Int} {k : Nat} {x : Int} (h : l[k]? = some x) : l.take (k + 1) = l.take k ++ [x] := by
  obtain ⟨hk, rfl⟩ := List.getElem?_eq_some_iff.1 h
  rw [List.take_succ_eq_append_getElem hk]
theorem step_is (s x : Int) (h0 : 0 ≤ s) (h1 : s ≤ 4611686018427387904) : fit (s + min (fit x) (4611686018427387904 - s)) = two s x := by
  unfold two fit; omega
def mul (a b : Int) : Int := min (fit a * fit b) 4611686018427387904
theorem mul_bd (a b : Int) : 0 ≤ mul a b ∧ mul a b ≤ 4611686018427387904 := by
  have := Int.mul_nonneg (fit_bd a).1 (fit_bd b).1
  unfold mul; omega
theorem uw (x : Int) : IntKind.u64.wrap x = x % 18446744073709551616 := by
  simp [IntKind.wrap, IntKind.signed, IntKind.bits]
theorem and32 (x : Int) (h0 : 0 ≤ x) (h1 : x < 18446744073709551616) : Go.bits .and .u64 x 4294967295 = x % 4294967296 := bits_mask .u64 64 (by decide) (fun n h0 h1 => by rw [uw]; omega) 32 (by decide) x h0 h1
end Go.Proofs.Ytoojemdehmabhaa.Sm
