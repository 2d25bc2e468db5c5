/- Frames as arguments, opened. -/
import Derived.Test.YtphhfdlhkginkaaFj
import Derived.Test.YtphhfdlhkginkaaWg
set_option linter.unusedVariables false
set_option linter.unusedSimpArgs false
set_option maxRecDepth 100000
namespace Go.Proofs.Ytphhfdlhkginkaa.No
open Go.RowKit Go.MapKept Go.ChangeShapes Go.WideShapes Hm Hs Ho Hn Ha Hv Fa Fg Fj
abbrev kdRow : List Kd := [kInt .i64, kInt .i64, kInt .i64, kSlice [kInt .i64, kInt .i64]]
abbrev kdFr : List Kd := [kInt .i64, kInt .i64, kInt .i64, kInt .i64, kInt .i64, kInt .u64, kInt .i64, kInt .i64, kSlice [kInt .i64], kInt .i64, kSlice kdRow]
theorem nestLs : Nest Try.prog 76 [kInt .i64, kInt .i64] :=
  nStruct Try.underlying76 (ncons rfl (nInt Try.underlying3 (by kernel_rfl)) (ncons rfl (nInt Try.underlying3 (by kernel_rfl)) nnil rfl) rfl) (by kernel_rfl)
theorem nestRow : Nest Try.prog 38 kdRow :=
  nStruct Try.underlying38 (ncons rfl (nInt Try.underlying3 (by kernel_rfl)) (ncons rfl (nInt Try.underlying3 (by kernel_rfl)) (ncons rfl (nInt Try.underlying3 (by kernel_rfl)) (ncons rfl (nSlice Try.underlying36 nestLs (by kernel_rfl)) nnil rfl) rfl) rfl) rfl) (by kernel_rfl)
theorem nestTab : Nest Try.prog 24 [kInt .i64, kSlice kdRow] :=
  nStruct Try.underlying24 (ncons rfl (nInt Try.underlying3 (by kernel_rfl)) (ncons rfl (nSlice Try.underlying22 nestRow (by kernel_rfl)) nnil rfl) rfl) (by kernel_rfl)
theorem nestTok : Nest Try.prog 60 [kInt .i64, kInt .i64, kSlice [kInt .i64], kInt .i64, kSlice kdRow] :=
  nStruct Try.underlying60 (ncons rfl (nInt Try.underlying3 (by kernel_rfl)) (ncons rfl (nInt Try.underlying3 (by kernel_rfl)) (ncons rfl (nSlice Try.underlying46 (nInt Try.underlying3 (by kernel_rfl)) (by kernel_rfl)) (ncons rfl nestTab nnil rfl) rfl) rfl) rfl) (by kernel_rfl)
/-- each row's leases are some -/
theorem rows_ex {w : World} : ∀ (X : List Rw), (∀ x ∈ X, ∃ ls, RdS 2 w x.out (lss ls)) → ∃ R, RowsIs w X R
  | [], _ => ⟨[], RowsIs.nil w⟩
  | x :: X, h => by
    obtain ⟨ls, hl⟩ := h x (by simp)
    obtain ⟨R, hR⟩ := rows_ex X (fun y hy => h y (by simp [hy]))
    refine ⟨⟨x.key, x.avail, x.mark, ls⟩ :: R, by simp [hR.1], fun j y s hy hs => ?_⟩
    cases j with
    | zero =>
      simp at hy hs
      subst hy hs
      exact ⟨rfl, rfl, rfl, hl⟩
    | succ j => exact hR.2 j y s (by simpa using hy) (by simpa using hs)
theorem rt_of {w : World} {v : Value} (h : kSlice kdRow w v) : ∃ R, RT w v R := by
  obtain ⟨X, h1, h2⟩ := h.list (f := Rw.cells) (p := fun x => ∃ ls, RdS 2 w x.out (lss ls)) (fun r hr => by
    obtain ⟨_, r0, rfl, ⟨a, rfl, _⟩, k0⟩ := hr.out
    obtain ⟨_, r1, rfl, ⟨b, rfl, _⟩, k1⟩ := k0.out
    obtain ⟨_, r2, rfl, ⟨c, rfl, _⟩, k2⟩ := k1.out
    obtain ⟨ov, r3, rfl, ko, k3⟩ := k2.out
    obtain rfl := k3.none
    obtain ⟨ls, hls, _⟩ := ko.list (f := fun p : Int × Int => [.int .i64 p.1, .int .i64 p.2]) (p := fun _ => True) (fun r hr => by
      obtain ⟨_, r0, rfl, ⟨x, rfl, _⟩, k0⟩ := hr.out
      obtain ⟨_, r1, rfl, ⟨y, rfl, _⟩, k1⟩ := k0.out
      obtain rfl := k1.none
      exact ⟨(x, y), rfl, trivial⟩)
    exact ⟨⟨a, b, c, ov⟩, rfl, ls, hls⟩)
  obtain ⟨R, hR⟩ := rows_ex X h2
  exact ⟨R, X, h1, hR⟩
/-- a frame's cells -/
theorem fr_of {w : World} {r : List Value} (h : Kds w kdFr r) : ∃ (f : Fr) (sv rv : Value), r = (frc f sv rv).toList ∧ TokR w f.tok sv rv ∧ 0 ≤ f.bits ∧ f.bits < 18446744073709551616 := by
  obtain ⟨_, r0, rfl, ⟨a0, rfl, _⟩, k0⟩ := h.out
  obtain ⟨_, r1, rfl, ⟨a1, rfl, _⟩, k1⟩ := k0.out
  obtain ⟨_, r2, rfl, ⟨a2, rfl, _⟩, k2⟩ := k1.out
  obtain ⟨_, r3, rfl, ⟨a3, rfl, _⟩, k3⟩ := k2.out
  obtain ⟨_, r4, rfl, ⟨a4, rfl, _⟩, k4⟩ := k3.out
  obtain ⟨_, r5, rfl, ⟨a5, rfl, w5⟩, k5⟩ := k4.out
  obtain ⟨_, r6, rfl, ⟨a6, rfl, _⟩, k6⟩ := k5.out
  obtain ⟨_, r7, rfl, ⟨a7, rfl, _⟩, k7⟩ := k6.out
  obtain ⟨sv, r8, rfl, ks, k8⟩ := k7.out
  obtain ⟨_, r9, rfl, ⟨a9, rfl, _⟩, k9⟩ := k8.out
  obtain ⟨rv, ra, rfl, kr, ka⟩ := k9.out
  obtain rfl := ka.none
  obtain ⟨l, hl, _⟩ := ks.ints
  obtain ⟨R, hR⟩ := rt_of kr
  exact ⟨⟨a0, a1, a2, a3, a4, a5, ⟨a6, a7, l, a9, R⟩⟩, sv, rv, rfl, ⟨hl, hR⟩, (u64_bd w5).1, by have := (u64_bd w5).2; show a5 < 18446744073709551616; omega⟩
end Go.Proofs.Ytphhfdlhkginkaa.No
