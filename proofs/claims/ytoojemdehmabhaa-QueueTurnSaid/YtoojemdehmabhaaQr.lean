/- annonaref12.Same of two lists that are one. -/
import Derived.Test.YtoojemdehmabhaaQq
set_option linter.unusedVariables false
set_option linter.unusedSimpArgs false
set_option maxRecDepth 100000
namespace Go.Proofs.Ytoojemdehmabhaa.Qr
open Go.RowKit Go.MapKept Go.Shelf Hm Hs Hf Hg Hx Hy Hv Qa Qb Qe Qi
set_option maxHeartbeats 1000000 in
theorem same_is (w : World) (v u : Value) (l : List It) (hv : RdS 5 w v (l.map It.cells)) (hu : RdS 5 w u (l.map It.cells)) : Calls Try.prog 38 #[v, u] w fun e w' => e = .returned (.bool true) ∧ Turns [] w w' := by
  have hv0 := Lib.hid hv
  have hu0 := Lib.hid hu
  obtain ⟨A, c, rfl, hc, hcm⟩ := hv.form
  obtain ⟨B, c2, rfl, hc2, hcm2⟩ := hu.form
  simp only [List.length_map] at hc hc2 ⊢
  clear hv hu
  go_enter Try.func38, Try.ntmps38
  go_wp2_with fail
  go_loopw [5] (fun v5 wr => ∃ (k : Nat), k ≤ l.length ∧ v5 = .int .i64 k ∧ Turns [] w wr) (fun v5 _ => l.length - (RowKit.intOf v5).toNat)
  case atStart => exact ⟨0, Nat.zero_le _, rfl, Turns.refl _ _⟩
  case round =>
    obtain ⟨k, hk, rfl, T⟩ := hrel
    by_cases hlt : k < l.length
    · have g1 : decide ((k : Int) < (l.length : Int)) = true := by simp; omega
      obtain ⟨x, hx⟩ : ∃ x, l[k]? = some x := ⟨_, List.getElem?_eq_getElem hlt⟩
      obtain ⟨ad, c', hv, L1⟩ := icells_at hv0.out hx
      obtain ⟨ad2, c2', hv2, L2⟩ := icells_at hu0.out hx
      injection hv with e1 e2 e3
      injection hv2 with e4 e5 e6
      subst e1 e3 e4 e6
      obtain ⟨i0, i1, i2, i3, i4⟩ := L1.turns T
      obtain ⟨j0, j1, j2, j3, j4⟩ := L2.turns T
      clear hx L1 L2 hv0 hu0
      go_wp2_with fail
      go_quiet (fail)
      go_wp2_with fail
      go_roundw
      case rel => exact ⟨k + 1, by omega, by go_num, T.drewN _⟩
      case measure => simp [RowKit.intOf]; omega
    · obtain rfl : k = l.length := by omega
      have g1 : decide ((l.length : Int) < (l.length : Int)) = false := by simp
      go_wp2_with fail
      go_ret
      exact ⟨rfl, T⟩
end Go.Proofs.Ytoojemdehmabhaa.Qr
