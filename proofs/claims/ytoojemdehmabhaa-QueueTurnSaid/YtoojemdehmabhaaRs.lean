/- annonaref02.Same of two lists that are one. -/
import Derived.Test.YtoojemdehmabhaaProg
import Derived.Test.YtoojemdehmabhaaHx
import Derived.KernelRfl
import Derived.Lib.Hide
import Derived.BigQuiet
import Derived.Deep.QuietTactic
set_option linter.unusedVariables false
set_option linter.unusedSimpArgs false
set_option maxRecDepth 100000
namespace Go.Proofs.Ytoojemdehmabhaa.Rs
open Go.RowKit Hm Hs
theorem same_is (w : World) (v u : Value) (l : List Int) (hv : RdS 1 w v (ins l)) (hu : RdS 1 w u (ins l)) : Calls Try.prog 26 #[v, u] w fun e w' => e = .returned (.bool true) ∧ Turns [] w w' := by
  have hv0 := Lib.hid hv
  have hu0 := Lib.hid hu
  obtain ⟨A, c, rfl, hc, hcm⟩ := hv.form
  obtain ⟨B, c2, rfl, hc2, hcm2⟩ := hu.form
  simp only [ins_len] at hc hc2 ⊢
  clear hv hu
  go_enter Try.func26, Try.ntmps26
  go_wp2_with fail
  go_loopw [5] (fun v5 wr => ∃ (k : Nat), k ≤ l.length ∧ v5 = .int .i64 k ∧ Turns [] w wr) (fun v5 _ => l.length - (RowKit.intOf v5).toNat)
  case atStart => exact ⟨0, Nat.zero_le _, rfl, Turns.refl _ _⟩
  case round =>
    obtain ⟨k, hk, rfl, T⟩ := hrel
    by_cases hlt : k < l.length
    · have g1 : decide ((k : Int) < (l.length : Int)) = true := by simp; omega
      obtain ⟨x, hx⟩ : ∃ x, l[k]? = some x := ⟨_, List.getElem?_eq_getElem hlt⟩
      obtain ⟨ad, c', hv, _, hcell⟩ := hv0.out.at_ (j := k) (r := [.int .i64 x]) (by unfold ins; rw [List.getElem?_map, hx]; rfl)
      obtain ⟨ad2, c2', hv2, _, hcell2⟩ := hu0.out.at_ (j := k) (r := [.int .i64 x]) (by unfold ins; rw [List.getElem?_map, hx]; rfl)
      injection hv with e1 e2 e3
      injection hv2 with e4 e5 e6
      subst e1 e3 e4 e6
      have i0 := T.old (hcell 0 _ rfl)
      have i1 := T.old (hcell2 0 _ rfl)
      rw [Nat.mul_one, Nat.add_zero] at i0 i1
      clear hx hcell hcell2 hv0 hu0
      go_wp2_with fail
      go_quiet (fail)
      go_wp2_with fail
      go_roundw
      case rel => exact ⟨k + 1, by omega, by go_num, T.drewN _⟩
      case measure => simp [RowKit.intOf]; omega
    · obtain rfl : k = l.length := by omega
      have g1 : decide ((l.length : Int) < (l.length : Int)) = false := by simp
      go_wp2_with fail
      go_ret
      exact ⟨rfl, T⟩
end Go.Proofs.Ytoojemdehmabhaa.Rs
