/- annonalaw12's place. -/
import Derived.Test.YtoojemdehmabhaaQo
set_option linter.unusedVariables false
set_option linter.unusedSimpArgs false
set_option maxRecDepth 100000
namespace Go.Proofs.Ytoojemdehmabhaa.Qp
open Go.RowKit Go.MapKept Go.Shelf Hm Hs Hf Hg Hx Hy Hv Qa Qb Qe
theorem lplace_is (w : World) (v : Value) (l : List It) (id : Int) (h : RdS 5 w v (l.map It.cells)) (hn : l.length ≤ 100000) : Calls Try.prog 15 #[v, .int .i64 id] w fun e w' => e = .returned (.int .i64 (posQ l id)) ∧ Turns [] w w' := by
  have hh := Lib.hid h
  obtain ⟨A, c, rfl, _⟩ := h.form
  rw [List.length_map]
  unfold posQ
  obtain ⟨r, hr⟩ : ∃ r, ixFrom (fun x => x.id == id) l 0 = r := ⟨_, rfl⟩
  rw [hr]
  have hrh := Lib.hid hr
  clear h hr
  go_enter Try.func15, Try.ntmps15
  go_wp2_with fail
  go_loopw [5] (fun v5 wr => ∃ (j : Nat), j ≤ l.length ∧ v5 = .int .i64 j ∧ ixFrom (fun x => x.id == id) (l.drop j) j = r ∧ Turns [] w wr) (fun v5 _ => l.length - (RowKit.intOf v5).toNat)
  case atStart => exact ⟨0, by omega, rfl, hrh.out, Turns.refl _ _⟩
  case round =>
    obtain ⟨j, hj, rfl, hpj, T⟩ := hrel
    by_cases hlt : j < l.length
    · have g1 : decide ((j : Int) < (l.length : Int)) = true := by simp; omega
      obtain ⟨x, hx⟩ : ∃ x, l[j]? = some x := ⟨_, List.getElem?_eq_getElem hlt⟩
      obtain ⟨ad, c', hv, L⟩ := icells_at hh.out hx
      injection hv with e1 e2 e3
      subst e1 e3
      obtain ⟨i0, i1, i2, i3, i4⟩ := L.turns T
      rw [Qa.drop_cons hx] at hpj
      unfold ixFrom at hpj
      clear hx e2 L
      cases hq : (x.id == id) with
      | true =>
        rw [hq] at hpj
        simp only [if_true] at hpj
        subst hpj
        go_wp2_with fail
        go_ret
        exact ⟨rfl, T⟩
      | false =>
        rw [hq] at hpj
        simp only [Bool.false_eq_true, if_false] at hpj
        have hpjh := Lib.hid hpj
        clear hpj
        go_wp2_with fail
        go_roundw
        case rel => exact ⟨j + 1, by omega, by go_num, hpjh.out, T⟩
        case measure => simp [RowKit.intOf]; omega
    · obtain rfl : j = l.length := by omega
      have g1 : decide ((l.length : Int) < (l.length : Int)) = false := by simp
      rw [List.drop_length] at hpj
      unfold ixFrom at hpj
      subst hpj
      go_wp2_with fail
      go_ret
      exact ⟨rfl, T⟩
end Go.Proofs.Ytoojemdehmabhaa.Qp
