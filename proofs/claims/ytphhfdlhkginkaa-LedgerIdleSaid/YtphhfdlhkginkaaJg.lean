/- LedgerIdle, the plain law: a row that is idle, and the row that is not there, looked at: the same. No program in sight. -/
import Derived.Test.YtphhfdlhkginkaaBe
import Derived.Test.YtphhfdlhkginkaaFb
set_option linter.unusedVariables false
set_option linter.unusedSimpArgs false
namespace Go.Proofs.Ytphhfdlhkginkaa.Jg
open Fa Fb Ba Sm Be
theorem mul_mono (a : Int) {b c : Int} (h : b ≤ c) : mul a b ≤ mul a c := by
  have h1 : fit b ≤ fit c := by unfold fit; omega
  have := Int.mul_le_mul_of_nonneg_left h1 (fit_bd a).1
  unfold mul; omega
theorem one_of {R : List Row} (h : Rise R) {x y : Row} (hx : x ∈ R) (hy : y ∈ R) (he : x.key = y.key) : x = y := by
  obtain ⟨i, hi⟩ := List.getElem?_of_mem hx
  obtain ⟨j, hj⟩ := List.getElem?_of_mem hy
  have h1 := (rise_pl h hi).1
  have h2 := (rise_pl h hj).1
  rw [he, h2] at h1
  subst h1
  rw [hj] at hi
  injection hi with hi
  exact hi.symm
theorem idle_gone {start at_ : Int} {c : Ba.Cf} {R : List Row} {r : Row} (hR : Rise R) (hr : r ∈ R) (hi : idleR start c at_ r = true) : isAt (sweepR start c at_ R) r.key = false := by
  cases h : isAt (sweepR start c at_ R) r.key with
  | false => rfl
  | true =>
    obtain ⟨x, hx, he⟩ := isAt_true h
    have hm := List.mem_filter.1 (List.mem_of_getElem? hx)
    have := one_of hR hm.1 hr he
    subst this
    rw [hi] at hm
    exact absurd hm.2 (by simp)
theorem idle_same {start at_ now : Int} {c : Ba.Cf} {R : List Row} {r : Row} {q : Int × Int} (hR : Rise R) (hr : r ∈ R) (hs : 0 ≤ start) (hm : start ≤ r.mark) (hm2 : r.mark ≤ 4611686018427387904) (hk0 : 0 ≤ c.skew) (hk1 : c.skew ≤ 2147483648)
    (h0 : 0 ≤ at_) (h1 : at_ ≤ 4611686018427387904) (n0 : 0 ≤ now) (n1 : now ≤ 4611686018427387904) (hn : at_ - 2 * c.skew ≤ now) (hq : rateR c r.key = some q) (hB0 : 0 ≤ q.2) (hB1 : q.2 ≤ 2147483648) (hi : idleR start c at_ r = true) :
    lookR start (sweepR start c at_ R) r.key now q = lookR start R r.key now q := by
  have hg := idle_gone hR hr hi
  obtain ⟨k, hk⟩ := List.getElem?_of_mem hr
  have hp := rise_pl hR hk
  unfold lookR
  rw [rwAt_no hg, rwAt_yes hp.2 (by rw [hp.1]; exact hk)]
  unfold idleR at hi
  rw [hq] at hi
  simp only [Bool.and_eq_true, decide_eq_true_eq, beq_iff_eq] at hi
  obtain ⟨i1, i2, i3, i4⟩ := hi
  have ho : r.out = [] := List.eq_nil_of_length_eq_zero (by omega)
  have e2 : two c.skew c.skew = 2 * c.skew := by unfold two fit; omega
  rw [e2] at i1
  have hmn : r.mark ≤ now := by
    unfold sub fit at i1
    omega
  unfold mintedR totalR
  simp only
  rw [ho, i3]
  simp only [List.map_nil]
  rw [sum_one, sum_one, fit_id hB0 (by omega)]
  have hm1 := mul_mono q.1 (show sub r.mark start ≤ sub now start by unfold sub fit; omega)
  have e0 : fit 0 = 0 := by decide
  have es : sub q.2 q.2 = 0 := by unfold sub; omega
  have et : sub q.2 (fit 0) = q.2 := by rw [e0]; unfold sub fit; omega
  have ea : min (mul q.1 (sub now r.mark)) 0 = 0 := by have := (mul_bd q.1 (sub now r.mark)).1; omega
  have eb : min (mul q.1 (sub now start)) q.2 = q.2 := by omega
  rw [es, et, ea, eb]
  have ez : two q.2 0 = q.2 := by unfold two fit; omega
  have ey : two 0 q.2 = q.2 := by unfold two fit; omega
  rw [ez, ey, show max start now = now by omega, show max r.mark now = now by omega]
/-- what a table that may be says of a row's mark -/
theorem rows_mark (start : Int) : ∀ (R : List Row) (p : Option Row), okRows start p R = true → ∀ x ∈ R, start ≤ x.mark ∧ x.mark ≤ 4611686018427387904
  | [], p, _ => by simp
  | x :: r, p, h => by
    unfold okRows rowB at h
    simp only [Bool.and_eq_true, inB, decide_eq_true_eq] at h
    obtain ⟨⟨_, _, hm, _⟩, _, h4⟩ := h
    intro y hy
    rcases List.mem_cons.1 hy with rfl | hy
    · exact hm
    · exact rows_mark start r (some x) h4 y hy
theorem table_mark {start : Int} {R : List Row} (h : tableB start R = true) : 0 ≤ start ∧ ∀ x ∈ R, start ≤ x.mark ∧ x.mark ≤ 4611686018427387904 := by
  unfold tableB at h
  simp only [Bool.and_eq_true, inB, decide_eq_true_eq] at h
  exact ⟨h.2.1.1, rows_mark start R none h.1⟩
end Go.Proofs.Ytphhfdlhkginkaa.Jg
