/- frame.Clone: the same token, in memory of its own. -/
import Derived.Test.YtphhfdlhkginkaaFq
set_option linter.unusedVariables false
set_option linter.unusedSimpArgs false
set_option maxRecDepth 100000
namespace Go.Proofs.Ytphhfdlhkginkaa.Fr_
open Go.RowKit Go.MapKept Go.Shelf Hm Hs Hf Hx Hy Hv Fa Fb Ff Fg Fi Fq
def fitsT (t : Tok) : Prop := t.st.length ≤ 100 ∧ t.rows.length ≤ 100 ∧ ∀ r ∈ t.rows, r.out.length ≤ 100
/-- k rows have leases of their own -/
structure Part (w wr : World) (n0 : Nat) (X Y : List Rw) (R : List Row) (k : Nat) : Prop where
  le : k ≤ R.length
  len : Y.length = R.length
  done : ∀ (j : Nat) (y : Rw) (r : Row), j < k → Y[j]? = some y → R[j]? = some r → RowIs wr y r ∧ From n0 y.out
  rest : ∀ j, k ≤ j → Y[j]? = X[j]?
theorem rowis_far {w w' : World} {x : Rw} {r : Row} {F : List Nat} {n : Nat} (h : RowIs w x r) (hx : From n x.out) (t : Turns F w w') (hF : ∀ k ∈ F, k < n) : RowIs w' x r :=
  ⟨h.key, h.avail, h.mark, RdS.far h.out t (fun k hk hkF => by have := hx k hk; have := hF k hkF; omega)⟩
theorem Part.next {w wr w5 : World} {n0 k : Nat} {X Y : List Rw} {R : List Row} {F : List Nat} {x : Rw} {r : Row} {u : Value} (h : Part w wr n0 X Y R k) (hr : R[k]? = some r) (t : Turns F wr w5) (hF : ∀ k ∈ F, k < n0) (hx : RowIs w5 ⟨x.key, x.avail, x.mark, u⟩ r) (hu : From n0 u) : Part w w5 n0 X (Y.set k ⟨x.key, x.avail, x.mark, u⟩) R (k + 1) := by
  have hk := (List.getElem?_eq_some_iff.1 hr).1
  refine ⟨by omega, by rw [List.length_set]; exact h.len, fun j y s hj hy hs => ?_, fun j hj => ?_⟩
  · by_cases e : j = k
    · subst e
      rw [List.getElem?_set_self (by rw [h.len]; exact hk)] at hy
      injection hy with hy
      subst hy
      have : r = s := Option.some.inj (hr.symm.trans hs)
      subst this
      exact ⟨hx, hu⟩
    · rw [List.getElem?_set_ne (by omega)] at hy
      obtain ⟨h1, h2⟩ := h.done j y s (by omega) hy hs
      exact ⟨rowis_far h1 h2 t hF, h2⟩
  · rw [List.getElem?_set_ne (by omega)]
    exact h.rest j (by omega)
theorem Part.fin {w wr : World} {n0 : Nat} {X Y : List Rw} {R : List Row} (h : Part w wr n0 X Y R R.length) : RowsIs wr Y R ∧ ∀ y ∈ Y, From n0 y.out := by
  refine ⟨⟨h.len, fun j y r hy hr => (h.done j y r (List.getElem?_eq_some_iff.1 hr).1 hy hr).1⟩, fun y hy => ?_⟩
  obtain ⟨j, hj⟩ := List.getElem?_of_mem hy
  have hjl := (List.getElem?_eq_some_iff.1 hj).1
  obtain ⟨r, hr⟩ : ∃ r, R[j]? = some r := ⟨_, List.getElem?_eq_getElem (by rw [← h.len]; exact hjl)⟩
  exact (h.done j y r (by rw [← h.len]; exact hjl) hj hr).2
end Go.Proofs.Ytphhfdlhkginkaa.Fr_
