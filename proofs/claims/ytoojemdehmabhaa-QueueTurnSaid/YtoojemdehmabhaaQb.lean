/- The walks of package queue: DeleteFunc. (Not yet whole.) -/
import Derived.Test.YtoojemdehmabhaaQa
set_option linter.unusedVariables false
set_option linter.unusedSimpArgs false
set_option maxRecDepth 100000
namespace Go.Proofs.Ytoojemdehmabhaa.Qb
open Go.RowKit Go.MapKept Go.Shelf Hm Hs Hf Hg Hx Hy Hv Qa
/-- the list, while it is gone through: q are kept ahead, j have been seen -/
structure Mid (p : It → Bool) (l C : List It) (q j : Nat) : Prop where
  len : C.length = l.length
  kept : C.take q = (l.take j).filter (fun x => !p x)
  rest : C.drop j = l.drop j
  le : q < j
  ln : q = ((l.take j).filter (fun x => !p x)).length
theorem Mid.at_ {p : It → Bool} {l C : List It} {q j : Nat} (h : Mid p l C q j) {x : It} (hx : l[j]? = some x) : C[j]? = some x := by
  have := congrArg (fun l => l[0]?) h.rest
  simpa [List.getElem?_drop, hx] using this
theorem take_next {l : List It} {j : Nat} {x : It} (hx : l[j]? = some x) : l.take (j + 1) = l.take j ++ [x] := by rw [List.take_add_one, hx]; rfl
theorem Mid.skip {p : It → Bool} {l C : List It} {q j : Nat} (h : Mid p l C q j) {x : It} (hx : l[j]? = some x) (hp : p x = true) : Mid p l C q (j + 1) := by
  have e : (l.take (j + 1)).filter (fun x => !p x) = (l.take j).filter (fun x => !p x) := by rw [take_next hx, List.filter_append]; simp [hp]
  refine ⟨h.len, by rw [e]; exact h.kept, ?_, by have := h.le; omega, by rw [e]; exact h.ln⟩
  have := congrArg (List.drop 1) h.rest
  simpa [List.drop_drop] using this
theorem Mid.keep {p : It → Bool} {l C : List It} {q j : Nat} (h : Mid p l C q j) {x : It} (hx : l[j]? = some x) (hp : p x = false) : Mid p l (C.set q x) (q + 1) (j + 1) := by
  have hj := (List.getElem?_eq_some_iff.1 hx).1
  have hle := h.le
  have hlen := h.len
  have e : (l.take (j + 1)).filter (fun x => !p x) = (l.take j).filter (fun x => !p x) ++ [x] := by rw [take_next hx, List.filter_append]; simp [hp]
  refine ⟨by rw [List.length_set]; exact h.len, ?_, ?_, by omega, ?_⟩
  · rw [e, ← h.kept, List.take_add_one, List.getElem?_set_self (by omega), List.take_set_of_le (Nat.le_refl _)]
    rfl
  · rw [List.drop_set_of_lt (by omega)]
    have := congrArg (List.drop 1) h.rest
    simpa [List.drop_drop] using this
  · rw [e, List.length_append, ← h.ln]
    rfl
theorem Mid.done {p : It → Bool} {l C : List It} {q : Nat} (h : Mid p l C q l.length) : C.take q = l.filter (fun x => !p x) ∧ q = (l.filter (fun x => !p x)).length := by
  have h1 := h.kept
  have h2 := h.ln
  rw [List.take_length] at h1 h2
  exact ⟨h1, h2⟩
theorem Mid.start {p : It → Bool} {l : List It} {i : Nat} {x : It} (hx : l[i]? = some x) (hp : p x = true) (hb : ∀ k, k < i → ∀ y, l[k]? = some y → p y = false) : Mid p l l i (i + 1) := by
  have hi := (List.getElem?_eq_some_iff.1 hx).1
  have e0 : (l.take i).filter (fun x => !p x) = l.take i := List.filter_eq_self.2 (fun y hy => by
    obtain ⟨k, hk⟩ := List.getElem?_of_mem hy
    rw [List.getElem?_take] at hk
    split at hk
    · rename_i hki
      rw [hb k hki y hk]; rfl
    · cases hk)
  have e : (l.take (i + 1)).filter (fun x => !p x) = l.take i := by rw [take_next hx, List.filter_append, e0]; simp [hp]
  exact ⟨rfl, by rw [e], rfl, by omega, by rw [e, List.length_take]; omega⟩
end Go.Proofs.Ytoojemdehmabhaa.Qb
