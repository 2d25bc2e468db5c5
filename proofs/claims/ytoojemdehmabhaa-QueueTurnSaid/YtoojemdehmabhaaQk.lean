/- Items by classes: putting one by one into a list by classes, from behind. No program in sight. -/
import Derived.Test.YtoojemdehmabhaaQj
set_option linter.unusedVariables false
set_option linter.unusedSimpArgs false
namespace Go.Proofs.Ytoojemdehmabhaa.Qk
open Go.RowKit Qa Qb
/-- by classes, and within a class as they came -/
def stab (L : List It) : List It := L.filter (fun x => x.cls == 0) ++ L.filter (fun x => x.cls == 1) ++ L.filter (fun x => x.cls == 2)
def Cls (L : List It) : Prop := ∀ x ∈ L, 0 ≤ x.cls ∧ x.cls ≤ 2
theorem stab_mem {L : List It} (h : Cls L) (x : It) : x ∈ stab L ↔ x ∈ L := by
  unfold stab
  simp only [List.mem_append, List.mem_filter, beq_iff_eq]
  constructor
  · rintro ((h1 | h1) | h1) <;> exact h1.1
  · intro hx
    have := h x hx
    rcases (show x.cls = 0 ∨ x.cls = 1 ∨ x.cls = 2 by omega) with e | e | e
    · exact .inl (.inl ⟨hx, e⟩)
    · exact .inl (.inr ⟨hx, e⟩)
    · exact .inr ⟨hx, e⟩
theorem stab_len : ∀ {L : List It}, Cls L → (stab L).length = L.length
  | [], _ => rfl
  | x :: L, h => by
    have ih := stab_len (L := L) (fun y hy => h y (by simp [hy]))
    have hx := h x (by simp)
    unfold stab at ih ⊢
    simp only [List.length_append, List.filter_cons] at ih ⊢
    rcases (show x.cls = 0 ∨ x.cls = 1 ∨ x.cls = 2 by omega) with e | e | e <;> simp [e] <;> omega
theorem stab_sorted (L : List It) : (stab L).Pairwise (fun a b => a.cls ≤ b.cls) := by
  have h : ∀ (c : Int), (L.filter (fun x => x.cls == c)).Pairwise (fun a b => a.cls ≤ b.cls) := by
    intro c
    refine List.Pairwise.imp_of_mem (R := fun _ _ => True) (fun {a b} ha hb _ => ?_) (List.pairwise_of_forall (fun _ _ => trivial))
    have h1 := (List.mem_filter.1 ha).2
    have h2 := (List.mem_filter.1 hb).2
    simp at h1 h2
    omega
  unfold stab
  rw [List.pairwise_append, List.pairwise_append]
  refine ⟨⟨h 0, h 1, fun a ha b hb => ?_⟩, h 2, fun a ha b hb => ?_⟩
  · have h1 := (List.mem_filter.1 ha).2
    have h2 := (List.mem_filter.1 hb).2
    simp at h1 h2
    omega
  · have h2 := (List.mem_filter.1 hb).2
    simp at h2
    rcases List.mem_append.1 ha with ha | ha
    · have h1 := (List.mem_filter.1 ha).2
      simp at h1
      omega
    · have h1 := (List.mem_filter.1 ha).2
      simp at h1
      omega
theorem stab_snoc {L : List It} {x : It} (hx : 0 ≤ x.cls ∧ x.cls ≤ 2) : stab (L ++ [x]) = (stab L).filter (fun y => decide (y.cls ≤ x.cls)) ++ x :: (stab L).filter (fun y => decide (x.cls < y.cls)) := by
  have f : ∀ (c : Int) (p : Int → Bool), (L.filter (fun y => y.cls == c)).filter (fun y => p y.cls) = if p c then L.filter (fun y => y.cls == c) else [] := by
    intro c p
    split
    · rename_i hp
      refine List.filter_eq_self.2 (fun y hy => ?_)
      have := (List.mem_filter.1 hy).2
      simp at this
      rw [this]; exact hp
    · rename_i hp
      refine List.filter_eq_nil_iff.2 (fun y hy => ?_)
      have := (List.mem_filter.1 hy).2
      simp at this
      rw [this]; exact hp
  unfold stab
  simp only [List.filter_append]
  rcases (show x.cls = 0 ∨ x.cls = 1 ∨ x.cls = 2 by omega) with e | e | e
  · have a0 := f 0 (fun c => decide (c ≤ 0)); have a1 := f 1 (fun c => decide (c ≤ 0)); have a2 := f 2 (fun c => decide (c ≤ 0))
    have b0 := f 0 (fun c => decide (0 < c)); have b1 := f 1 (fun c => decide (0 < c)); have b2 := f 2 (fun c => decide (0 < c))
    have e' := e
    rw [e]
    rw [a0, a1, a2, b0, b1, b2]
    simp [List.filter_cons, e']
  · have a0 := f 0 (fun c => decide (c ≤ 1)); have a1 := f 1 (fun c => decide (c ≤ 1)); have a2 := f 2 (fun c => decide (c ≤ 1))
    have b0 := f 0 (fun c => decide (1 < c)); have b1 := f 1 (fun c => decide (1 < c)); have b2 := f 2 (fun c => decide (1 < c))
    have e' := e
    rw [e]
    rw [a0, a1, a2, b0, b1, b2]
    simp [List.filter_cons, e']
  · have a0 := f 0 (fun c => decide (c ≤ 2)); have a1 := f 1 (fun c => decide (c ≤ 2)); have a2 := f 2 (fun c => decide (c ≤ 2))
    have b0 := f 0 (fun c => decide (2 < c)); have b1 := f 1 (fun c => decide (2 < c)); have b2 := f 2 (fun c => decide (2 < c))
    have e' := e
    rw [e]
    rw [a0, a1, a2, b0, b1, b2]
    simp [List.filter_cons, e']
/-- x is on its way down in P, at j; R is behind -/
structure In (P : List It) (x : It) (R : List It) (j : Nat) (C : List It) : Prop where
  eq : C = P.take j ++ x :: (P.drop j ++ R)
  up : ∀ y ∈ P.drop j, x.cls < y.cls
  le : j ≤ P.length
theorem In.start (P : List It) (x : It) (R : List It) : In P x R P.length (P ++ x :: R) := ⟨by simp, by simp, Nat.le_refl _⟩
theorem In.len {P : List It} {x : It} {R : List It} {j : Nat} {C : List It} (h : In P x R j C) : C.length = P.length + 1 + R.length := by
  have := h.le
  rw [h.eq]
  simp only [List.length_append, List.length_take, List.length_cons, List.length_drop]
  omega
theorem In.here {P : List It} {x : It} {R : List It} {j : Nat} {C : List It} (h : In P x R j C) : C[j]? = some x := by
  have := h.le
  rw [h.eq, List.getElem?_append_right (by rw [List.length_take]; omega), List.length_take, Nat.min_eq_left this, Nat.sub_self]
  rfl
theorem In.ahead {P : List It} {x : It} {R : List It} {j : Nat} {C : List It} (h : In P x R (j + 1) C) {y : It} (hy : P[j]? = some y) : C[j]? = some y := by
  have := h.le
  rw [h.eq, List.getElem?_append_left (by rw [List.length_take]; omega), List.getElem?_take, if_pos (by omega)]
  exact hy
theorem In.step {P : List It} {x : It} {R : List It} {j : Nat} {C : List It} (h : In P x R (j + 1) C) {y : It} (hy : P[j]? = some y) (hc : x.cls < y.cls) : In P x R j ((C.set (j + 1) y).set j x) := by
  have hj := h.le
  obtain ⟨h1, rfl⟩ := List.getElem?_eq_some_iff.1 hy
  have e1 : P.take (j + 1) = P.take j ++ [P[j]] := by rw [List.take_add_one, hy]; rfl
  have e2 : P.drop j = P[j] :: P.drop (j + 1) := List.drop_eq_getElem_cons h1
  refine ⟨?_, ?_, by omega⟩
  · rw [h.eq, e1, e2]
    have hl : (P.take j).length = j := by rw [List.length_take]; omega
    generalize hA : P.take j = A at *
    subst hl
    simp [List.set_append]
    rw [e2]
    rfl
  · rw [e2]
    intro z hz
    rcases List.mem_cons.1 hz with rfl | hz
    · exact hc
    · exact h.up z hz
theorem In.done {L : List It} {x : It} {R : List It} {j : Nat} {C : List It} (h : In (stab L) x R j C) (hx : 0 ≤ x.cls ∧ x.cls ≤ 2) (hd : ∀ k y, k + 1 = j → (stab L)[k]? = some y → y.cls ≤ x.cls) : C = stab (L ++ [x]) ++ R := by
  have hs := stab_sorted L
  rw [stab_snoc hx]
  generalize stab L = P at *
  have hlo : ∀ y ∈ P.take j, y.cls ≤ x.cls := by
    intro y hy
    cases j with
    | zero => simp at hy
    | succ k =>
      have hk := h.le
      obtain ⟨z, hz⟩ : ∃ z, P[k]? = some z := ⟨_, List.getElem?_eq_getElem (by omega)⟩
      have h1 := hd k z rfl hz
      obtain ⟨i, hi⟩ := List.getElem?_of_mem hy
      rw [List.getElem?_take] at hi
      split at hi
      · rename_i hik
        obtain ⟨h2, rfl⟩ := List.getElem?_eq_some_iff.1 hi
        obtain ⟨h3, rfl⟩ := List.getElem?_eq_some_iff.1 hz
        by_cases e : i = k
        · subst e; exact h1
        · exact Int.le_trans (List.pairwise_iff_getElem.1 hs i k h2 h3 (by omega)) h1
      · cases hi
  have e1 : P.filter (fun y => decide (y.cls ≤ x.cls)) = P.take j := by
    conv => lhs; rw [← List.take_append_drop j P]
    rw [List.filter_append, List.filter_eq_self.2 (fun y hy => by simpa using hlo y hy), List.filter_eq_nil_iff.2 (fun y hy => by have := h.up y hy; simp; omega), List.append_nil]
  have e2 : P.filter (fun y => decide (x.cls < y.cls)) = P.drop j := by
    conv => lhs; rw [← List.take_append_drop j P]
    rw [List.filter_append, List.filter_eq_nil_iff.2 (fun y hy => by have := hlo y hy; simp; omega), List.filter_eq_self.2 (fun y hy => by simpa using h.up y hy), List.nil_append]
  rw [e1, e2, h.eq]
  simp
end Go.Proofs.Ytoojemdehmabhaa.Qk
