/- Words of this work: numbers put one by one into a rising list, each once. No program in sight. -/
import Derived.RowKit
set_option linter.unusedVariables false
set_option linter.unusedSimpArgs false
namespace Go.Proofs.Ytoojemdehmabhaa.Hj
/-- one step of the walk along the list: what is behind it, whether x is in -/
def kst (x : Int) (a : List Int × Bool) (o : Int) : List Int × Bool :=
  let b := if a.2 = false ∧ x ≤ o then (a.1 ++ [x], true) else a
  if o = x then b else (b.1 ++ [o], b.2)
def kend (x : Int) (a : List Int × Bool) : List Int := if a.2 = false then a.1 ++ [x] else a.1
def kin (x : Int) (S : List Int) : List Int := kend x (S.foldl (kst x) ([], false))
theorem kst_done (x : Int) : ∀ (S acc : List Int), S.foldl (kst x) (acc, true) = (acc ++ S.filter (fun o => decide (o ≠ x)), true)
  | [], acc => by simp
  | o :: S, acc => by
    rw [List.foldl_cons]
    by_cases h : o = x
    · have : kst x (acc, true) o = (acc, true) := by simp [kst, h]
      rw [this, kst_done x S acc]
      simp [h]
    · have : kst x (acc, true) o = (acc ++ [o], true) := by simp [kst, h]
      rw [this, kst_done x S (acc ++ [o])]
      simp [h]
theorem kin_go (x : Int) : ∀ (S acc : List Int), S.Pairwise (· < ·) → kend x (S.foldl (kst x) (acc, false)) = acc ++ S.filter (fun o => decide (o < x)) ++ [x] ++ S.filter (fun o => decide (x < o))
  | [], acc, _ => by simp [kend]
  | o :: S, acc, h => by
    obtain ⟨h1, h2⟩ := List.pairwise_cons.1 h
    rw [List.foldl_cons]
    rcases Int.lt_trichotomy o x with hlt | heq | hgt
    · have : kst x (acc, false) o = (acc ++ [o], false) := by
        have h3 : ¬ x ≤ o := by omega
        have h4 : o ≠ x := by omega
        simp [kst, h3, h4]
      rw [this, kin_go x S (acc ++ [o]) h2]
      have h5 : ¬ x < o := by omega
      simp [hlt, h5]
    · subst heq
      have : kst o (acc, false) o = (acc ++ [o], true) := by simp [kst]
      rw [this, kst_done]
      have e1 : S.filter (fun y => decide (y ≠ o)) = S := List.filter_eq_self.2 (fun y hy => by have := h1 y hy; simp; omega)
      have e2 : S.filter (fun y => decide (y < o)) = [] := List.filter_eq_nil_iff.2 (fun y hy => by have := h1 y hy; simp; omega)
      have e3 : S.filter (fun y => decide (o < y)) = S := List.filter_eq_self.2 (fun y hy => by have := h1 y hy; simp; omega)
      simp only [kend, e1]
      simp [e2, e3]
    · have : kst x (acc, false) o = (acc ++ [x] ++ [o], true) := by
        have h3 : x ≤ o := by omega
        have h4 : o ≠ x := by omega
        simp [kst, h3, h4]
      rw [this, kst_done]
      have e1 : S.filter (fun y => decide (y ≠ x)) = S := List.filter_eq_self.2 (fun y hy => by have := h1 y hy; simp; omega)
      have e2 : S.filter (fun y => decide (y < x)) = [] := List.filter_eq_nil_iff.2 (fun y hy => by have := h1 y hy; simp; omega)
      have e3 : S.filter (fun y => decide (x < y)) = S := List.filter_eq_self.2 (fun y hy => by have := h1 y hy; simp; omega)
      have h5 : ¬ o < x := by omega
      simp only [kend, e1]
      simp [e2, e3, hgt, h5]
theorem kin_eq {x : Int} {S : List Int} (h : S.Pairwise (· < ·)) : kin x S = S.filter (fun o => decide (o < x)) ++ [x] ++ S.filter (fun o => decide (x < o)) := by
  unfold kin
  rw [kin_go x S [] h]
  simp
theorem kin_sorted {x : Int} {S : List Int} (h : S.Pairwise (· < ·)) : (kin x S).Pairwise (· < ·) := by
  rw [kin_eq h, List.pairwise_append, List.pairwise_append]
  refine ⟨⟨h.filter _, by simp, fun a ha b hb => ?_⟩, h.filter _, fun a ha b hb => ?_⟩
  · have := (List.mem_filter.1 ha).2
    simp at this hb
    omega
  · have hb2 := (List.mem_filter.1 hb).2
    simp only [decide_eq_true_eq] at hb2
    rcases List.mem_append.1 ha with ha | ha
    · have := (List.mem_filter.1 ha).2
      simp only [decide_eq_true_eq] at this
      omega
    · simp at ha
      omega
theorem kin_mem {x : Int} {S : List Int} (h : S.Pairwise (· < ·)) (y : Int) : y ∈ kin x S ↔ y = x ∨ y ∈ S := by
  rw [kin_eq h, List.mem_append, List.mem_append, List.mem_filter, List.mem_filter]
  simp only [decide_eq_true_eq, List.mem_singleton]
  constructor
  · rintro ((⟨h1, _⟩ | h1) | ⟨h1, _⟩)
    · exact .inr h1
    · exact .inl h1
    · exact .inr h1
  · rintro (h1 | h1)
    · exact .inl (.inr h1)
    · rcases Int.lt_trichotomy y x with h2 | h2 | h2
      · exact .inl (.inl ⟨h1, h2⟩)
      · exact .inl (.inr h2)
      · exact .inr ⟨h1, h2⟩
theorem kin_len {x : Int} {S : List Int} : (kin x S).length ≤ S.length + 1 := by
  have h : ∀ (S : List Int) (a : List Int × Bool), (kend x (S.foldl (kst x) a)).length ≤ a.1.length + S.length + 1 ∧ (a.2 = true → (kend x (S.foldl (kst x) a)).length ≤ a.1.length + S.length) := by
    intro S
    induction S with
    | nil =>
      intro a
      obtain ⟨l, b⟩ := a
      cases b <;> simp [kend]
    | cons o S ih =>
      intro a
      obtain ⟨l, b⟩ := a
      rw [List.foldl_cons]
      obtain ⟨h1, h2⟩ := ih (kst x (l, b) o)
      cases b with
      | true =>
        have e : (kst x (l, true) o).2 = true ∧ (kst x (l, true) o).1.length ≤ l.length + 1 := by
          unfold kst
          by_cases ho : o = x <;> simp [ho]
        have := h2 e.1
        have := e.2
        simp only [List.length_cons]
        exact ⟨by omega, fun _ => by omega⟩
      | false =>
        by_cases hx : x ≤ o
        · have e : (kst x (l, false) o).2 = true ∧ (kst x (l, false) o).1.length ≤ l.length + 2 := by
            unfold kst
            by_cases ho : o = x <;> simp [ho, hx]
          have := h2 e.1
          have := e.2
          simp only [List.length_cons]
          exact ⟨by omega, fun h => by cases h⟩
        · have e : (kst x (l, false) o).1.length ≤ l.length + 1 := by
            unfold kst
            by_cases ho : o = x <;> simp [ho, hx]
          simp only [List.length_cons]
          exact ⟨by omega, fun h => by cases h⟩
  have := (h S ([], false)).1
  unfold kin
  simpa using this
/-- two rising lists of the same numbers are one -/
theorem sorted_ext {a b : List Int} (ha : a.Pairwise (· < ·)) (hb : b.Pairwise (· < ·)) (h : ∀ x, x ∈ a ↔ x ∈ b) : a = b := by
  have na : a.Nodup := ha.imp (fun {x y} h => by omega)
  have nb : b.Nodup := hb.imp (fun {x y} h => by omega)
  have hp := (List.perm_ext_iff_of_nodup na nb).2 h
  exact List.Perm.eq_of_pairwise (le := fun x y => x < y) (fun x y _ _ h1 h2 => by omega) ha hb hp
end Go.Proofs.Ytoojemdehmabhaa.Hj
