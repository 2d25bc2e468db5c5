/- Rings: Next by Next each node of a set comes once: the plain law. No program in sight. -/
import Derived.Test.YtmaielpfeajelaaDoorRd
set_option linter.unusedVariables false
set_option linter.unusedSimpArgs false
namespace Go.Proofs.YtmaielpfeajelaaDoor.Rk
open Hc Hd Ra Rd
/-- the first one above i -/
theorem next_above {l : List Nat} (hs : l.Pairwise (· < ·)) {i j : Nat} (hj : j ∈ l) (hij : i < j) (hm : ∀ y ∈ l, i < y → j ≤ y) : nextIn l i = j := by
  obtain ⟨q, r, rfl⟩ := List.append_of_mem hj
  refine next_hit (q := q) (k := j) (r := r) (by simp) (fun y hy => ?_) hij
  by_cases h : i < y
  · have h1 := hm y (by simp [hy]) h
    have h2 := (List.pairwise_append.1 hs).2.2 y hy j (by simp)
    omega
  · omega
/-- none is above i: the least one -/
theorem next_low {l : List Nat} (hs : l.Pairwise (· < ·)) {i j : Nat} (h : ∀ y ∈ l, y ≤ i) (hj : j ∈ l) (hm : ∀ y ∈ l, j ≤ y) : nextIn l i = min j i := by
  cases l with
  | nil => simp at hj
  | cons k r =>
    rw [next_first h]
    have h1 := hm k (by simp)
    have h2 : k ≤ j := by
      rcases List.mem_cons.1 hj with rfl | hj
      · exact Nat.le_refl _
      · exact Nat.le_of_lt ((List.pairwise_cons.1 hs).1 j hj)
    have : k = j := by omega
    rw [this]
/-- from place p the next one is at place p + 1, round -/
theorem next_place {l : List Nat} (hs : l.Pairwise (· < ·)) {p : Nat} {i : Nat} (hp : l[p]? = some i) : ∃ j, l[(p + 1) % l.length]? = some j ∧ nextIn l i = j := by
  obtain ⟨hpl, hpi⟩ := List.getElem?_eq_some_iff.1 hp
  have key : ∀ a b (ha : a < l.length) (hb : b < l.length), a < b → l[a] < l[b] := fun a b ha hb h => List.pairwise_iff_getElem.1 hs a b ha hb h
  by_cases h : p + 1 < l.length
  · rw [Nat.mod_eq_of_lt h]
    refine ⟨l[p + 1], List.getElem?_eq_getElem h, next_above hs (List.getElem_mem h) (by rw [← hpi]; exact key p (p + 1) hpl h (by omega)) (fun y hy hiy => ?_)⟩
    obtain ⟨q, hq, rfl⟩ := List.getElem_of_mem hy
    by_cases e : p + 1 ≤ q
    · by_cases e2 : q = p + 1
      · subst e2; exact Nat.le_refl _
      · exact Nat.le_of_lt (key (p + 1) q h hq (by omega))
    · exfalso
      by_cases e2 : q = p
      · subst e2; omega
      · have := key q p hq hpl (by omega); omega
  · have e : p + 1 = l.length := by omega
    rw [e, Nat.mod_self]
    have h0 : 0 < l.length := by omega
    have hall : ∀ y ∈ l, y ≤ i := fun y hy => by
      obtain ⟨q, hq, rfl⟩ := List.getElem_of_mem hy
      by_cases e2 : q = p
      · subst e2; omega
      · have := key q p hq hpl (by omega); omega
    refine ⟨l[0], List.getElem?_eq_getElem h0, ?_⟩
    rw [next_low hs hall (List.getElem_mem h0) (fun y hy => by
      obtain ⟨q, hq, rfl⟩ := List.getElem_of_mem hy
      by_cases e2 : q = 0
      · subst e2; exact Nat.le_refl _
      · exact Nat.le_of_lt (key 0 q h0 hq (by omega)))]
    have := hall l[0] (List.getElem_mem h0)
    omega
/-- t steps behind place p: k is there; sn has those that came -/
structure Rnd (l : List Nat) (p t k sn : Nat) : Prop where
  k : l[(p + t) % l.length]? = some k
  sn : ∀ y, bit sn y = true ↔ ∃ s, 1 ≤ s ∧ s ≤ t ∧ l[(p + s) % l.length]? = some y
theorem Rnd.start {l : List Nat} {p k : Nat} (hp : l[p]? = some k) : Rnd l p 0 k 0 := by
  obtain ⟨h, _⟩ := List.getElem?_eq_some_iff.1 hp
  refine ⟨by rw [Nat.add_zero, Nat.mod_eq_of_lt h]; exact hp, fun y => ⟨fun h => ?_, ?_⟩⟩
  · rw [bit_zero] at h; cases h
  · rintro ⟨s, h1, h2, _⟩
    omega
theorem mod_ne {p s t c : Nat} (hs : s < t) (ht : t < s + c) : (p + s) % c ≠ (p + t) % c := by
  intro e
  have h1 := Nat.div_add_mod (p + s) c
  have h2 := Nat.div_add_mod (p + t) c
  rw [e] at h1
  generalize (p + s) / c = a at h1
  generalize (p + t) / c = b at h2
  generalize (p + t) % c = r at h1 h2
  rcases Nat.lt_trichotomy a b with h | h | h
  · have := Nat.mul_le_mul_left c (show a + 1 ≤ b from h)
    rw [Nat.mul_add, Nat.mul_one] at this
    omega
  · subst h; omega
  · have := Nat.mul_le_mul_left c (show b + 1 ≤ a from h)
    rw [Nat.mul_add, Nat.mul_one] at this
    omega
theorem at_ne {l : List Nat} (hs : l.Pairwise (· < ·)) {a b x : Nat} (ha : l[a]? = some x) (hb : l[b]? = some x) : a = b := by
  obtain ⟨h1, h2⟩ := List.getElem?_eq_some_iff.1 ha
  obtain ⟨h3, h4⟩ := List.getElem?_eq_some_iff.1 hb
  rcases Nat.lt_trichotomy a b with h | h | h
  · have := List.pairwise_iff_getElem.1 hs a b h1 h3 h; omega
  · exact h
  · have := List.pairwise_iff_getElem.1 hs b a h3 h1 h; omega
/-- one step: it is new, it is of the set -/
theorem Rnd.step {l : List Nat} (hs : l.Pairwise (· < ·)) {p t k sn : Nat} (h : Rnd l p t k sn) (ht : t < l.length) : bit sn (nextIn l k) = false ∧ nextIn l k ∈ l ∧ Rnd l p (t + 1) (nextIn l k) (sn ||| 2 ^ nextIn l k) := by
  obtain ⟨j, hj, hn⟩ := next_place hs h.k
  have e1 : ((p + t) % l.length + 1) % l.length = (p + (t + 1)) % l.length := by rw [Nat.mod_add_mod]; rfl
  rw [e1] at hj
  rw [hn]
  refine ⟨?_, List.mem_of_getElem? hj, hj, fun y => ?_⟩
  · cases hb : bit sn j with
    | false => rfl
    | true =>
      exfalso
      obtain ⟨s, h1, h2, h3⟩ := (h.sn j).1 hb
      exact mod_ne (p := p) (s := s) (t := t + 1) (c := l.length) (by omega) (by omega) (at_ne hs h3 hj)
  · rw [bit_or, bit_pow, Bool.or_eq_true, h.sn, decide_eq_true_eq]
    constructor
    · rintro (⟨s, h1, h2, h3⟩ | rfl)
      · exact ⟨s, h1, by omega, h3⟩
      · exact ⟨t + 1, by omega, by omega, hj⟩
    · rintro ⟨s, h1, h2, h3⟩
      by_cases e : s = t + 1
      · subst e
        rw [hj] at h3
        injection h3 with h3
        exact .inr h3
      · exact .inl ⟨s, h1, by omega, h3⟩
theorem Rnd.done {l : List Nat} (hs : l.Pairwise (· < ·)) {p i k sn : Nat} (hp : l[p]? = some i) (h : Rnd l p l.length k sn) : k = i ∧ ∀ y, bit sn y = true ↔ y ∈ l := by
  obtain ⟨hpl, _⟩ := List.getElem?_eq_some_iff.1 hp
  have h1 := h.k
  rw [Nat.add_mod_right, Nat.mod_eq_of_lt hpl, hp] at h1
  injection h1 with h1
  refine ⟨h1.symm, fun y => ?_⟩
  rw [h.sn]
  constructor
  · rintro ⟨s, _, _, h3⟩
    exact List.mem_of_getElem? h3
  · intro hy
    obtain ⟨q, hq, hqy⟩ := List.getElem_of_mem hy
    by_cases e : p < q
    · exact ⟨q - p, by omega, by omega, by rw [show p + (q - p) = q from by omega, Nat.mod_eq_of_lt hq]; exact List.getElem?_eq_some_iff.2 ⟨hq, hqy⟩⟩
    · exact ⟨l.length + q - p, by omega, by omega, by rw [show p + (l.length + q - p) = l.length + q from by omega, Nat.add_mod_left, Nat.mod_eq_of_lt hq]; exact List.getElem?_eq_some_iff.2 ⟨hq, hqy⟩⟩
end Go.Proofs.YtmaielpfeajelaaDoor.Rk
