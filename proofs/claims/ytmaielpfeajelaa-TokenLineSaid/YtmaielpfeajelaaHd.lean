/- Words of this work: numbers as sets of bits. No program in sight. -/
import Derived.Test.YtmaielpfeajelaaHc
set_option linter.unusedVariables false
set_option linter.unusedSimpArgs false
set_option maxRecDepth 100000
namespace Go.Proofs.Ytmaielpfeajelaa.Hd
open Hc
/-- the i-th bit -/
def bit (s i : Nat) : Bool := s / 2 ^ i % 2 == 1
theorem bit_test (s i : Nat) : s.testBit i = bit s i := by
  rw [Nat.testBit_eq_decide_div_mod_eq]
  unfold bit
  rfl
theorem bit_or (s t i : Nat) : bit (s ||| t) i = (bit s i || bit t i) := by rw [← bit_test, ← bit_test, ← bit_test, Nat.testBit_or]
theorem bit_and (s t i : Nat) : bit (s &&& t) i = (bit s i && bit t i) := by rw [← bit_test, ← bit_test, ← bit_test, Nat.testBit_and]
theorem bit_pow (i j : Nat) : bit (2 ^ i) j = decide (i = j) := by rw [← bit_test, Nat.testBit_two_pow]
theorem bit_zero (i : Nat) : bit 0 i = false := by rw [← bit_test]; simp
theorem bit_ext {s t : Nat} (h : ∀ i, bit s i = bit t i) : s = t := Nat.eq_of_testBit_eq (fun i => by rw [bit_test, bit_test]; exact h i)
theorem div_pow_add (s i d : Nat) : s / 2 ^ (i + d) = s / 2 ^ i / 2 ^ d := by rw [Nat.div_div_eq_div_mul, Nat.pow_add]
theorem bit_add {s i : Nat} (h : s / 2 ^ i % 2 = 0) (j : Nat) : bit (s + 2 ^ i) j = (bit s j || decide (i = j)) := by
  have hp : 0 < 2 ^ i := Nat.two_pow_pos i
  rcases Nat.lt_trichotomy j i with hj | hj | hj
  · obtain ⟨d, rfl⟩ : ∃ d, i = j + (d + 1) := ⟨i - j - 1, by omega⟩
    unfold bit
    rw [decide_eq_false (by omega), Bool.or_false, Nat.pow_add, Nat.add_mul_div_left _ _ (Nat.two_pow_pos j), Nat.pow_succ]
    have : (s / 2 ^ j + 2 ^ d * 2) % 2 = s / 2 ^ j % 2 := by omega
    rw [this]
  · subst hj
    unfold bit
    rw [Nat.add_div_right _ hp, h, decide_eq_true rfl, Bool.or_true]
    have : (s / 2 ^ j).succ % 2 = 1 := by omega
    rw [this]; rfl
  · obtain ⟨d, rfl⟩ : ∃ d, j = i + (d + 1) := ⟨j - i - 1, by omega⟩
    unfold bit
    rw [decide_eq_false (by omega), Bool.or_false, div_pow_add s i, div_pow_add _ i, Nat.add_div_right _ hp]
    have : (s / 2 ^ i).succ / 2 = s / 2 ^ i / 2 := by omega
    rw [Nat.pow_succ, Nat.mul_comm, ← Nat.div_div_eq_div_mul, ← Nat.div_div_eq_div_mul, this]
/-- with a bit, by sums -/
theorem or_pow (s i : Nat) : s ||| 2 ^ i = if bit s i then s else s + 2 ^ i := by
  split
  · rename_i h
    refine bit_ext (fun j => ?_)
    rw [bit_or, bit_pow]
    by_cases hj : i = j
    · subst hj; simp [h]
    · simp [hj]
  · rename_i h
    have h0 : s &&& 2 ^ i = 0 := bit_ext (fun j => by
      rw [bit_and, bit_pow, bit_zero]
      by_cases hj : i = j
      · subst hj; simpa using h
      · simp [hj])
    have h1 : s / 2 ^ i % 2 = 0 := by
      have h2 : bit s i = false := by simpa using h
      unfold bit at h2
      have : s / 2 ^ i % 2 ≠ 1 := by simpa using h2
      omega
    refine (bit_ext (fun j => ?_)).symm
    rw [bit_or, bit_pow]
    exact bit_add h1 j
theorem and_pow (s i : Nat) : (s &&& 2 ^ i = 0) ↔ bit s i = false := by
  constructor
  · intro h
    have := bit_and s (2 ^ i) i
    rw [h, bit_zero, bit_pow] at this
    simpa using this.symm
  · intro h
    refine bit_ext (fun j => ?_)
    rw [bit_and, bit_pow, bit_zero]
    by_cases hj : i = j
    · subst hj; simp [h]
    · simp [hj]
theorem ones_bit (k x : Nat) : ones (k + 1) x = ones k x + if bit x k then 1 else 0 := by
  rw [ones]
  unfold bit
  have : x / 2 ^ k % 2 = 0 ∨ x / 2 ^ k % 2 = 1 := by omega
  rcases this with h | h <;> rw [h] <;> rfl
theorem ones_congr {s t : Nat} : ∀ {n : Nat}, (∀ i, i < n → bit s i = bit t i) → ones n s = ones n t
  | 0, _ => rfl
  | n + 1, h => by rw [ones_bit, ones_bit, ones_congr (fun i hi => h i (by omega)), h n (by omega)]
theorem ones_out {s : Nat} : ∀ {m n : Nat}, (∀ i, n ≤ i → i < n + m → bit s i = false) → ones (n + m) s = ones n s
  | 0, n, _ => rfl
  | m + 1, n, h => by rw [← Nat.add_assoc, ones_bit, ones_out (fun i h1 h2 => h i h1 (by omega)), h (n + m) (by omega) (by omega)]; rfl
theorem bit_mask (n i : Nat) : bit (2 ^ n - 1) i = decide (i < n) := by rw [← bit_test, Nat.testBit_two_pow_sub_one]
theorem ones_mask {n : Nat} (hn : n ≤ 64) (s : Nat) : ones 64 (s &&& (2 ^ n - 1)) = ones n s := by
  obtain ⟨m, hm⟩ : ∃ m, 64 = n + m := ⟨64 - n, by omega⟩
  rw [hm, ones_out (fun i h1 h2 => by rw [bit_and, bit_mask, decide_eq_false (by omega), Bool.and_false])]
  exact ones_congr (fun i hi => by rw [bit_and, bit_mask, decide_eq_true hi, Bool.and_true])
theorem mask_div : ∀ n : Fin 65, 18446744073709551615 / 2 ^ (64 - n.1) = 2 ^ n.1 - 1 := by decide +kernel
theorem ones_pos {s : Nat} : ∀ {n i : Nat}, i < n → bit s i = true → 1 ≤ ones n s
  | 0, i, h, _ => by omega
  | n + 1, i, h, hb => by
    rw [ones_bit]
    by_cases hi : i = n
    · subst hi; rw [hb]; simp
    · have := ones_pos (s := s) (n := n) (i := i) (by omega) hb; omega
/-- two majorities meet -/
theorem ones_meet {s t : Nat} : ∀ {n : Nat}, (∀ i, i < n → ¬ (bit s i = true ∧ bit t i = true)) → ones n s + ones n t ≤ n
  | 0, _ => by simp [ones]
  | n + 1, h => by
    have h1 := ones_meet (s := s) (t := t) (n := n) (fun i hi => h i (by omega))
    have h2 := h n (by omega)
    rw [ones_bit, ones_bit]
    cases h3 : bit s n <;> cases h4 : bit t n <;> simp_all <;> omega
theorem ones_mono {s t : Nat} : ∀ {n : Nat}, (∀ i, i < n → bit s i = true → bit t i = true) → ones n s ≤ ones n t
  | 0, _ => by simp [ones]
  | n + 1, h => by
    have h1 := ones_mono (s := s) (t := t) (n := n) (fun i hi => h i (by omega))
    have h2 := h n (by omega)
    rw [ones_bit, ones_bit]
    cases h3 : bit s n <;> cases h4 : bit t n <;> simp_all <;> omega
end Go.Proofs.Ytmaielpfeajelaa.Hd
