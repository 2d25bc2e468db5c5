/- A set's nodes, as a list, rising; its lowest one. No program in sight. -/
import Derived.Test.YtmaielpfeajelaaDoorHd
import Derived.Lib.TrailingZeros
set_option linter.unusedVariables false
set_option linter.unusedSimpArgs false
namespace Go.Proofs.YtmaielpfeajelaaDoor.Ra
open Go.RowKit Hc Hd
def nod (s : Nat) : List Nat := (List.range 64).filter (fun i => bit s i)
theorem nod_zero : nod 0 = [] := List.filter_eq_nil_iff.2 (fun i _ => by rw [bit_zero]; simp)
theorem mem_nod {s i : Nat} : i ∈ nod s ↔ i < 64 ∧ bit s i = true := by unfold nod; rw [List.mem_filter, List.mem_range]
theorem nod_sorted (s : Nat) : (nod s).Pairwise (· < ·) := List.pairwise_lt_range.filter _
theorem nod_len (s : Nat) : (nod s).length ≤ 64 := Nat.le_trans (List.length_filter_le _ _) (by simp)
theorem sortedN_ext {a b : List Nat} (ha : a.Pairwise (· < ·)) (hb : b.Pairwise (· < ·)) (h : ∀ x, x ∈ a ↔ x ∈ b) : a = b := by
  have na : a.Nodup := ha.imp (fun {x y} h => by omega)
  have nb : b.Nodup := hb.imp (fun {x y} h => by omega)
  have hp := (List.perm_ext_iff_of_nodup na nb).2 h
  exact List.Perm.eq_of_pairwise (le := fun x y => x < y) (fun x y _ _ h1 h2 => by omega) ha hb hp
theorem low_is {s : Nat} (hs : s < 18446744073709551616) (h0 : s ≠ 0) : ∃ k m, Lib.ctz 64 s = k ∧ k < 64 ∧ s = 2 ^ (k + 1) * m + 2 ^ k := by
  obtain ⟨m, h1, h2⟩ := Lib.ctzFrom_spec 64 s (by omega) hs
  refine ⟨Lib.ctzFrom 64 s, m, by unfold Lib.ctz; rw [if_neg h0], h2, ?_⟩
  rw [Nat.pow_succ, Nat.mul_assoc, ← Nat.mul_succ]
  exact h1
theorem bit_low {k m i : Nat} : bit (2 ^ (k + 1) * m + 2 ^ k) i = if i < k + 1 then decide (i = k) else m.testBit (i - (k + 1)) := by
  rw [← bit_test, Nat.testBit_two_pow_mul_add _ (Nat.pow_lt_pow_right (by omega) (by omega)), Nat.testBit_two_pow]
  congr 1
  rw [decide_eq_decide]
  omega
theorem bit_pred {k m i : Nat} : bit (2 ^ (k + 1) * m + 2 ^ k - 1) i = if i < k + 1 then decide (i < k) else m.testBit (i - (k + 1)) := by
  have hk : 0 < 2 ^ k := Nat.two_pow_pos k
  rw [Nat.add_sub_assoc hk, ← bit_test, Nat.testBit_two_pow_mul_add _ (by have := Nat.pow_lt_pow_right (a := 2) (by omega) (show k < k + 1 by omega); omega), Nat.testBit_two_pow_sub_one]
theorem bit_rest {s k m : Nat} (h : s = 2 ^ (k + 1) * m + 2 ^ k) (i : Nat) : bit (s &&& (s - 1)) i = (bit s i && decide (i ≠ k)) := by
  rw [bit_and]
  subst h
  rw [bit_low, bit_pred]
  by_cases hi : i < k + 1
  · rw [if_pos hi, if_pos hi]
    by_cases e : i = k
    · subst e; simp
    · have : i < k := by omega
      simp [e]
  · rw [if_neg hi, if_neg hi]
    have : i ≠ k := by omega
    simp [this]
theorem rest_lt (s : Nat) (hs : s < 18446744073709551616) : s &&& (s - 1) < 18446744073709551616 := Nat.lt_of_le_of_lt Nat.and_le_left hs
/-- the lowest one, and the rest -/
theorem nod_step {s : Nat} (hs : s < 18446744073709551616) (h0 : s ≠ 0) : Lib.ctz 64 s < 64 ∧ nod s = Lib.ctz 64 s :: nod (s &&& (s - 1)) := by
  obtain ⟨k, m, h1, h2, h3⟩ := low_is hs h0
  rw [h1]
  refine ⟨h2, sortedN_ext (nod_sorted s) ?_ (fun x => ?_)⟩
  · rw [List.pairwise_cons]
    refine ⟨fun y hy => ?_, nod_sorted _⟩
    obtain ⟨_, h4⟩ := mem_nod.1 hy
    rw [bit_rest h3] at h4
    simp only [Bool.and_eq_true, decide_eq_true_eq] at h4
    have h5 := h4.1
    rw [h3, bit_low] at h5
    by_cases hy2 : y < k + 1
    · rw [if_pos hy2] at h5
      simp at h5
      exact absurd h5 h4.2
    · omega
  · rw [List.mem_cons, mem_nod, mem_nod, bit_rest h3]
    simp only [Bool.and_eq_true, decide_eq_true_eq]
    constructor
    · rintro ⟨h4, h5⟩
      by_cases e : x = k
      · exact .inl e
      · exact .inr ⟨h4, h5, e⟩
    · rintro (rfl | ⟨h4, h5, _⟩)
      · refine ⟨h2, ?_⟩
        rw [h3, bit_low, if_pos (by omega)]
        simp
      · exact ⟨h4, h5⟩
theorem nod_ones (s : Nat) : (nod s).length = ones 64 s := by
  have h : ∀ n, ((List.range n).filter (fun i => bit s i)).length = ones n s := by
    intro n
    induction n with
    | zero => rfl
    | succ n ih =>
      rw [List.range_succ, List.filter_append, List.length_append, ih, ones_bit]
      congr 1
      cases h : bit s n <;> simp [h]
  exact h 64
/-- who comes next, behind i, in a rising list: the first one above i, else the first one, else i -/
def nextIn (l : List Nat) (i : Nat) : Nat := match l.find? (fun k => decide (i < k)) with
  | some k => k
  | none => match l with
    | k :: _ => min k i
    | [] => i
end Go.Proofs.YtmaielpfeajelaaDoor.Ra
