/- Words of this work: how many ones a number has, by sums of parts. No program in sight. -/
import Derived.WalkKit
import Derived.Laws.BitsAllLaws
set_option linter.unusedVariables false
set_option linter.unusedSimpArgs false
set_option maxRecDepth 100000
namespace Go.Proofs.Ytmaielpfeajelaa.Hc
/-- the ones among the lowest k bits -/
def ones : Nat → Nat → Nat
  | 0, _ => 0
  | k + 1, x => ones k x + x / 2 ^ k % 2
theorem ones_add (k : Nat) : ∀ (m x : Nat), ones (k + m) x = ones k x + ones m (x / 2 ^ k)
  | 0, x => by simp [ones]
  | m + 1, x => by
    rw [← Nat.add_assoc, ones, ones_add k m x, ones, Nat.div_div_eq_div_mul, ← Nat.pow_add, Nat.add_assoc]
theorem ones_mod (x : Nat) : ones 8 (x % 256) = ones 8 x := by
  simp only [ones]
  omega
theorem ones_le : ∀ (k x : Nat), ones k x ≤ k
  | 0, _ => by simp [ones]
  | k + 1, x => by have := ones_le k x; rw [ones]; omega
def rep (m : Nat) : Nat → Nat
  | 0 => 0
  | n + 1 => m + 256 * rep m n
theorem rep_succ (m n : Nat) : rep m (n + 1) = m + 256 * rep m n := rfl
theorem and_split {b y m r : Nat} (hb : b < 256) (hm : m < 256) : (b + 256 * y) &&& (m + 256 * r) = (b &&& m) + 256 * (y &&& r) := by
  have h1 : ((b + 256 * y) &&& (m + 256 * r)) % 2 ^ 8 = ((b + 256 * y) % 2 ^ 8) &&& ((m + 256 * r) % 2 ^ 8) := Nat.and_mod_two_pow
  have h2 : ((b + 256 * y) &&& (m + 256 * r)) / 2 ^ 8 = ((b + 256 * y) / 2 ^ 8) &&& ((m + 256 * r) / 2 ^ 8) := Nat.and_div_two_pow
  rw [show (b + 256 * y) % 2 ^ 8 = b from by omega, show (m + 256 * r) % 2 ^ 8 = m from by omega] at h1
  rw [show (b + 256 * y) / 2 ^ 8 = y from by omega, show (m + 256 * r) / 2 ^ 8 = r from by omega] at h2
  omega
def sA (n x : Nat) : Nat := ((x / 2) &&& rep 85 n) + (x &&& rep 85 n)
def sC (n x : Nat) : Nat := ((x / 4) &&& rep 51 n) + (x &&& rep 51 n)
def sD (n x : Nat) : Nat := (x / 16 + x) &&& rep 15 n
def a8 (b : Nat) : Nat := ((b / 2) &&& 85) + (b &&& 85)
def c8 (b : Nat) : Nat := ((b / 4) &&& 51) + (b &&& 51)
def d8 (b : Nat) : Nat := (b / 16 + b) % 16
theorem fact1 : ∀ b : Fin 256, ∀ p : Fin 2, (b.1 / 2 + 128 * p.1) &&& 85 = (b.1 / 2) &&& 85 := by decide +kernel
theorem fact2 : ∀ b : Fin 256, ∀ p : Fin 4, (b.1 / 4 + 64 * p.1) &&& 51 = (b.1 / 4) &&& 51 := by decide +kernel
theorem fact3 : ∀ b : Fin 256, a8 b.1 < 256 ∧ c8 (a8 b.1) % 16 ≤ 4 ∧ c8 (a8 b.1) / 16 ≤ 4 ∧ d8 (c8 (a8 b.1)) = ones 8 b.1 := by decide +kernel
theorem sA_step {b y n : Nat} (hb : b < 256) : sA (n + 1) (b + 256 * y) = a8 b + 256 * sA n y := by
  unfold sA a8
  rw [rep_succ, show (b + 256 * y) / 2 = (b / 2 + 128 * (y % 2)) + 256 * (y / 2) from by omega, and_split (by omega) (by omega), and_split hb (by omega), fact1 ⟨b, hb⟩ ⟨y % 2, by omega⟩]
  simp only
  omega
theorem sC_step {b y n : Nat} (hb : b < 256) : sC (n + 1) (b + 256 * y) = c8 b + 256 * sC n y := by
  unfold sC c8
  rw [rep_succ, show (b + 256 * y) / 4 = (b / 4 + 64 * (y % 4)) + 256 * (y / 4) from by omega, and_split (by omega) (by omega), and_split hb (by omega), fact2 ⟨b, hb⟩ ⟨y % 4, by omega⟩]
  simp only
  omega
theorem sD_step {b y n : Nat} (h1 : b % 16 ≤ 4) (h2 : b / 16 ≤ 4) (h3 : y % 16 ≤ 4) : sD (n + 1) (b + 256 * y) = d8 b + 256 * sD n y := by
  unfold sD d8
  rw [rep_succ, show (b + 256 * y) / 16 + (b + 256 * y) = (b / 16 + 16 * (y % 16) + b) + 256 * (y / 16 + y) from by omega, and_split (by omega) (by omega)]
  have : (b / 16 + 16 * (y % 16) + b) &&& 15 = (b / 16 + 16 * (y % 16) + b) % 16 := Nat.and_two_pow_sub_one_eq_mod _ 4
  rw [this]
  omega
/-- the bytes of a number, the least first -/
def low8 : Nat → Nat → List Nat
  | 0, _ => []
  | n + 1, x => x % 256 :: low8 n (x / 256)
def up8 : List Nat → Nat
  | [] => 0
  | b :: l => b + 256 * up8 l
theorem up_low : ∀ (n x : Nat), x < 256 ^ n → up8 (low8 n x) = x
  | 0, x, h => by simp at h; subst h; rfl
  | n + 1, x, h => by
    rw [low8, up8, up_low n (x / 256) (by rw [Nat.pow_succ] at h; omega)]
    omega
theorem low_lt : ∀ (n x : Nat), ∀ b ∈ low8 n x, b < 256
  | 0, _, b, h => by cases h
  | n + 1, x, b, h => by
    rcases List.mem_cons.1 h with rfl | h
    · omega
    · exact low_lt n _ b h
theorem low_len : ∀ (n x : Nat), (low8 n x).length = n
  | 0, _ => rfl
  | n + 1, x => by rw [low8, List.length_cons, low_len n]
theorem sA_all : ∀ l : List Nat, (∀ b ∈ l, b < 256) → sA l.length (up8 l) = up8 (l.map a8)
  | [], _ => rfl
  | b :: l, h => by rw [List.length_cons, up8, sA_step (h b (by simp)), sA_all l (fun x hx => h x (by simp [hx]))]; rfl
theorem sC_all : ∀ l : List Nat, (∀ b ∈ l, b < 256) → sC l.length (up8 l) = up8 (l.map c8)
  | [], _ => rfl
  | b :: l, h => by rw [List.length_cons, up8, sC_step (h b (by simp)), sC_all l (fun x hx => h x (by simp [hx]))]; rfl
theorem up_mod : ∀ l : List Nat, (∀ b ∈ l, b % 16 ≤ 4 ∧ b / 16 ≤ 4) → up8 l % 16 ≤ 4
  | [], _ => by simp [up8]
  | b :: l, h => by have := h b (by simp); rw [up8]; omega
theorem sD_all : ∀ l : List Nat, (∀ b ∈ l, b % 16 ≤ 4 ∧ b / 16 ≤ 4) → sD l.length (up8 l) = up8 (l.map d8)
  | [], _ => by simp [sD, up8, rep]
  | b :: l, h => by
    have hb := h b (by simp)
    rw [List.length_cons, up8, sD_step hb.1 hb.2 (up_mod l (fun x hx => h x (by simp [hx]))), sD_all l (fun x hx => h x (by simp [hx]))]; rfl
theorem swar (x : Nat) (hx : x < 18446744073709551616) : sD 8 (sC 8 (sA 8 x)) = up8 ((low8 8 x).map (ones 8)) := by
  have hl := low_len 8 x
  have h0 : sA 8 x = up8 ((low8 8 x).map a8) := by
    have := sA_all (low8 8 x) (low_lt 8 x)
    rw [low_len, up_low 8 x (by simpa using hx)] at this
    exact this
  have h1 : sC 8 (sA 8 x) = up8 (((low8 8 x).map a8).map c8) := by
    have := sC_all ((low8 8 x).map a8) (fun b hb => by
      obtain ⟨c, hc, rfl⟩ := List.mem_map.1 hb
      exact (fact3 ⟨c, low_lt 8 x c hc⟩).1)
    rw [List.length_map, low_len] at this
    rw [h0, this]
  have h2 : sD 8 (sC 8 (sA 8 x)) = up8 ((((low8 8 x).map a8).map c8).map d8) := by
    have := sD_all (((low8 8 x).map a8).map c8) (fun b hb => by
      obtain ⟨c, hc, rfl⟩ := List.mem_map.1 hb
      obtain ⟨d, hd, rfl⟩ := List.mem_map.1 hc
      exact ⟨(fact3 ⟨d, low_lt 8 x d hd⟩).2.1, (fact3 ⟨d, low_lt 8 x d hd⟩).2.2.1⟩)
    rw [List.length_map, List.length_map, low_len] at this
    rw [h1, this]
  rw [h2, List.map_map, List.map_map]
  congr 1
  refine List.map_congr_left (fun b hb => ?_)
  exact (fact3 ⟨b, low_lt 8 x b hb⟩).2.2.2
theorem ones64 (x : Nat) : ones (8 + (8 + (8 + (8 + (8 + (8 + (8 + 8))))))) x = ones 8 (x % 256) + (ones 8 (x / 256 % 256) + (ones 8 (x / 256 / 256 % 256) + (ones 8 (x / 256 / 256 / 256 % 256) + (ones 8 (x / 256 / 256 / 256 / 256 % 256) + (ones 8 (x / 256 / 256 / 256 / 256 / 256 % 256) + (ones 8 (x / 256 / 256 / 256 / 256 / 256 / 256 % 256) + ones 8 (x / 256 / 256 / 256 / 256 / 256 / 256 / 256 % 256))))))) := by
  rw [ones_add 8, ones_add 8, ones_add 8, ones_add 8, ones_add 8, ones_add 8, ones_add 8]
  simp only [show (2 : Nat) ^ 8 = 256 from rfl]
  simp only [ones_mod]
theorem cut {a b c m : Nat} (hm : 0 < m) (h : a = b + m * c) (hb : b < m) : a / m = c := by rw [h, Nat.add_mul_div_left _ _ hm, Nat.div_eq_of_lt hb, Nat.zero_add]
theorem sums {d0 d1 d2 d3 d4 d5 d6 d7 v v1 v2 v3 : Nat} (l0 : d0 ≤ 8) (l1 : d1 ≤ 8) (l2 : d2 ≤ 8) (l3 : d3 ≤ 8) (l4 : d4 ≤ 8) (l5 : d5 ≤ 8) (l6 : d6 ≤ 8) (l7 : d7 ≤ 8)
    (hv : d0 + 256 * (d1 + 256 * (d2 + 256 * (d3 + 256 * (d4 + 256 * (d5 + 256 * (d6 + 256 * d7)))))) = v) (h1 : v1 = v + v / 256) (h2 : v2 = v1 + v1 / 65536) (h3 : v3 = v2 + v2 / 4294967296) :
    v3 < 9223372036854775808 ∧ v3 % 128 = d0 + (d1 + (d2 + (d3 + (d4 + (d5 + (d6 + d7)))))) := by
  have e1 : v / 256 = d1 + 256 * (d2 + 256 * (d3 + 256 * (d4 + 256 * (d5 + 256 * (d6 + 256 * d7))))) := cut (by omega) hv.symm (by omega)
  rw [e1] at h1
  have a1 : v1 = ((d0 + d1) + 256 * (d1 + d2)) + 65536 * ((d2 + d3) + 256 * ((d3 + d4) + 256 * ((d4 + d5) + 256 * ((d5 + d6) + 256 * ((d6 + d7) + 256 * d7))))) := by
    rw [h1, ← hv]; clear h1 h2 h3 hv e1 l0 l1 l2 l3 l4 l5 l6 l7; omega
  have e2 : v1 / 65536 = (d2 + d3) + 256 * ((d3 + d4) + 256 * ((d4 + d5) + 256 * ((d5 + d6) + 256 * ((d6 + d7) + 256 * d7)))) := cut (by omega) a1 (by omega)
  rw [e2] at h2
  have a2 : v2 = ((d0 + d1 + d2 + d3) + 256 * (d1 + d2 + d3 + d4) + 65536 * (d2 + d3 + d4 + d5) + 16777216 * (d3 + d4 + d5 + d6)) + 4294967296 * ((d4 + d5 + d6 + d7) + 256 * ((d5 + d6 + d7) + 256 * ((d6 + d7) + 256 * d7))) := by
    rw [h2, a1]; clear h1 h2 h3 hv e1 e2 a1 l0 l1 l2 l3 l4 l5 l6 l7; omega
  have e3 : v2 / 4294967296 = (d4 + d5 + d6 + d7) + 256 * ((d5 + d6 + d7) + 256 * ((d6 + d7) + 256 * d7)) := cut (by omega) a2 (by omega)
  rw [e3] at h3
  have a3 : v3 = (d0 + (d1 + (d2 + (d3 + (d4 + (d5 + (d6 + d7))))))) + 128 * (2 * (d1 + d2 + d3 + d4 + d5 + d6 + d7) + 512 * (d2 + d3 + d4 + d5 + d6 + d7) + 131072 * (d3 + d4 + d5 + d6 + d7) + 33554432 * (d4 + d5 + d6 + d7) + 8589934592 * (d5 + d6 + d7) + 2199023255552 * (d6 + d7) + 562949953421312 * d7) := by
    rw [h3, a2]; clear h1 h2 h3 hv e1 e2 e3 a1 a2 l0 l1 l2 l3 l4 l5 l6 l7; omega
  clear h1 h2 h3 hv e1 e2 e3 a1 a2
  refine ⟨by rw [a3]; omega, ?_⟩
  rw [a3, Nat.add_mul_mod_self_left, Nat.mod_eq_of_lt]
  omega
/-- the last sums -/
theorem swar_sum {x v v1 v2 v3 : Nat} (hx : x < 18446744073709551616) (hv : sD 8 (sC 8 (sA 8 x)) = v) (h1 : v1 = v + v / 256) (h2 : v2 = v1 + v1 / 65536) (h3 : v3 = v2 + v2 / 4294967296) : v3 < 9223372036854775808 ∧ v3 % 128 = ones (8 + (8 + (8 + (8 + (8 + (8 + (8 + 8))))))) x := by
  rw [swar x hx] at hv
  rw [ones64]
  simp only [low8, List.map_cons, List.map_nil, up8, Nat.mul_zero, Nat.add_zero] at hv
  have hh := ones_le 8
  exact sums (hh _) (hh _) (hh _) (hh _) (hh _) (hh _) (hh _) (hh _) hv h1 h2 h3
end Go.Proofs.Ytmaielpfeajelaa.Hc
