/- The walks of ring's sets of nodes, and the document's. -/
import Derived.Test.YtmaielpfeajelaaProg
import Derived.Test.YtmaielpfeajelaaHd
import Derived.Test.YtmaielpfeajelaaHs
import Derived.Test.YtmaielpfeajelaaHr
import Derived.Deep.LoopGhost
import Derived.Lib.MinMax
import Derived.KernelRfl
import Derived.Lib.Hide
import Derived.WalkSpells
import Derived.Laws.BitsAllLaws
import Derived.Laws.Bits128
set_option linter.unusedVariables false
set_option linter.unusedSimpArgs false
set_option maxRecDepth 100000
namespace Go.Proofs.Ytmaielpfeajelaa.Rg
open Go.RowKit Go.MapKept Hm Hs Hr Hc Hd
theorem u64w {x : Nat} (h : x < 18446744073709551616) : IntKind.u64.wrap (x : Int) = x := by rw [IntKind.wrap_u64]; omega
theorem shrN (x y : Nat) (k : Nat) (hk : k ≤ 64) (h : x / 2 ^ k = y) : Op.shift .shr .u64 (x : Int) .u64 (k : Int) = pure (.int .u64 (y : Int)) := by
  rw [shift_shr_any .u64 .u64 x (k : Int) (by omega)]
  have : min ((k : Int).toNat) (IntKind.bits .u64) = k := by show min ((k : Int).toNat) 64 = k; omega
  rw [this, ← h]
  simp
theorem divN (x y k : Nat) (h : x / k = y) : (x : Int) / (k : Int) = (y : Int) := by rw [← h]; simp
theorem ones_is (x : Nat) (hx : x < 18446744073709551616) (w : World) : Calls Try.prog 41 #[.int .u64 x] w fun e w' => e = .returned (.int .i64 (ones 64 x)) ∧ Turns [] w w' := by
  obtain ⟨a1, h1⟩ : ∃ y, x / 2 = y := ⟨_, rfl⟩
  obtain ⟨a2, h2⟩ : ∃ y, a1 &&& rep 85 8 = y := ⟨_, rfl⟩
  obtain ⟨a3, h3⟩ : ∃ y, x &&& rep 85 8 = y := ⟨_, rfl⟩
  obtain ⟨a4, h4⟩ : ∃ y, a2 + a3 = y := ⟨_, rfl⟩
  obtain ⟨c1, h5⟩ : ∃ y, a4 / 4 = y := ⟨_, rfl⟩
  obtain ⟨c2, h6⟩ : ∃ y, c1 &&& rep 51 8 = y := ⟨_, rfl⟩
  obtain ⟨c3, h7⟩ : ∃ y, a4 &&& rep 51 8 = y := ⟨_, rfl⟩
  obtain ⟨c4, h8⟩ : ∃ y, c2 + c3 = y := ⟨_, rfl⟩
  obtain ⟨e1, h9⟩ : ∃ y, c4 / 16 = y := ⟨_, rfl⟩
  obtain ⟨e2, h10⟩ : ∃ y, e1 + c4 = y := ⟨_, rfl⟩
  obtain ⟨e3, h11⟩ : ∃ y, e2 &&& rep 15 8 = y := ⟨_, rfl⟩
  obtain ⟨f1, h12⟩ : ∃ y, e3 / 256 = y := ⟨_, rfl⟩
  obtain ⟨f2, h13⟩ : ∃ y, e3 + f1 = y := ⟨_, rfl⟩
  obtain ⟨f3, h14⟩ : ∃ y, f2 / 65536 = y := ⟨_, rfl⟩
  obtain ⟨f4, h15⟩ : ∃ y, f2 + f3 = y := ⟨_, rfl⟩
  obtain ⟨f5, h16⟩ : ∃ y, f4 / 4294967296 = y := ⟨_, rfl⟩
  obtain ⟨f6, h17⟩ : ∃ y, f4 + f5 = y := ⟨_, rfl⟩
  have r85 : rep 85 8 = 6148914691236517205 := by decide
  have r51 : rep 51 8 = 3689348814741910323 := by decide
  have r15 : rep 15 8 = 1085102592571150095 := by decide
  have le2 : a2 ≤ 6148914691236517205 := by rw [← h2, r85]; exact Nat.and_le_right
  have le3 : a3 ≤ 6148914691236517205 := by rw [← h3, r85]; exact Nat.and_le_right
  have le6 : c2 ≤ 3689348814741910323 := by rw [← h6, r51]; exact Nat.and_le_right
  have le7 : c3 ≤ 3689348814741910323 := by rw [← h7, r51]; exact Nat.and_le_right
  have le11 : e3 ≤ 1085102592571150095 := by rw [← h11, r15]; exact Nat.and_le_right
  have hv : sD 8 (sC 8 (sA 8 x)) = e3 := by unfold sD sC sA; rw [h1, h2, h3, h4, h5, h6, h7, h8, h9, h10, h11]
  obtain ⟨hlt, hmod⟩ := swar_sum (v := e3) (v1 := f2) (v2 := f4) (v3 := f6) hx hv (by rw [h12, h13]) (by rw [h14, h15]) (by rw [h16, h17])
  have hmod2 : ((f6 : Nat) : Int) % 128 = ((ones 64 x : Nat) : Int) := by rw [show ones 64 x = ones (8 + (8 + (8 + (8 + (8 + (8 + (8 + 8))))))) x from rfl, ← hmod]; simp
  rw [r85] at h2 h3
  rw [r51] at h6 h7
  rw [r15] at h11
  have s1 : (x : Int) / 2 = (a1 : Int) := divN x a1 2 h1
  have s2 : (a4 : Int) / 4 = (c1 : Int) := divN a4 c1 4 h5
  have s3 : (c4 : Int) / 16 = (e1 : Int) := divN c4 e1 16 h9
  have s4 : (e3 : Int) / 256 = (f1 : Int) := divN e3 f1 256 h12
  have s5 : (f2 : Int) / 65536 = (f3 : Int) := divN f2 f3 65536 h14
  have s6 : (f4 : Int) / 4294967296 = (f5 : Int) := divN f4 f5 4294967296 h16
  have n1 : bits .and .u64 (a1 : Int) 6148914691236517205 = (a2 : Int) := by rw [← h2]; exact u64_and_nat a1 6148914691236517205 (by omega) (by omega)
  have n2 : bits .and .u64 (x : Int) 6148914691236517205 = (a3 : Int) := by rw [← h3]; exact u64_and_nat x 6148914691236517205 (by omega) (by omega)
  have n3 : bits .and .u64 (c1 : Int) 3689348814741910323 = (c2 : Int) := by rw [← h6]; exact u64_and_nat c1 3689348814741910323 (by omega) (by omega)
  have n4 : bits .and .u64 (a4 : Int) 3689348814741910323 = (c3 : Int) := by rw [← h7]; exact u64_and_nat a4 3689348814741910323 (by omega) (by omega)
  have n5 : bits .and .u64 (e2 : Int) 1085102592571150095 = (e3 : Int) := by rw [← h11]; exact u64_and_nat e2 1085102592571150095 (by omega) (by omega)
  have p1 : IntKind.u64.wrap ((a2 : Int) + (a3 : Int)) = (a4 : Int) := by rw [← h4]; exact u64w (x := a2 + a3) (by omega)
  have p2 : IntKind.u64.wrap ((c2 : Int) + (c3 : Int)) = (c4 : Int) := by rw [← h8]; exact u64w (x := c2 + c3) (by omega)
  have p3 : IntKind.u64.wrap ((e1 : Int) + (c4 : Int)) = (e2 : Int) := by rw [← h10]; exact u64w (x := e1 + c4) (by omega)
  have p4 : IntKind.u64.wrap ((e3 : Int) + (f1 : Int)) = (f2 : Int) := by rw [← h13]; exact u64w (x := e3 + f1) (by omega)
  have p5 : IntKind.u64.wrap ((f2 : Int) + (f3 : Int)) = (f4 : Int) := by rw [← h15]; exact u64w (x := f2 + f3) (by omega)
  have p6 : IntKind.u64.wrap ((f4 : Int) + (f5 : Int)) = (f6 : Int) := by rw [← h17]; exact u64w (x := f4 + f5) (by omega)
  have q1 : IntKind.i64.wrap (f6 : Int) = (f6 : Int) := IntWalk.i64_in _ (by omega)
  have q2 : bits .and .i64 (f6 : Int) 127 = ((ones 64 x : Nat) : Int) := by rw [i64_and127, hmod2]
  clear h1 h2 h3 h4 h5 h6 h7 h8 h9 h10 h11 h12 h13 h14 h15 h16 h17 r85 r51 r15 le2 le3 le6 le7 le11 hv hlt hmod hmod2 hx
  generalize ones 64 x = o at *
  go_enter Try.func41, Try.ntmps41
  go_wp2_with fail
  go_ret
  exact ⟨rfl, Turns.refl _ _⟩
/-- a ring may have n nodes -/
def okN (n : Int) : Prop := 1 ≤ n ∧ n ≤ 64
theorem right_yes (n : Int) (h : okN n) (w : World) : Calls Try.prog 39 #[.int .i64 n] w fun e w' => e = .returned (.bool true) ∧ Turns [] w w' := by
  have g1 : decide (n ≥ 1) = true := decide_eq_true h.1
  have g2 : decide (n ≤ 64) = true := decide_eq_true h.2
  go_enter Try.func39, Try.ntmps39
  go_wp2_with fail
  go_ret
  exact ⟨rfl, Turns.refl _ _⟩
theorem right_no (n : Int) (h : ¬ okN n) (w : World) : Calls Try.prog 39 #[.int .i64 n] w fun e w' => e = .returned (.bool false) ∧ Turns [] w w' := by
  by_cases h1 : n ≥ 1
  · have g1 : decide (n ≥ 1) = true := decide_eq_true h1
    have g2 : decide (n ≤ 64) = false := decide_eq_false (fun h2 => h ⟨h1, h2⟩)
    go_enter Try.func39, Try.ntmps39
    go_wp2_with fail
    go_ret
    exact ⟨rfl, Turns.refl _ _⟩
  · have g1 : decide (n ≥ 1) = false := decide_eq_false h1
    go_enter Try.func39, Try.ntmps39
    go_wp2_with fail
    go_ret
    exact ⟨rfl, Turns.refl _ _⟩
theorem shlOne {i : Nat} (h : i < 64) : IntKind.u64.wrap (2 ^ i) = ((2 ^ i : Nat) : Int) := by
  have : 2 ^ i < 2 ^ 64 := Nat.pow_lt_pow_right (by omega) h
  have e := u64w (x := 2 ^ i) (by omega)
  rw [← e]; simp
theorem all_yes (N : Nat) (h : 1 ≤ N ∧ N ≤ 64) (w : World) : Calls Try.prog 20 #[.int .i64 N] w fun e w' => e = .returned (.int .u64 ((2 ^ N - 1 : Nat) : Int)) ∧ Turns [] w w' := by
  obtain ⟨M, hM⟩ : ∃ M, 64 - N = M := ⟨_, rfl⟩
  have g1 : IntKind.i64.wrap (64 - (N : Int)) = (M : Int) := by rw [IntWalk.i64_in _ (by omega)]; omega
  have hd := mask_div ⟨N, by omega⟩
  simp only at hd
  rw [hM] at hd
  have g2 : Op.shift .shr .u64 18446744073709551615 .i64 (M : Int) = pure (.int .u64 ((2 ^ N - 1 : Nat) : Int)) := by
    rw [shift_shr_any .u64 .i64 18446744073709551615 (M : Int) (by omega)]
    have : min ((M : Int).toNat) (IntKind.bits .u64) = M := by show min ((M : Int).toNat) 64 = M; omega
    rw [this, ← hd]
    simp
  obtain ⟨R, hR⟩ : ∃ R, 2 ^ N - 1 = R := ⟨_, rfl⟩
  rw [hR] at g2 ⊢
  clear hd hM hR
  go_enter Try.func20, Try.ntmps20
  go_wp2_with fail
  go_at_call 39
  refine Calls.mono (right_yes _ ⟨by omega, by omega⟩ _) ?_
  rintro e w1 ⟨rfl, t1⟩
  go_wp2_with fail
  go_ret
  exact ⟨rfl, t1⟩
theorem all_no (n : Int) (h : ¬ okN n) (w : World) : Calls Try.prog 20 #[.int .i64 n] w fun e w' => e = .returned (.int .u64 0) ∧ Turns [] w w' := by
  go_enter Try.func20, Try.ntmps20
  go_wp2_with fail
  go_at_call 39
  refine Calls.mono (right_no _ h _) ?_
  rintro e w1 ⟨rfl, t1⟩
  go_wp2_with fail
  go_ret
  exact ⟨rfl, t1⟩
theorem one_yes (i : Nat) (h : i < 64) (w : World) : Calls Try.prog 40 #[.int .i64 i] w fun e w' => e = .returned (.int .u64 ((2 ^ i : Nat) : Int)) ∧ Turns [] w w' := by
  have g1 : decide ((i : Int) < 0) = false := decide_eq_false (by omega)
  have g2 : decide ((i : Int) ≥ 64) = false := decide_eq_false (by omega)
  have g3 : IntKind.u64.wrap (2 ^ i) = ((2 ^ i : Nat) : Int) := shlOne h
  obtain ⟨R, hR⟩ : ∃ R, 2 ^ i = R := ⟨_, rfl⟩
  rw [hR] at g3 ⊢
  clear hR
  go_enter Try.func40, Try.ntmps40
  go_wp2_with fail
  go_ret
  exact ⟨rfl, Turns.refl _ _⟩
theorem one_no (i : Int) (h : ¬ (0 ≤ i ∧ i < 64)) (w : World) : Calls Try.prog 40 #[.int .i64 i] w fun e w' => e = .returned (.int .u64 0) ∧ Turns [] w w' := by
  by_cases h1 : i < 0
  · have g1 := decide_eq_true h1
    go_enter Try.func40, Try.ntmps40
    go_wp2_with fail
    go_ret
    exact ⟨rfl, Turns.refl _ _⟩
  · have g1 := decide_eq_false h1
    have g2 : decide (i ≥ 64) = true := decide_eq_true (by omega)
    go_enter Try.func40, Try.ntmps40
    go_wp2_with fail
    go_ret
    exact ⟨rfl, Turns.refl _ _⟩
theorem has_yes (s i : Nat) (hs : s < 18446744073709551616) (h : i < 64) (w : World) : Calls Try.prog 21 #[.int .u64 s, .int .i64 i] w fun e w' => e = .returned (.bool (bit s i)) ∧ Turns [] w w' := by
  have hp : 2 ^ i < 2 ^ 64 := Nat.pow_lt_pow_right (by omega) h
  have g1 : bits .and .u64 (s : Int) ((2 ^ i : Nat) : Int) = ((s &&& 2 ^ i : Nat) : Int) := u64_and_nat s (2 ^ i) hs (by omega)
  have h1 := and_pow s i
  obtain ⟨z, hz⟩ : ∃ z, s &&& 2 ^ i = z := ⟨_, rfl⟩
  rw [hz] at g1 h1
  obtain ⟨R, hR⟩ : ∃ R, 2 ^ i = R := ⟨_, rfl⟩
  have ho := one_yes i h w
  rw [hR] at g1 ho
  have hoh : Hid _ := ho
  cases hb : bit s i with
  | true =>
    have g2 : ((z : Int) == 0) = false := by
      have : z ≠ 0 := fun h0 => by rw [h1.1 h0] at hb; cases hb
      simp; omega
    have g3 : ((z : Int) != 0) = true := by simp at g2 ⊢; omega
    have g4 : decide ((z : Int) = 0) = false := by simp at g2 ⊢; omega
    clear hz h1 hb hR ho hp
    go_enter Try.func21, Try.ntmps21
    go_wp2_with fail
    go_at_call 40
    refine Calls.mono (hoh.out) ?_
    rintro e w1 ⟨rfl, t1⟩
    go_wp2_with fail
    go_ret
    exact ⟨by simp [g1, g2, g3, g4], t1⟩
  | false =>
    obtain rfl : z = 0 := h1.2 hb
    clear hz h1 hb hR ho hp
    go_enter Try.func21, Try.ntmps21
    go_wp2_with fail
    go_at_call 40
    refine Calls.mono (hoh.out) ?_
    rintro e w1 ⟨rfl, t1⟩
    go_wp2_with fail
    go_ret
    exact ⟨by simp [g1], t1⟩
theorem has_no (s : Nat) (i : Int) (hs : s < 18446744073709551616) (h : ¬ (0 ≤ i ∧ i < 64)) (w : World) : Calls Try.prog 21 #[.int .u64 s, .int .i64 i] w fun e w' => e = .returned (.bool false) ∧ Turns [] w w' := by
  have g1 : bits .and .u64 (s : Int) 0 = 0 := by have := u64_and_nat s 0 hs (by omega); simpa using this
  have ho := one_no i h w
  have hoh : Hid _ := ho
  clear ho
  go_enter Try.func21, Try.ntmps21
  go_wp2_with fail
  go_at_call 40
  refine Calls.mono (hoh.out) ?_
  rintro e w1 ⟨rfl, t1⟩
  go_wp2_with fail
  go_ret
  exact ⟨by simp [g1], t1⟩
theorem count_is (x : Nat) (hx : x < 18446744073709551616) (w : World) : Calls Try.prog 24 #[.int .u64 x] w fun e w' => e = .returned (.int .i64 (ones 64 x)) ∧ Turns [] w w' := by
  have ho := ones_is x hx w
  obtain ⟨o, hO⟩ : ∃ o, ones 64 x = o := ⟨_, rfl⟩
  rw [hO] at ho ⊢
  have hoh : Hid _ := ho
  clear ho hO
  go_enter Try.func24, Try.ntmps24
  go_wp2_with fail
  go_at_call 41
  refine Calls.mono (hoh.out) ?_
  rintro e w1 ⟨rfl, t1⟩
  go_wp2_with fail
  go_ret
  exact ⟨rfl, t1⟩
theorem majority_is (N : Nat) (h : 1 ≤ N ∧ N ≤ 1000) (w : World) : Calls Try.prog 23 #[.int .i64 N] w fun e w' => e = .returned (.int .i64 ((N / 2 + 1 : Nat) : Int)) ∧ Turns [] w w' := by
  have g1 : decide ((N : Int) < 1) = false := decide_eq_false (by omega)
  obtain ⟨m, hm⟩ : ∃ m, N / 2 = m := ⟨_, rfl⟩
  have g2 : (N : Int) / 2 = (m : Int) := by omega
  have g3 : Int.tdiv (N : Int) 2 = (m : Int) := by rw [Int.tdiv_eq_ediv_of_nonneg (by omega)]; exact g2
  have g4 : IntKind.i64.wrap ((m : Int) + 1) = (m : Int) + 1 := IntWalk.i64_in _ (by omega)
  have g5 : IntKind.i64.wrap (m : Int) = (m : Int) := IntWalk.i64_in _ (by omega)
  rw [hm]
  clear hm
  go_enter Try.func23, Try.ntmps23
  go_wp2_with fail
  go_ret
  exact ⟨by simp [g2, g3, g4, g5], Turns.refl _ _⟩
/- the document's -/
end Go.Proofs.Ytmaielpfeajelaa.Rg
