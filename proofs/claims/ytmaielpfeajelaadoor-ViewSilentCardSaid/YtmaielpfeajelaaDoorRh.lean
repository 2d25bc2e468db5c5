/- Rings' sets, for any node and any number of nodes: Has, With, Without, All, Majority, Next, Nodes, and the document's. -/
import Derived.Test.YtmaielpfeajelaaDoorRd
import Derived.Test.YtmaielpfeajelaaDoorRs
set_option linter.unusedVariables false
set_option linter.unusedSimpArgs false
set_option maxRecDepth 100000
namespace Go.Proofs.YtmaielpfeajelaaDoor.Rh
open Go.RowKit Go.Shelf Hm Hs Hc Hd Hx Hy Ra Rg Rb Rc Rd
abbrev U64 (s : Nat) : Prop := s < 18446744073709551616
def hasB (s : Nat) (i : Int) : Bool := decide (0 ≤ i ∧ i < 64) && bit s i.toNat
def withN (s : Nat) (i : Int) : Nat := if 0 ≤ i ∧ i < 64 then s ||| 2 ^ i.toNat else s
def withoutN (s : Nat) (i : Int) : Nat := if hasB s i then s - 2 ^ i.toNat else s
instance (n : Int) : Decidable (okN n) := inferInstanceAs (Decidable (1 ≤ n ∧ n ≤ 64))
def allN (n : Int) : Nat := if okN n then 2 ^ n.toNat - 1 else 0
def majI (n : Int) : Int := if n < 1 then 0 else n / 2 + 1
def nextI (s : Nat) (n i : Int) : Int := if okN n ∧ 0 ≤ i ∧ i < n then (nextIn (nod (s &&& (2 ^ n.toNat - 1))) i.toNat : Nat) else -1
theorem hasB_nat (s i : Nat) (h : i < 64) : hasB s i = bit s i := by unfold hasB; rw [decide_eq_true ⟨by omega, by omega⟩]; simp
theorem hasB_no (s : Nat) {i : Int} (h : ¬ (0 ≤ i ∧ i < 64)) : hasB s i = false := by unfold hasB; rw [decide_eq_false h]; rfl
theorem nat_of {i : Int} (h : 0 ≤ i ∧ i < 64) : ∃ k : Nat, i = k ∧ k < 64 := ⟨i.toNat, by omega, by omega⟩
theorem has_any (s : Nat) (i : Int) (hs : U64 s) (w : World) : Calls Tryd.prog 20 #[.int .u64 s, .int .i64 i] w fun e w' => e = .returned (.bool (hasB s i)) ∧ Turns [] w w' := by
  by_cases h : 0 ≤ i ∧ i < 64
  · obtain ⟨k, rfl, hk⟩ := nat_of h
    rw [hasB_nat s k hk]
    exact has_yes s k hs hk w
  · rw [hasB_no s h]
    exact has_no s i hs h w
theorem with_no (s : Nat) (i : Int) (hs : U64 s) (h : ¬ (0 ≤ i ∧ i < 64)) (w : World) : Calls Tryd.prog 24 #[.int .u64 s, .int .i64 i] w fun e w' => e = .returned (.int .u64 s) ∧ Turns [] w w' := by
  have g1 : bits .or .u64 (s : Int) 0 = (s : Int) := by have := u64_or_nat s 0 hs (by omega); simpa using this
  have ho := Lib.hid (one_no i h w)
  go_enter Tryd.func24, Tryd.ntmps24
  go_wp2_with fail
  go_at_call 43
  refine Calls.mono (ho.out) ?_
  rintro e w1 ⟨rfl, t1⟩
  go_wp2_with fail
  go_ret
  exact ⟨by simp [g1], t1⟩
theorem withN_nat (s i : Nat) (h : i < 64) : withN s i = s ||| 2 ^ i := by unfold withN; rw [if_pos ⟨by omega, by omega⟩]; simp
theorem withN_lt {s : Nat} (hs : U64 s) (i : Int) : U64 (withN s i) := by
  unfold withN
  split
  · rename_i h
    exact Nat.or_lt_two_pow (n := 64) hs (Nat.pow_lt_pow_right (by omega) (by omega))
  · exact hs
theorem with_any (s : Nat) (i : Int) (hs : U64 s) (w : World) : Calls Tryd.prog 24 #[.int .u64 s, .int .i64 i] w fun e w' => e = .returned (.int .u64 (withN s i : Nat)) ∧ Turns [] w w' := by
  by_cases h : 0 ≤ i ∧ i < 64
  · obtain ⟨k, rfl, hk⟩ := nat_of h
    rw [withN_nat s k hk]
    exact with_yes s k hs hk w
  · have e : withN s i = s := by unfold withN; rw [if_neg h]
    rw [e]
    exact with_no s i hs h w
theorem andNot_pow {s i : Nat} (hs : U64 s) (h : i < 64) : s &&& (18446744073709551615 - 2 ^ i) = if bit s i then s - 2 ^ i else s := by
  refine Nat.eq_of_testBit_eq (fun j => ?_)
  have hp : 2 ^ i < 2 ^ 64 := Nat.pow_lt_pow_right (by omega) h
  have e1 : (18446744073709551615 - 2 ^ i).testBit j = (decide (j < 64) && decide (i ≠ j)) := by
    have := Nat.testBit_two_pow_sub_succ (n := 64) (x := 2 ^ i) (by omega) j
    rw [show 2 ^ 64 - (2 ^ i + 1) = 18446744073709551615 - 2 ^ i from by omega] at this
    rw [this, Nat.testBit_two_pow]
    simp
  rw [Nat.testBit_and, e1]
  by_cases hj : j < 64
  · rw [decide_eq_true hj, Bool.true_and]
    split
    · rename_i hb
      have hle : 2 ^ i ≤ s := by
        by_cases hle : 2 ^ i ≤ s
        · exact hle
        · exfalso
          have : s / 2 ^ i = 0 := Nat.div_eq_of_lt (by omega)
          unfold bit at hb
          rw [this] at hb
          cases hb
      have hz : (s - 2 ^ i) / 2 ^ i % 2 = 0 := by
        unfold bit at hb
        have h2 : s / 2 ^ i % 2 = 1 := by simpa using hb
        obtain ⟨t, ht⟩ : ∃ t, s = t + 2 ^ i := ⟨s - 2 ^ i, by omega⟩
        have h3 := Nat.add_div_right t (Nat.two_pow_pos i)
        rw [← ht] at h3
        rw [show s - 2 ^ i = t from by omega]
        omega
      have h4 := bit_add hz j
      rw [Nat.sub_add_cancel hle] at h4
      rw [bit_test, bit_test]
      by_cases e : i = j
      · subst e
        have : bit (s - 2 ^ i) i = false := by unfold bit; rw [hz]; rfl
        rw [this]; simp
      · rw [h4]; simp [e]
    · rename_i hb
      by_cases e : i = j
      · subst e
        rw [bit_test]
        simp at hb
        rw [hb]; simp
      · simp [e]
  · have h64 : 2 ^ 64 ≤ 2 ^ j := Nat.pow_le_pow_right (by omega) (by omega)
    have hs' : s < 18446744073709551616 := hs
    have h1 : s.testBit j = false := Nat.testBit_lt_two_pow (by omega)
    have h2 : s - 2 ^ i < 2 ^ j := Nat.lt_of_le_of_lt (Nat.sub_le _ _) (show s < 2 ^ j by omega)
    rw [h1, Bool.false_and]
    split
    · rw [Nat.testBit_lt_two_pow h2]
    · rw [h1]
theorem without_any (s : Nat) (i : Int) (hs : U64 s) (w : World) : Calls Tryd.prog 26 #[.int .u64 s, .int .i64 i] w fun e w' => e = .returned (.int .u64 (withoutN s i : Nat)) ∧ Turns [] w w' := by
  by_cases h : 0 ≤ i ∧ i < 64
  · obtain ⟨k, rfl, hk⟩ := nat_of h
    have hp : 2 ^ k < 2 ^ 64 := Nat.pow_lt_pow_right (by omega) hk
    have e : withoutN s k = s &&& (18446744073709551615 - 2 ^ k) := by rw [andNot_pow hs hk]; unfold withoutN; rw [hasB_nat s k hk]; simp
    have g1 : bits .andNot .u64 (s : Int) ((2 ^ k : Nat) : Int) = ((s &&& (18446744073709551615 - 2 ^ k) : Nat) : Int) := u64_andNot_nat s (2 ^ k) hs (by omega)
    rw [e]
    obtain ⟨z, hz⟩ : ∃ z, s &&& (18446744073709551615 - 2 ^ k) = z := ⟨_, rfl⟩
    rw [hz] at g1 ⊢
    have ho := one_yes k hk w
    obtain ⟨R, hR⟩ : ∃ R, 2 ^ k = R := ⟨_, rfl⟩
    rw [hR] at g1 ho
    have hoh : Hid _ := ho
    clear hz hR ho hp e h
    go_enter Tryd.func26, Tryd.ntmps26
    go_wp2_with fail
    go_at_call 43
    refine Calls.mono (hoh.out) ?_
    rintro e w1 ⟨rfl, t1⟩
    go_wp2_with fail
    go_ret
    exact ⟨by simp [g1], t1⟩
  · have e : withoutN s i = s := by unfold withoutN; rw [hasB_no s h]; simp
    rw [e]
    have g1 : bits .andNot .u64 (s : Int) 0 = (s : Int) := by
      have := u64_andNot_nat s 0 hs (by omega)
      rw [show s &&& (18446744073709551615 - 0) = s from by
        have : s % 2 ^ 64 = s := Nat.mod_eq_of_lt hs
        rw [show 18446744073709551615 - 0 = 2 ^ 64 - 1 from rfl, Nat.and_two_pow_sub_one_eq_mod, this]] at this
      simpa using this
    have hoh := Lib.hid (one_no i h w)
    go_enter Tryd.func26, Tryd.ntmps26
    go_wp2_with fail
    go_at_call 43
    refine Calls.mono (hoh.out) ?_
    rintro e w1 ⟨rfl, t1⟩
    go_wp2_with fail
    go_ret
    exact ⟨by simp [g1], t1⟩
theorem all_any (n : Int) (w : World) : Calls Tryd.prog 30 #[.int .i64 n] w fun e w' => e = .returned (.int .u64 (allN n : Nat)) ∧ Turns [] w w' := by
  by_cases h : okN n
  · obtain ⟨N, rfl⟩ : ∃ N : Nat, n = N := ⟨n.toNat, by have := h.1; omega⟩
    have e : allN N = 2 ^ N - 1 := by unfold allN; rw [if_pos h]; simp
    rw [e]
    exact all_yes N ⟨by have := h.1; omega, by have := h.2; omega⟩ w
  · have e : allN n = 0 := by unfold allN; rw [if_neg h]
    rw [e]
    exact all_no n h w
theorem allN_lt (n : Int) : U64 (allN n) := by
  unfold allN
  split
  · rename_i h
    have : 2 ^ n.toNat ≤ 2 ^ 64 := Nat.pow_le_pow_right (by omega) (by have := h.2; omega)
    omega
  · omega
theorem maj_any (n : Int) (hn : n ≤ 9223372036854775807) (w : World) : Calls Tryd.prog 32 #[.int .i64 n] w fun e w' => e = .returned (.int .i64 (majI n)) ∧ Turns [] w w' := by
  unfold majI
  by_cases h : n < 1
  · have g1 := decide_eq_true h
    rw [if_pos h]
    clear h
    go_enter Tryd.func32, Tryd.ntmps32
    go_wp2_with fail
    go_ret
    exact ⟨rfl, Turns.refl _ _⟩
  · have g1 : decide (n < 1) = false := decide_eq_false h
    rw [if_neg h]
    obtain ⟨m, hm⟩ : ∃ m, n / 2 = m := ⟨_, rfl⟩
    have g3 : Int.tdiv n 2 = m := by rw [Int.tdiv_eq_ediv_of_nonneg (by omega)]; exact hm
    have g4 : IntKind.i64.wrap (m + 1) = m + 1 := IntWalk.i64_in _ (by omega)
    have g5 : IntKind.i64.wrap m = m := IntWalk.i64_in _ (by omega)
    have g6 := hm
    rw [hm]
    clear hm
    go_enter Tryd.func32, Tryd.ntmps32
    go_wp2_with fail
    go_ret
    exact ⟨by simp [g3, g4, g5, g6], Turns.refl _ _⟩
theorem next_no (s N i : Int) (h : ¬ (okN N ∧ 0 ≤ i ∧ i < N)) (w : World) : Calls Tryd.prog 28 #[.int .u64 s, .int .i64 N, .int .i64 i] w fun e w' => e = .returned (.int .i64 (-1)) ∧ Turns [] w w' := by
  have T0 := ((Turns.refl [] w).alloc (.cells #[.int .i64 i] 3)).alloc (.cells #[.int .i64 0] 3)
  have bI := (Blk.new w #[.int .i64 i] 3).alloc (.cells #[.int .i64 0] 3)
  have bR := Blk.new (w.alloc (.cells #[.int .i64 i] 3)) #[.int .i64 0] 3
  rw [World.size_alloc] at bR
  by_cases hN : okN N
  · have Rh := Lib.hid (fun w => right_yes N hN w)
    by_cases h1 : i < 0
    · have g1 := decide_eq_true h1
      clear h h1 hN
      go_enter Tryd.func28, Tryd.ntmps28
      go_wp2_with fail
      go_at_call 45
      refine Calls.mono (Rh.out _) ?_
      rintro e w1 ⟨rfl, t1⟩
      have c0 : w1.cell? ⟨w.heap.size, 0, none⟩ = some (.int .i64 i) := (bI.turns t1 (by simp)).cell 0
      have bR1 := bR.turns t1 (by simp)
      have c1 : w1.cell? ⟨w.heap.size + 1, 0, none⟩ = some (.int .i64 0) := bR1.cell 0
      have f1 := bR1.frozen 0
      have c2 : (w1.setCell ⟨w.heap.size + 1, 0, none⟩ (.int .i64 (-1))).cell? ⟨w.heap.size + 1, 0, none⟩ = some (.int .i64 (-1)) := (bR1.set 0 (.int .i64 (-1))).cell 0
      go_wp2_with fail
      refine bodyPost_ret (v := .int .i64 (-1)) (by simp [results, Tryd.f28, go_sem, c2]) rfl ?_
      exact ⟨rfl, (T0.trans t1).setCell (by simp) _⟩
    · have g1 : decide (i < 0) = false := decide_eq_false h1
      have g2 : decide (i ≥ N) = true := decide_eq_true (by
        by_cases hh : i ≥ N
        · exact hh
        · exact absurd ⟨hN, by omega, by omega⟩ h)
      clear h h1 hN
      go_enter Tryd.func28, Tryd.ntmps28
      go_wp2_with (go_at_call 45; refine Calls.mono (Rh.out _) ?_; rintro e w1 ⟨rfl, t1⟩; have c0 : w1.cell? ⟨w.heap.size, 0, none⟩ = some (.int .i64 i) := (bI.turns t1 (by simp)).cell 0; have bR1 := bR.turns t1 (by simp); have c1 : w1.cell? ⟨w.heap.size + 1, 0, none⟩ = some (.int .i64 0) := bR1.cell 0; have f1 := bR1.frozen 0; have c2 : (w1.setCell ⟨w.heap.size + 1, 0, none⟩ (.int .i64 (-1))).cell? ⟨w.heap.size + 1, 0, none⟩ = some (.int .i64 (-1)) := (bR1.set 0 (.int .i64 (-1))).cell 0)
      refine bodyPost_ret (v := .int .i64 (-1)) (by simp [results, Tryd.f28, go_sem, c2]) rfl ?_
      exact ⟨rfl, (T0.trans t1).setCell (by simp) _⟩
  · have Rh := Lib.hid (fun w => right_no N hN w)
    clear h hN
    go_enter Tryd.func28, Tryd.ntmps28
    go_wp2_with (go_at_call 45; refine Calls.mono (Rh.out _) ?_; rintro e w1 ⟨rfl, t1⟩; have bR1 := bR.turns t1 (by simp); have c1 : w1.cell? ⟨w.heap.size + 1, 0, none⟩ = some (.int .i64 0) := bR1.cell 0; have f1 := bR1.frozen 0; have c2 : (w1.setCell ⟨w.heap.size + 1, 0, none⟩ (.int .i64 (-1))).cell? ⟨w.heap.size + 1, 0, none⟩ = some (.int .i64 (-1)) := (bR1.set 0 (.int .i64 (-1))).cell 0)
    refine bodyPost_ret (v := .int .i64 (-1)) (by simp [results, Tryd.f28, go_sem, c2]) rfl ?_
    exact ⟨rfl, (T0.trans t1).setCell (by simp) _⟩
theorem next_any (s : Nat) (n i : Int) (hs : U64 s) (w : World) (hT : Tab w) : Calls Tryd.prog 28 #[.int .u64 s, .int .i64 n, .int .i64 i] w fun e w' => e = .returned (.int .i64 (nextI s n i)) ∧ Turns [] w w' := by
  unfold nextI
  by_cases h : okN n ∧ 0 ≤ i ∧ i < n
  · rw [if_pos h]
    obtain ⟨hN, h1, h2⟩ := h
    obtain ⟨N, rfl⟩ : ∃ N : Nat, n = N := ⟨n.toNat, by have := hN.1; omega⟩
    obtain ⟨k, rfl⟩ : ∃ k : Nat, i = k := ⟨i.toNat, by omega⟩
    have := next_is s N k hs ⟨by have := hN.1; omega, by have := hN.2; omega⟩ (by omega) w hT
    simpa using this
  · rw [if_neg h]
    exact next_no s n i h w
/-- the document's -/
theorem rhas_any (s : Nat) (i : Int) (hs : U64 s) (w : World) : Calls Tryd.prog 23 #[.int .u64 s, .int .i64 i] w fun e w' => e = .returned (.bool (hasB s i)) ∧ Turns [] w w' := by
  by_cases h : 0 ≤ i ∧ i < 64
  · obtain ⟨k, rfl, hk⟩ := nat_of h
    rw [hasB_nat s k hk]
    exact rhas_yes s k hs hk w
  · rw [hasB_no s h]
    by_cases h1 : i ≥ 0
    · have g1 := decide_eq_true h1
      have g2 : decide (i < 64) = false := decide_eq_false (fun h2 => h ⟨h1, h2⟩)
      clear h h1
      go_enter Tryd.func23, Tryd.ntmps23
      go_wp2_with fail
      go_ret
      exact ⟨rfl, Turns.refl _ _⟩
    · have g1 : decide (i ≥ 0) = false := decide_eq_false h1
      clear h h1
      go_enter Tryd.func23, Tryd.ntmps23
      go_wp2_with fail
      go_ret
      exact ⟨rfl, Turns.refl _ _⟩
theorem rwith_any (s : Nat) (i : Int) (hs : U64 s) (w : World) : Calls Tryd.prog 25 #[.int .u64 s, .int .i64 i] w fun e w' => e = .returned (.int .u64 (withN s i : Nat)) ∧ Turns [] w w' := by
  by_cases h : 0 ≤ i ∧ i < 64
  · obtain ⟨k, rfl, hk⟩ := nat_of h
    rw [withN_nat s k hk]
    exact rwith_yes s k hs hk w
  · have e : withN s i = s := by unfold withN; rw [if_neg h]
    rw [e]
    have Hh := Lib.hid (rhas_any s i hs w)
    rw [hasB_no s h] at Hh
    by_cases h1 : i < 0
    · have g1 := decide_eq_true h1
      clear h h1 e
      go_enter Tryd.func25, Tryd.ntmps25
      go_wp2_with fail
      go_at_call 23
      refine Calls.mono (Hh.out) ?_
      rintro e w1 ⟨rfl, t1⟩
      go_wp2_with fail
      go_ret
      exact ⟨rfl, t1⟩
    · have g1 : decide (i < 0) = false := decide_eq_false h1
      have g2 : decide (i > 63) = true := decide_eq_true (by omega)
      clear h h1 e
      go_enter Tryd.func25, Tryd.ntmps25
      go_wp2_with fail
      go_at_call 23
      refine Calls.mono (Hh.out) ?_
      rintro e w1 ⟨rfl, t1⟩
      go_wp2_with fail
      go_ret
      exact ⟨rfl, t1⟩
theorem rwithout_any (s : Nat) (i : Int) (hs : U64 s) (w : World) : Calls Tryd.prog 27 #[.int .u64 s, .int .i64 i] w fun e w' => e = .returned (.int .u64 (withoutN s i : Nat)) ∧ Turns [] w w' := by
  have Hh := Lib.hid (rhas_any s i hs w)
  unfold withoutN
  cases hb : hasB s i with
  | false =>
    rw [hb] at Hh
    simp only [Bool.false_eq_true, if_false]
    clear hb
    go_enter Tryd.func27, Tryd.ntmps27
    go_wp2_with fail
    go_at_call 23
    refine Calls.mono (Hh.out) ?_
    rintro e w1 ⟨rfl, t1⟩
    go_wp2_with fail
    go_ret
    exact ⟨rfl, t1⟩
  | true =>
    rw [hb] at Hh
    simp only [if_true]
    have h : 0 ≤ i ∧ i < 64 := by
      by_cases h : 0 ≤ i ∧ i < 64
      · exact h
      · rw [hasB_no s h] at hb; cases hb
    obtain ⟨k, rfl, hk⟩ := nat_of h
    rw [hasB_nat s k hk] at hb
    have hle : 2 ^ k ≤ s := by
      by_cases hle : 2 ^ k ≤ s
      · exact hle
      · exfalso
        have : s / 2 ^ k = 0 := Nat.div_eq_of_lt (by omega)
        unfold bit at hb
        rw [this] at hb
        cases hb
    have g3 : IntKind.u64.wrap (k : Int) = (k : Int) := u64w (by omega)
    have g4 : IntKind.u64.wrap (2 ^ k) = ((2 ^ k : Nat) : Int) := shlOne hk
    rw [Int.toNat_natCast]
    obtain ⟨R, hR⟩ : ∃ R, 2 ^ k = R := ⟨_, rfl⟩
    rw [hR] at g4 hle ⊢
    have g5 : IntKind.u64.wrap ((s : Int) - (R : Int)) = ((s - R : Nat) : Int) := by rw [IntKind.wrap_u64]; have : s < 18446744073709551616 := hs; omega
    clear hb h hR hle
    go_enter Tryd.func27, Tryd.ntmps27
    go_wp2_with fail
    go_at_call 23
    refine Calls.mono (Hh.out) ?_
    rintro e w1 ⟨rfl, t1⟩
    go_wp2_with fail
    go_ret
    exact ⟨by simp [g4, g5], t1⟩
theorem rright_any (n : Int) (w : World) : Calls Tryd.prog 39 #[.int .i64 n] w fun e w' => e = .returned (.bool (decide (okN n))) ∧ Turns [] w w' := by
  by_cases h1 : n ≥ 1
  · have g1 := decide_eq_true h1
    by_cases h2 : n ≤ 64
    · have g2 := decide_eq_true h2
      rw [decide_eq_true (show okN n from ⟨h1, h2⟩)]
      clear h1 h2
      go_enter Tryd.func39, Tryd.ntmps39
      go_wp2_with fail
      go_ret
      exact ⟨rfl, Turns.refl _ _⟩
    · have g2 : decide (n ≤ 64) = false := decide_eq_false h2
      rw [decide_eq_false (show ¬ okN n from fun h => h2 h.2)]
      clear h1 h2
      go_enter Tryd.func39, Tryd.ntmps39
      go_wp2_with fail
      go_ret
      exact ⟨rfl, Turns.refl _ _⟩
  · have g1 : decide (n ≥ 1) = false := decide_eq_false h1
    rw [decide_eq_false (show ¬ okN n from fun h => h1 h.1)]
    clear h1
    go_enter Tryd.func39, Tryd.ntmps39
    go_wp2_with fail
    go_ret
    exact ⟨rfl, Turns.refl _ _⟩
end Go.Proofs.YtmaielpfeajelaaDoor.Rh
