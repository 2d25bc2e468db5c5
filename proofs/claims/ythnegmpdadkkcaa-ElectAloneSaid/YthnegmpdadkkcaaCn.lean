/- The walks of package conf and annonaref03: keys, ballots. -/
import Derived.Test.YthnegmpdadkkcaaCf
set_option linter.unusedVariables false
set_option linter.unusedSimpArgs false
set_option maxRecDepth 100000
namespace Go.Proofs.Ythnegmpdadkkcaa.Cn
open Go.RowKit Go.MapKept Hm Hs Hr Hb Cf
def nodesB (n : Int) : Bool := decide (1 ≤ n ∧ n ≤ 64)
theorem nodes_is (n : Int) (w : World) : Calls Try.prog 78 #[.int .i64 n] w fun e w' => e = .returned (.bool (nodesB n)) ∧ Turns [] w w' := by
  unfold nodesB
  by_cases h1 : n ≥ 1
  · have g1 := decide_eq_true h1
    by_cases h2 : n ≤ 64
    · have g2 := decide_eq_true h2
      rw [decide_eq_true (by omega : 1 ≤ n ∧ n ≤ 64)]
      go_enter Try.func78, Try.ntmps78
      go_wp2_with fail
      go_ret
      exact ⟨rfl, Turns.refl _ _⟩
    · have g2 := decide_eq_false h2
      rw [decide_eq_false (by omega : ¬ (1 ≤ n ∧ n ≤ 64))]
      go_enter Try.func78, Try.ntmps78
      go_wp2_with fail
      go_ret
      exact ⟨rfl, Turns.refl _ _⟩
  · have g1 := decide_eq_false h1
    rw [decide_eq_false (by omega : ¬ (1 ≤ n ∧ n ≤ 64))]
    go_enter Try.func78, Try.ntmps78
    go_wp2_with fail
    go_ret
    exact ⟨rfl, Turns.refl _ _⟩
theorem rright_is (n : Int) (w : World) : Calls Try.prog 82 #[.int .i64 n] w fun e w' => e = .returned (.bool (nodesB n)) ∧ Turns [] w w' := by
  unfold nodesB
  by_cases h1 : n ≥ 1
  · have g1 := decide_eq_true h1
    by_cases h2 : n ≤ 64
    · have g2 := decide_eq_true h2
      rw [decide_eq_true (by omega : 1 ≤ n ∧ n ≤ 64)]
      go_enter Try.func82, Try.ntmps82
      go_wp2_with fail
      go_ret
      exact ⟨rfl, Turns.refl _ _⟩
    · have g2 := decide_eq_false h2
      rw [decide_eq_false (by omega : ¬ (1 ≤ n ∧ n ≤ 64))]
      go_enter Try.func82, Try.ntmps82
      go_wp2_with fail
      go_ret
      exact ⟨rfl, Turns.refl _ _⟩
  · have g1 := decide_eq_false h1
    rw [decide_eq_false (by omega : ¬ (1 ≤ n ∧ n ≤ 64))]
    go_enter Try.func82, Try.ntmps82
    go_wp2_with fail
    go_ret
    exact ⟨rfl, Turns.refl _ _⟩
theorem nodes_yes {n : Int} (h : 1 ≤ n ∧ n ≤ 64) : nodesB n = true := decide_eq_true h
theorem nodes_no {n : Int} (h : ¬ (1 ≤ n ∧ n ≤ 64)) : nodesB n = false := decide_eq_false h
/-- a ballot that may be asked for -/
def mayNext (n node : Int) : Prop := (1 ≤ n ∧ n ≤ 64) ∧ 0 ≤ node ∧ node < n
theorem next_bad (n above node : Int) (w : World) (h : ¬ mayNext n node) : Calls Try.prog 76 #[.int .i64 n, .int .i64 above, .int .i64 node] w fun e w' => e = .returned (.tuple #[.int .i64 0, .int .i64 1]) ∧ Turns [] w w' := by
  unfold mayNext at h
  by_cases h1 : 1 ≤ n ∧ n ≤ 64
  · have g1 := nodes_yes h1
    by_cases h2 : node < 0
    · have g2 := decide_eq_true h2
      clear h h1 h2
      go_enter Try.func76, Try.ntmps76
      go_wp2_with fail
      go_at_call 78
      refine Calls.mono (nodes_is n w) ?_
      rintro e w1 ⟨rfl, t1⟩
      go_wp2_with fail
      go_ret2
      exact ⟨rfl, t1⟩
    · have g2 := decide_eq_false h2
      have g3 : decide (node ≥ n) = true := decide_eq_true (by omega)
      clear h h1 h2
      go_enter Try.func76, Try.ntmps76
      go_wp2_with fail
      go_at_call 78
      refine Calls.mono (nodes_is n w) ?_
      rintro e w1 ⟨rfl, t1⟩
      go_wp2_with fail
      go_ret2
      exact ⟨rfl, t1⟩
  · have g1 := nodes_no h1
    clear h h1
    go_enter Try.func76, Try.ntmps76
    go_wp2_with fail
    go_at_call 78
    refine Calls.mono (nodes_is n w) ?_
    rintro e w1 ⟨rfl, t1⟩
    go_wp2_with fail
    go_ret2
    exact ⟨rfl, t1⟩
theorem rnext_bad (n above node : Int) (w : World) (h : ¬ mayNext n node) : Calls Try.prog 127 #[.int .i64 n, .int .i64 above, .int .i64 node] w fun e w' => e = .returned (.tuple #[.int .i64 0, .int .i64 1]) ∧ Turns [] w w' := by
  unfold mayNext at h
  by_cases h1 : 1 ≤ n ∧ n ≤ 64
  · have g1 := nodes_yes h1
    by_cases h2 : node < 0
    · have g2 := decide_eq_true h2
      clear h h1 h2
      go_enter Try.func127, Try.ntmps127
      go_wp2_with fail
      go_at_call 82
      refine Calls.mono (rright_is n w) ?_
      rintro e w1 ⟨rfl, t1⟩
      go_wp2_with fail
      go_ret2
      exact ⟨rfl, t1⟩
    · have g2 := decide_eq_false h2
      have g3 : decide (node ≥ n) = true := decide_eq_true (by omega)
      clear h h1 h2
      go_enter Try.func127, Try.ntmps127
      go_wp2_with fail
      go_at_call 82
      refine Calls.mono (rright_is n w) ?_
      rintro e w1 ⟨rfl, t1⟩
      go_wp2_with fail
      go_ret2
      exact ⟨rfl, t1⟩
  · have g1 := nodes_no h1
    clear h h1
    go_enter Try.func127, Try.ntmps127
    go_wp2_with fail
    go_at_call 82
    refine Calls.mono (rright_is n w) ?_
    rintro e w1 ⟨rfl, t1⟩
    go_wp2_with fail
    go_ret2
    exact ⟨rfl, t1⟩
theorem next_over (n above node : Int) (w : World) (h : mayNext n node) (ha : above ≥ 1099511627776) : Calls Try.prog 76 #[.int .i64 n, .int .i64 above, .int .i64 node] w fun e w' => e = .returned (.tuple #[.int .i64 0, .int .i64 6]) ∧ Turns [] w w' := by
  unfold mayNext at h
  have g1 := nodes_yes h.1
  have g2 : decide (node < 0) = false := decide_eq_false (by omega)
  have g3 : decide (node ≥ n) = false := decide_eq_false (by omega)
  have g4 := decide_eq_true ha
  clear h ha
  go_enter Try.func76, Try.ntmps76
  go_wp2_with fail
  go_at_call 78
  refine Calls.mono (nodes_is n w) ?_
  rintro e w1 ⟨rfl, t1⟩
  go_wp2_with fail
  go_ret2
  exact ⟨rfl, t1⟩
theorem rnext_over (n above node : Int) (w : World) (h : mayNext n node) (ha : above ≥ 1099511627776) : Calls Try.prog 127 #[.int .i64 n, .int .i64 above, .int .i64 node] w fun e w' => e = .returned (.tuple #[.int .i64 0, .int .i64 6]) ∧ Turns [] w w' := by
  unfold mayNext at h
  have g1 := nodes_yes h.1
  have g2 : decide (node < 0) = false := decide_eq_false (by omega)
  have g3 : decide (node ≥ n) = false := decide_eq_false (by omega)
  have g4 := decide_eq_true ha
  clear h ha
  go_enter Try.func127, Try.ntmps127
  go_wp2_with fail
  go_at_call 82
  refine Calls.mono (rright_is n w) ?_
  rintro e w1 ⟨rfl, t1⟩
  go_wp2_with fail
  go_ret2
  exact ⟨rfl, t1⟩
/-- the next ballot of a node, if there is room -/
def nextT (n above node : Int) : Int := if above < n + node then n + node else n + node + ((above - (n + node)) / n + 1) * n
theorem div_bd {a n : Int} (hn : 1 ≤ n) (ha : 0 ≤ a) : 0 ≤ a / n ∧ a / n * n ≤ a ∧ a < a / n * n + n := by
  have h1 := Int.emod_nonneg a (by omega : n ≠ 0)
  have h2 := Int.emod_lt_of_pos a (by omega : 0 < n)
  have h3 := Int.mul_ediv_add_emod a n
  have h4 : n * (a / n) = a / n * n := Int.mul_comm _ _
  have h5 : 0 ≤ a / n := Int.ediv_nonneg ha (by omega)
  omega
theorem nextT_form {n above node : Int} (h : mayNext n node) : ∃ j : Int, nextT n above node = j * n + node ∧ max (above + 1) n ≤ nextT n above node ∧ nextT n above node - n < max (above + 1) n ∧ 1 ≤ j := by
  unfold mayNext at h
  unfold nextT
  by_cases hc : above < n + node
  · rw [if_pos hc]
    exact ⟨1, by omega, by omega, by omega, by omega⟩
  · rw [if_neg hc]
    obtain ⟨h1, h2, h3⟩ := div_bd (a := above - (n + node)) (n := n) (by omega) (by omega)
    generalize (above - (n + node)) / n = q at *
    have e : (q + 1) * n = q * n + n := by rw [Int.add_mul, Int.one_mul]
    have e2 : (q + 1 + 1) * n = (q + 1) * n + n := by rw [Int.add_mul, Int.one_mul]
    refine ⟨q + 1 + 1, ?_, ?_, ?_, ?_⟩
    · omega
    · omega
    · omega
    · omega
theorem nextT_mod {n above node : Int} (h : mayNext n node) : nextT n above node % n = node := by
  obtain ⟨j, e, _⟩ := nextT_form (above := above) h
  unfold mayNext at h
  rw [e, Int.add_comm, Int.add_mul_emod_self_right]
  exact Int.emod_eq_of_lt h.2.1 h.2.2
theorem nextT_first {n above node b : Int} (h : mayNext n node) (h1 : max (above + 1) n ≤ b) (h2 : b < nextT n above node) : b % n ≠ node := by
  obtain ⟨j, e, h3, h4, _⟩ := nextT_form (above := above) h
  unfold mayNext at h
  intro hb
  have h5 := Int.mul_ediv_add_emod b n
  rw [hb] at h5
  generalize b / n = k at *
  have hc : n * k = k * n := Int.mul_comm _ _
  have hlt : k * n < j * n := by omega
  have hkj : k < j := by
    rcases Int.lt_or_le k j with h6 | h6
    · exact h6
    · have := Int.mul_le_mul_of_nonneg_right h6 (by omega : 0 ≤ n); omega
  have h7 := Int.mul_le_mul_of_nonneg_right (by omega : k ≤ j - 1) (by omega : 0 ≤ n)
  rw [Int.sub_mul, Int.one_mul] at h7
  omega
theorem wrap_in {x : Int} (h : -9223372036854775808 ≤ x ∧ x ≤ 9223372036854775807) : wrap64 x = x := by unfold wrap64; omega
def nextR (n above node : Int) : Int × Int := if nextT n above node > 1099511627776 then (0, 6) else (nextT n above node, 0)
theorem next_is (n above node : Int) (w : World) (h : mayNext n node) (ha : above < 1099511627776) : Calls Try.prog 76 #[.int .i64 n, .int .i64 above, .int .i64 node] w fun e w' => e = .returned (.tuple #[.int .i64 (nextR n above node).1, .int .i64 (nextR n above node).2]) ∧ Turns [] w w' := by
  have hh := h
  unfold mayNext at h
  have g1 := nodes_yes h.1
  have g2 : decide (node < 0) = false := decide_eq_false (by omega)
  have g3 : decide (node ≥ n) = false := decide_eq_false (by omega)
  have g4 : decide (above ≥ 1099511627776) = false := decide_eq_false (by omega)
  have g6 : (n == 0) = false := by simp; omega
  by_cases hc : above < n + node
  · have g5 : decide (above ≥ n + node) = false := decide_eq_false (by omega)
    have hT : nextT n above node = n + node := by unfold nextT; rw [if_pos hc]
    have hR : nextR n above node = (n + node, 0) := by unfold nextR; rw [hT, if_neg (by omega)]
    rw [hR]
    have g7 : decide (n + node > 1099511627776) = false := decide_eq_false (by omega)
    clear hR hT hc ha hh
    go_enter Try.func76, Try.ntmps76
    go_wp2_with fail
    go_at_call 78
    refine Calls.mono (nodes_is n w) ?_
    rintro e w1 ⟨rfl, t1⟩
    go_wp2_with fail
    go_ret2
    exact ⟨rfl, t1⟩
  · have g5 : decide (above ≥ n + node) = true := decide_eq_true (by omega)
    obtain ⟨h1, h2, h3⟩ := div_bd (a := above - (n + node)) (n := n) (by omega) (by omega)
    have hT : nextT n above node = n + node + ((above - (n + node)) / n + 1) * n := by unfold nextT; rw [if_neg hc]
    obtain ⟨q, hq⟩ : ∃ q, (above - (n + node)) / n = q := ⟨_, rfl⟩
    rw [hq] at hT h1 h2 h3
    have hqn : q ≤ 1099511627776 := by
      have := Int.mul_le_mul_of_nonneg_left (by omega : 1 ≤ n) h1
      omega
    have e0 : (q + 1) * n = q * n + n := by rw [Int.add_mul, Int.one_mul]
    have e1 : wrap64 (q + 1) = q + 1 := wrap_in (by omega)
    obtain ⟨m, hm⟩ : ∃ m, (q + 1) * n = m := ⟨_, rfl⟩
    have e2 : wrap64 ((q + 1) * n) = m := by rw [hm]; exact wrap_in (by omega)
    obtain ⟨t, ht⟩ : ∃ t, n + node + m = t := ⟨_, rfl⟩
    have e3 : wrap64 (n + node + m) = t := by rw [ht]; exact wrap_in (by omega)
    rw [hm, ht] at hT
    have hR : nextR n above node = if t > 1099511627776 then (0, 6) else (t, 0) := by unfold nextR; rw [hT]
    clear ht
    have hcb : n + node ≤ above := by omega
    clear hT hc e0 hm h1 h2 h3 hqn hh
    by_cases ho : t > 1099511627776
    · have g7 := decide_eq_true ho
      rw [if_pos ho] at hR
      rw [hR]
      clear hR ho
      go_enter Try.func76, Try.ntmps76
      go_wp2_with fail
      go_at_call 78
      refine Calls.mono (nodes_is n w) ?_
      rintro e w1 ⟨rfl, t1⟩
      go_wp2_with fail
      go_ret2
      exact ⟨rfl, t1⟩
    · have g7 := decide_eq_false ho
      rw [if_neg ho] at hR
      rw [hR]
      clear hR ho
      go_enter Try.func76, Try.ntmps76
      go_wp2_with fail
      go_at_call 78
      refine Calls.mono (nodes_is n w) ?_
      rintro e w1 ⟨rfl, t1⟩
      go_wp2_with fail
      go_ret2
      exact ⟨by rw [e3]; rfl, t1⟩
theorem rnext_is (n above node : Int) (w : World) (h : mayNext n node) (ha : above < 1099511627776) (hmin : -9223372036854775808 ≤ above) : Calls Try.prog 127 #[.int .i64 n, .int .i64 above, .int .i64 node] w fun e w' => e = .returned (.tuple #[.int .i64 (nextR n above node).1, .int .i64 (nextR n above node).2]) ∧ Turns [] w w' := by
  obtain ⟨j, hj, hT1, hT2, hj1⟩ := nextT_form (above := above) h
  clear hj hj1
  have hT3 := nextT_mod (above := above) h
  have hT4 := fun b => nextT_first (above := above) (b := b) h
  have hR : nextR n above node = if nextT n above node > 1099511627776 then (0, 6) else (nextT n above node, 0) := rfl
  obtain ⟨R, hRR⟩ : ∃ R, nextR n above node = R := ⟨_, rfl⟩
  rw [hRR] at hR ⊢
  clear hRR
  generalize nextT n above node = T at *
  replace hR : Hid (R = if T > 1099511627776 then (0, 6) else (T, 0)) := hR
  unfold mayNext at h
  have g1 := nodes_yes h.1
  have g2 : decide (node < 0) = false := decide_eq_false (by omega)
  have g3 : decide (node ≥ n) = false := decide_eq_false (by omega)
  have g4 : decide (above ≥ 1099511627776) = false := decide_eq_false (by omega)
  have g6 : (n == 0) = false := by simp; omega
  obtain ⟨s, hs⟩ : ∃ s, max (above + 1) n = s := ⟨_, rfl⟩
  have hsn : n ≤ s := by omega
  have hT5 : T ≤ 1099511627776 + 64 := by omega
  have hT4h : Hid (∀ b, s ≤ b → b < T → b % n ≠ node) := fun b h1 h2 => hT4 b (by omega) h2
  rw [hs] at hT1 hT2
  clear hT4
  go_enter Try.func127, Try.ntmps127
  go_wp2_with fail
  go_at_call 82
  refine Calls.mono (rright_is n w) ?_
  rintro e w1 ⟨rfl, t1⟩
  go_wp2_with fail
  go_loopw [9] (fun v9 wr => ∃ b : Int, v9 = .int .i64 b ∧ s ≤ b ∧ b ≤ T ∧ wr = w1) (fun v9 _ => (T - intOf v9).toNat)
  case atStart => exact ⟨s, rfl, by omega, hT1, rfl⟩
  case round =>
    obtain ⟨b, rfl, hb1, hb2, rfl⟩ := hrel
    have hbp : 0 ≤ b := by omega
    by_cases hlt : b < T
    · have hne : (b % n != node) = true := by simpa using hT4h.out b hb1 hlt
      go_wp2_with fail
      go_roundw
      case rel => exact ⟨b + 1, by go_num, by omega, by omega, trivial⟩
      case measure => simp [intOf]; omega
    · obtain rfl : b = T := by omega
      have hne : (b % n != node) = false := by rw [hT3]; simp
      by_cases ho : b > 1099511627776
      · have g7 := decide_eq_true ho
        have hR2 := hR.out
        rw [if_pos ho] at hR2
        subst hR2
        go_wp2_with fail
        go_ret2
        exact ⟨rfl, t1⟩
      · have g7 := decide_eq_false ho
        have hR2 := hR.out
        rw [if_neg ho] at hR2
        subst hR2
        go_wp2_with fail
        go_ret2
        exact ⟨rfl, t1⟩
/-- whose a ballot is -/
def ownerR (n b : Int) : Int := if (1 ≤ n ∧ n ≤ 64) ∧ n ≤ b ∧ b ≤ 1099511627776 then b % n else -1
theorem owner_is (n b : Int) (w : World) : Calls Try.prog 77 #[.int .i64 n, .int .i64 b] w fun e w' => e = .returned (.int .i64 (ownerR n b)) ∧ Turns [] w w' := by
  by_cases h1 : 1 ≤ n ∧ n ≤ 64
  · have g1 := nodes_yes h1
    have g6 : (n == 0) = false := by simp; omega
    by_cases h2 : b < n
    · have g2 := decide_eq_true h2
      rw [show ownerR n b = -1 from if_neg (by omega)]
      clear h2
      go_enter Try.func77, Try.ntmps77
      go_wp2_with fail
      go_at_call 78
      refine Calls.mono (nodes_is n w) ?_
      rintro e w1 ⟨rfl, t1⟩
      go_wp2_with fail
      go_ret
      exact ⟨rfl, t1⟩
    · have g2 := decide_eq_false h2
      by_cases h3 : b > 1099511627776
      · have g3 := decide_eq_true h3
        rw [show ownerR n b = -1 from if_neg (by omega)]
        clear h2 h3
        go_enter Try.func77, Try.ntmps77
        go_wp2_with fail
        go_at_call 78
        refine Calls.mono (nodes_is n w) ?_
        rintro e w1 ⟨rfl, t1⟩
        go_wp2_with fail
        go_ret
        exact ⟨rfl, t1⟩
      · have g3 := decide_eq_false h3
        rw [show ownerR n b = b % n from if_pos (by omega)]
        have hb : 0 ≤ b := by omega
        go_enter Try.func77, Try.ntmps77
        go_wp2_with fail
        go_at_call 78
        refine Calls.mono (nodes_is n w) ?_
        rintro e w1 ⟨rfl, t1⟩
        go_wp2_with fail
        go_ret
        exact ⟨rfl, t1⟩
  · have g1 := nodes_no h1
    rw [show ownerR n b = -1 from if_neg (by omega)]
    clear h1
    go_enter Try.func77, Try.ntmps77
    go_wp2_with fail
    go_at_call 78
    refine Calls.mono (nodes_is n w) ?_
    rintro e w1 ⟨rfl, t1⟩
    go_wp2_with fail
    go_ret
    exact ⟨rfl, t1⟩
end Go.Proofs.Ythnegmpdadkkcaa.Cn
