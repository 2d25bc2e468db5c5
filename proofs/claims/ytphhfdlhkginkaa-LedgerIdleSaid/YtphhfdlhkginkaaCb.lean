/- The walks of package conf: Rate, and the document's Right, Rate, Quarantine. -/
import Derived.Test.YtphhfdlhkginkaaCa
set_option linter.unusedVariables false
set_option linter.unusedSimpArgs false
set_option maxRecDepth 100000
namespace Go.Proofs.Ytphhfdlhkginkaa.Cb
open Go.RowKit Go.MapKept Hm Hs Hr Hb Hf Hv Cf Cn Sm Sat Mu Ca
theorem dright_is (k : Int) (w : World) : Calls Try.prog 49 #[.int .i64 k] w fun e w' => e = .returned (.bool (decide (0 ≤ k ∧ k < 524288))) ∧ Turns [] w w' := by
  by_cases h1 : k ≥ 0
  · have g1 := decide_eq_true h1
    by_cases h2 : k < 524288
    · have g2 := decide_eq_true h2
      rw [decide_eq_true (by omega : 0 ≤ k ∧ k < 524288)]
      go_enter Try.func49, Try.ntmps49
      go_wp2_with fail
      go_ret
      exact ⟨rfl, Turns.refl _ _⟩
    · have g2 := decide_eq_false h2
      rw [decide_eq_false (by omega : ¬ (0 ≤ k ∧ k < 524288))]
      go_enter Try.func49, Try.ntmps49
      go_wp2_with fail
      go_ret
      exact ⟨rfl, Turns.refl _ _⟩
  · have g1 := decide_eq_false h1
    rw [decide_eq_false (by omega : ¬ (0 ≤ k ∧ k < 524288))]
    go_enter Try.func49, Try.ntmps49
    go_wp2_with fail
    go_ret
    exact ⟨rfl, Turns.refl _ _⟩
/-- a key's policy, of so many -/
def hasRate (k : Int) (l : Nat) : Prop := (0 ≤ k ∧ k < 524288) ∧ k / 65536 < l
theorem rate_no (w : World) (c : Cfg) (k : Int) (A : Option Addr) (cap : Nat) (hA : c.rv = .slice A c.rates.length cap) (hk : ¬ hasRate k c.rates.length) :
    Calls Try.prog 54 #[c.v, .int .i64 k] w fun e w' => e = .returned (.tuple #[.agg #[.int .i64 0, .int .i64 0], .bool false]) ∧ Turns [] w w' := by
  obtain ⟨n, skew, ttl, valid, loss, hear, keys, queue, rv, rates⟩ := c
  simp only at hA hk
  subst hA
  unfold Cfg.v
  simp only
  have T0 := (Turns.refl [] w).alloc (.cells #[.int .i64 n, .int .i64 skew, .int .i64 ttl, .int .i64 valid, .int .i64 loss, .int .i64 hear, .int .i64 keys, .int .i64 queue, .slice A rates.length cap] 27)
  have T1 := T0.alloc (.cells #[.int .i64 0, .int .i64 0] 44)
  have hB := (Blk.new w #[.int .i64 n, .int .i64 skew, .int .i64 ttl, .int .i64 valid, .int .i64 loss, .int .i64 hear, .int .i64 keys, .int .i64 queue, .slice A rates.length cap] 27).alloc (.cells #[.int .i64 0, .int .i64 0] 44)
  have hR := Blk.new (w.alloc (.cells #[.int .i64 n, .int .i64 skew, .int .i64 ttl, .int .i64 valid, .int .i64 loss, .int .i64 hear, .int .i64 keys, .int .i64 queue, .slice A rates.length cap] 27)) #[.int .i64 0, .int .i64 0] 44
  rw [World.size_alloc] at hR
  by_cases h1 : 0 ≤ k ∧ k < 524288
  · have hK := kright_is k
    rw [decide_eq_true h1] at hK
    have hKh : Hid _ := hK
    obtain ⟨q, hq⟩ : ∃ q : Nat, k / 65536 = q := ⟨(k / 65536).toNat, by omega⟩
    have hge : (rates.length ≤ q) = True := eq_true (by
      rcases Nat.lt_or_ge q rates.length with h2 | h2
      · exact absurd ⟨h1, by rw [hq]; omega⟩ hk
      · exact h2)
    have g2 : decide ((q : Int) ≥ (rates.length : Int)) = true := decide_eq_true (by simp at hge; omega)
    have hkq : 0 ≤ k := h1.1
    have hdv : k.tdiv 65536 = (q : Int) := by rw [Int.tdiv_eq_ediv_of_nonneg hkq]; exact hq
    have hwq : wrap64 (q : Int) = (q : Int) := wrap_in (by omega)
    have g2' : decide ((rates.length : Int) ≤ (q : Int)) = true := g2
    clear hk h1 hK
    go_enter Try.func54, Try.ntmps54
    go_wp2_with fail
    go_at_call 68
    refine Calls.mono (hKh.out _) ?_
    rintro e w1 ⟨rfl, t1⟩
    have hR1 := hR.turns t1 (by simp)
    have hB1 := hB.turns t1 (by simp)
    have T2 := T1.trans t1
    have d8 : w1.cell? ⟨w.heap.size, 8, none⟩ = some (.slice A rates.length cap) := hB1.cell 8
    have f0 := hR1.frozen 0
    have f1 := hR1.frozen 1
    have c0 : w1.cell? ⟨w.heap.size + 1, 0, none⟩ = some (.int .i64 0) := hR1.cell 0
    have c1 : w1.cell? ⟨w.heap.size + 1, 1, none⟩ = some (.int .i64 0) := hR1.cell 1
    have hR2 := (hR1.set 0 (.int .i64 0)).set 1 (.int .i64 0)
    have T3 := (T2.setCell (p := ⟨w.heap.size + 1, 0, none⟩) (by simp) (.int .i64 0)).setCell (p := ⟨w.heap.size + 1, 1, none⟩) (by simp) (.int .i64 0)
    clear hR hB t1 T0 T1 hKh
    go_wp2_with fail
    refine bodyPost_ret (res_list (rs := [.cell 4 44, .tmp 5]) rfl (by simp) (.cell (w.heap.size + 1) _ _ _ rfl hR2 Try.underlying44 rfl (by kernel_rfl) (.tmp .nil))) rfl ?_
    exact ⟨rfl, T3⟩
  · have hK := kright_is k
    rw [decide_eq_false h1] at hK
    have hKh : Hid _ := hK
    clear hk h1 hK
    go_enter Try.func54, Try.ntmps54
    go_wp2_with fail
    go_at_call 68
    refine Calls.mono (hKh.out _) ?_
    rintro e w1 ⟨rfl, t1⟩
    have hR1 := hR.turns t1 (by simp)
    have T2 := T1.trans t1
    have f0 := hR1.frozen 0
    have f1 := hR1.frozen 1
    have c0 : w1.cell? ⟨w.heap.size + 1, 0, none⟩ = some (.int .i64 0) := hR1.cell 0
    have c1 : w1.cell? ⟨w.heap.size + 1, 1, none⟩ = some (.int .i64 0) := hR1.cell 1
    have hR2 := (hR1.set 0 (.int .i64 0)).set 1 (.int .i64 0)
    have T3 := (T2.setCell (p := ⟨w.heap.size + 1, 0, none⟩) (by simp) (.int .i64 0)).setCell (p := ⟨w.heap.size + 1, 1, none⟩) (by simp) (.int .i64 0)
    clear hR hB t1 T0 T1 hKh
    go_wp2_with fail
    refine bodyPost_ret (res_list (rs := [.cell 4 44, .tmp 5]) rfl (by simp) (.cell (w.heap.size + 1) _ _ _ rfl hR2 Try.underlying44 rfl (by kernel_rfl) (.tmp .nil))) rfl ?_
    exact ⟨rfl, T3⟩
theorem drate_no (w : World) (c : Cfg) (k : Int) (A : Option Addr) (cap : Nat) (hA : c.rv = .slice A c.rates.length cap) (hk : ¬ hasRate k c.rates.length) :
    Calls Try.prog 26 #[c.v, .int .i64 k] w fun e w' => e = .returned (.int .i64 (-1)) ∧ Turns [] w w' := by
  obtain ⟨n, skew, ttl, valid, loss, hear, keys, queue, rv, rates⟩ := c
  simp only at hA hk
  subst hA
  unfold Cfg.v
  simp only
  have T0 := (Turns.refl [] w).alloc (.cells #[.int .i64 n, .int .i64 skew, .int .i64 ttl, .int .i64 valid, .int .i64 loss, .int .i64 hear, .int .i64 keys, .int .i64 queue, .slice A rates.length cap] 27)
  have hB := Blk.new w #[.int .i64 n, .int .i64 skew, .int .i64 ttl, .int .i64 valid, .int .i64 loss, .int .i64 hear, .int .i64 keys, .int .i64 queue, .slice A rates.length cap] 27
  by_cases h1 : 0 ≤ k ∧ k < 524288
  · have hK := dright_is k
    rw [decide_eq_true h1] at hK
    have hKh : Hid _ := hK
    obtain ⟨q, hq⟩ : ∃ q : Nat, k / 65536 = q := ⟨(k / 65536).toNat, by omega⟩
    have hge : (rates.length ≤ q) = True := eq_true (by
      rcases Nat.lt_or_ge q rates.length with h2 | h2
      · exact absurd ⟨h1, by rw [hq]; omega⟩ hk
      · exact h2)
    have g2 : decide ((q : Int) ≥ (rates.length : Int)) = true := decide_eq_true (by simp at hge; omega)
    have hkq : 0 ≤ k := h1.1
    have hdv : k.tdiv 65536 = (q : Int) := by rw [Int.tdiv_eq_ediv_of_nonneg hkq]; exact hq
    have hwq : wrap64 (q : Int) = (q : Int) := wrap_in (by omega)
    have g2' : decide ((rates.length : Int) ≤ (q : Int)) = true := g2
    clear hk h1 hK
    go_enter Try.func26, Try.ntmps26
    go_wp2_with fail
    go_at_call 49
    refine Calls.mono (hKh.out _) ?_
    rintro e w1 ⟨rfl, t1⟩
    have hB1 := hB.turns t1 (by simp)
    have d8 : w1.cell? ⟨w.heap.size, 8, none⟩ = some (.slice A rates.length cap) := hB1.cell 8
    clear hB hB1 hKh
    go_wp2_with fail
    go_ret
    exact ⟨rfl, T0.trans t1⟩
  · have hK := dright_is k
    rw [decide_eq_false h1] at hK
    have hKh : Hid _ := hK
    clear hk h1 hK hB
    go_enter Try.func26, Try.ntmps26
    go_wp2_with fail
    go_at_call 49
    refine Calls.mono (hKh.out _) ?_
    rintro e w1 ⟨rfl, t1⟩
    go_wp2_with fail
    go_ret
    exact ⟨rfl, T0.trans t1⟩
theorem drate_yes (w : World) (c : Cfg) (k : Int) (q : Nat) (A : Option Addr) (cap : Nat) (hA : c.rv = .slice A c.rates.length cap) (h1 : 0 ≤ k ∧ k < 524288) (hq : k / 65536 = q) (hql : q < c.rates.length) :
    Calls Try.prog 26 #[c.v, .int .i64 k] w fun e w' => e = .returned (.int .i64 q) ∧ Turns [] w w' := by
  obtain ⟨n, skew, ttl, valid, loss, hear, keys, queue, rv, rates⟩ := c
  simp only at hA hql
  subst hA
  unfold Cfg.v
  simp only
  have T0 := (Turns.refl [] w).alloc (.cells #[.int .i64 n, .int .i64 skew, .int .i64 ttl, .int .i64 valid, .int .i64 loss, .int .i64 hear, .int .i64 keys, .int .i64 queue, .slice A rates.length cap] 27)
  have hB := Blk.new w #[.int .i64 n, .int .i64 skew, .int .i64 ttl, .int .i64 valid, .int .i64 loss, .int .i64 hear, .int .i64 keys, .int .i64 queue, .slice A rates.length cap] 27
  have hK := dright_is k
  rw [decide_eq_true h1] at hK
  have hKh : Hid _ := hK
  have hge : (rates.length ≤ q) = False := eq_false (by omega)
  have g2 : decide ((q : Int) ≥ (rates.length : Int)) = false := decide_eq_false (by omega)
  have hkq : 0 ≤ k := h1.1
  have hdv : k.tdiv 65536 = (q : Int) := by rw [Int.tdiv_eq_ediv_of_nonneg hkq]; exact hq
  have hwq : wrap64 (q : Int) = (q : Int) := wrap_in (by omega)
  have g2' : decide ((rates.length : Int) ≤ (q : Int)) = false := g2
  clear h1 hK
  go_enter Try.func26, Try.ntmps26
  go_wp2_with fail
  go_at_call 49
  refine Calls.mono (hKh.out _) ?_
  rintro e w1 ⟨rfl, t1⟩
  have hB1 := hB.turns t1 (by simp)
  have d8 : w1.cell? ⟨w.heap.size, 8, none⟩ = some (.slice A rates.length cap) := hB1.cell 8
  clear hB hB1 hKh
  go_wp2_with fail
  go_ret
  exact ⟨by simp [hq, hdv, hwq], T0.trans t1⟩
theorem two_in {x y : Int} (hx : 0 ≤ x ∧ x ≤ 4611686018427387904) : two x y = min (x + fit y) 4611686018427387904 := by unfold two; rw [fit_id hx.1 hx.2]
theorem quar_same (v t s : Int) : sum [v, t, s, s, s, s] = sum [v, t, mul 4 s] := by
  have hv := fit_bd v
  have ht := fit_bd t
  have hs := fit_bd s
  have hm : fit (mul 4 s) = min (4 * fit s) 4611686018427387904 := by
    have h1 := mul_bd 4 s
    rw [fit_id h1.1 h1.2]
    unfold mul
    rw [show fit 4 = 4 from by decide]
  simp only [sum, List.foldl_cons, List.foldl_nil]
  have e1 : two 0 v = fit v := by rw [two_in (by omega)]; omega
  have e2 := two_bd (fit v) t
  rw [e1]
  generalize two (fit v) t = a at e2 ⊢
  have f1 : two a s = min (a + fit s) 4611686018427387904 := two_in e2
  have f2 : two a (mul 4 s) = min (a + fit (mul 4 s)) 4611686018427387904 := two_in e2
  rw [f1, f2, hm]
  have f3 : two (min (a + fit s) 4611686018427387904) s = min (min (a + fit s) 4611686018427387904 + fit s) 4611686018427387904 := two_in (by omega)
  rw [f3]
  have f4 : two (min (min (a + fit s) 4611686018427387904 + fit s) 4611686018427387904) s = min (min (min (a + fit s) 4611686018427387904 + fit s) 4611686018427387904 + fit s) 4611686018427387904 := two_in (by omega)
  rw [f4]
  have f5 : two (min (min (min (a + fit s) 4611686018427387904 + fit s) 4611686018427387904 + fit s) 4611686018427387904) s = min (min (min (min (a + fit s) 4611686018427387904 + fit s) 4611686018427387904 + fit s) 4611686018427387904 + fit s) 4611686018427387904 := two_in (by omega)
  rw [f5]
  omega
end Go.Proofs.Ytphhfdlhkginkaa.Cb
