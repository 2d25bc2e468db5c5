/- The walks of elect's small functions, and the document's. -/
import Derived.Test.YthnegmpdadkkcaaEl
set_option linter.unusedVariables false
set_option linter.unusedSimpArgs false
set_option maxRecDepth 100000
namespace Go.Proofs.Ythnegmpdadkkcaa.Em
open Go.RowKit Go.MapKept Hm Hs Hr Hc Hd Hf Hv Rg Cn El
theorem promised_nil (w : World) : Calls Try.prog 41 #[.pointer none] w fun x w' => x = .returned (.int .i64 0) ∧ Turns [] w w' := by
  go_enter Try.func41, Try.ntmps41
  go_wp2_with fail
  go_ret
  exact ⟨rfl, Turns.refl _ _⟩
theorem promised_is (w : World) (b : Nat) (e : El) (h : IsE 159 w b e) : Calls Try.prog 41 #[.pointer (some ⟨b, 0, none⟩)] w fun x w' => x = .returned (.int .i64 e.P) ∧ Turns [] w w' := by
  have d2 : w.cell? ⟨b, 2, none⟩ = some (.int .i64 e.P) := Blk.cell h 2
  go_enter Try.func41, Try.ntmps41
  go_wp2_with fail
  go_ret
  exact ⟨rfl, Turns.refl _ _⟩
theorem round_nil (w : World) : Calls Try.prog 43 #[.pointer none] w fun x w' => x = .returned (.int .i64 0) ∧ Turns [] w w' := by
  go_enter Try.func43, Try.ntmps43
  go_wp2_with fail
  go_ret
  exact ⟨rfl, Turns.refl _ _⟩
theorem round_is (w : World) (b : Nat) (e : El) (h : IsE 159 w b e) : Calls Try.prog 43 #[.pointer (some ⟨b, 0, none⟩)] w fun x w' => x = .returned (.int .i64 e.R) ∧ Turns [] w w' := by
  have d2 : w.cell? ⟨b, 3, none⟩ = some (.int .i64 e.R) := Blk.cell h 3
  go_enter Try.func43, Try.ntmps43
  go_wp2_with fail
  go_ret
  exact ⟨rfl, Turns.refl _ _⟩
theorem standing_nil (w : World) : Calls Try.prog 44 #[.pointer none] w fun x w' => x = .returned (.int .i64 0) ∧ Turns [] w w' := by
  go_enter Try.func44, Try.ntmps44
  go_wp2_with fail
  go_ret
  exact ⟨rfl, Turns.refl _ _⟩
theorem standing_is (w : World) (b : Nat) (e : El) (h : IsE 159 w b e) : Calls Try.prog 44 #[.pointer (some ⟨b, 0, none⟩)] w fun x w' => x = .returned (.int .i64 e.B) ∧ Turns [] w w' := by
  have d2 : w.cell? ⟨b, 4, none⟩ = some (.int .i64 e.B) := Blk.cell h 4
  go_enter Try.func44, Try.ntmps44
  go_wp2_with fail
  go_ret
  exact ⟨rfl, Turns.refl _ _⟩
/-- a generation is promised -/
def El.up (e : El) (g : Int) : El := { e with P := g, B := 0 }
theorem IsE.up {T : TypeId} {w : World} {b : Nat} {e : El} (h : IsE T w b e) (g : Int) : IsE T ((w.setCell ⟨b, 2, none⟩ (.int .i64 g)).setCell ⟨b, 4, none⟩ (.int .i64 0)) b (El.up e g) ∧ Turns [b] w ((w.setCell ⟨b, 2, none⟩ (.int .i64 g)).setCell ⟨b, 4, none⟩ (.int .i64 0)) :=
  ⟨(Blk.set h 2 (.int .i64 g)).set 4 (.int .i64 0), ((Turns.refl [b] w).setCell (p := ⟨b, 2, none⟩) (by simp) _).setCell (p := ⟨b, 4, none⟩) (by simp) _⟩
theorem raise_nil (g : Int) (w : World) : Calls Try.prog 47 #[.pointer none, .int .i64 g] w fun x w' => x = .returned (.bool false) ∧ Turns [] w w' := by
  go_enter Try.func47, Try.ntmps47
  go_wp2_with fail
  go_ret
  exact ⟨rfl, Turns.refl _ _⟩
theorem raise_no (w : World) (b : Nat) (e : El) (g : Int) (h : IsE 159 w b e) (hg : ¬ (e.P < g ∧ g ≤ 1099511627776)) :
    Calls Try.prog 47 #[.pointer (some ⟨b, 0, none⟩), .int .i64 g] w fun x w' => x = .returned (.bool false) ∧ Turns [] w w' := by
  have d2 : w.cell? ⟨b, 2, none⟩ = some (.int .i64 e.P) := Blk.cell h 2
  by_cases h1 : g ≤ e.P
  · have g1 := decide_eq_true h1
    clear hg
    go_enter Try.func47, Try.ntmps47
    go_wp2_with fail
    go_ret
    exact ⟨rfl, Turns.refl _ _⟩
  · have g1 := decide_eq_false h1
    have g2 : decide (g > 1099511627776) = true := decide_eq_true (by omega)
    clear hg
    go_enter Try.func47, Try.ntmps47
    go_wp2_with fail
    go_ret
    exact ⟨rfl, Turns.refl _ _⟩
theorem raise_yes (w : World) (b : Nat) (e : El) (g : Int) (h : IsE 159 w b e) (hg : e.P < g ∧ g ≤ 1099511627776) :
    Calls Try.prog 47 #[.pointer (some ⟨b, 0, none⟩), .int .i64 g] w fun x w' => x = .returned (.bool true) ∧ IsE 159 w' b (El.up e g) ∧ Turns [b] w w' := by
  have d2 : w.cell? ⟨b, 2, none⟩ = some (.int .i64 e.P) := Blk.cell h 2
  have d4 : w.cell? ⟨b, 4, none⟩ = some (.int .i64 e.B) := Blk.cell h 4
  have f2 := Blk.frozen h 2
  have f4 := Blk.frozen h 4
  have g1 : decide (g ≤ e.P) = false := decide_eq_false (by omega)
  have g2 : decide (g > 1099511627776) = false := decide_eq_false (by omega)
  have hu := IsE.up h g
  clear hg h
  go_enter Try.func47, Try.ntmps47
  go_wp2_with fail
  go_ret
  exact ⟨rfl, hu⟩
theorem in17_is (x : Int) (w : World) : Calls Try.prog 89 #[.int .i64 x] w fun e w' => e = .returned (.bool (decide (0 ≤ x ∧ x ≤ 1099511627776))) ∧ Turns [] w w' := by
  by_cases h1 : x ≥ 0
  · have g1 := decide_eq_true h1
    by_cases h2 : x ≤ 1099511627776
    · have g2 := decide_eq_true h2
      rw [decide_eq_true (by omega : 0 ≤ x ∧ x ≤ 1099511627776)]
      go_enter Try.func89, Try.ntmps89
      go_wp2_with fail
      go_ret
      exact ⟨rfl, Turns.refl _ _⟩
    · have g2 := decide_eq_false h2
      rw [decide_eq_false (by omega : ¬ (0 ≤ x ∧ x ≤ 1099511627776))]
      go_enter Try.func89, Try.ntmps89
      go_wp2_with fail
      go_ret
      exact ⟨rfl, Turns.refl _ _⟩
  · have g1 := decide_eq_false h1
    rw [decide_eq_false (by omega : ¬ (0 ≤ x ∧ x ≤ 1099511627776))]
    go_enter Try.func89, Try.ntmps89
    go_wp2_with fail
    go_ret
    exact ⟨rfl, Turns.refl _ _⟩
theorem in17_yes (x : Int) (h : 0 ≤ x ∧ x ≤ 1099511627776) (w : World) : Calls Try.prog 89 #[.int .i64 x] w fun e w' => e = .returned (.bool true) ∧ Turns [] w w' := by
  have := in17_is x w
  rw [decide_eq_true h] at this
  exact this
theorem in17_no (x : Int) (h : ¬ (0 ≤ x ∧ x ≤ 1099511627776)) (w : World) : Calls Try.prog 89 #[.int .i64 x] w fun e w' => e = .returned (.bool false) ∧ Turns [] w w' := by
  have := in17_is x w
  rw [decide_eq_false h] at this
  exact this
theorem draise_no (w : World) (b : Nat) (e : El) (g : Int) (h : IsE 75 w b e) (hp : 0 ≤ e.P) (hg : ¬ (e.P < g ∧ g ≤ 1099511627776)) :
    Calls Try.prog 92 #[.pointer (some ⟨b, 0, none⟩), .int .i64 g] w fun x w' => x = .returned (.bool false) ∧ Turns [] w w' := by
  have d2 : w.cell? ⟨b, 2, none⟩ = some (.int .i64 e.P) := Blk.cell h 2
  by_cases h1 : g ≤ e.P
  · have g1 := decide_eq_true h1
    clear hg
    go_enter Try.func92, Try.ntmps92
    go_wp2_with fail
    go_ret
    exact ⟨rfl, Turns.refl _ _⟩
  · have g1 := decide_eq_false h1
    have hh : ¬ (0 ≤ g ∧ g ≤ 1099511627776) := by omega
    have hhh : Hid _ := hh
    clear hg hh
    go_enter Try.func92, Try.ntmps92
    go_wp2_with fail
    go_at_call 89
    refine Calls.mono (in17_no g hhh.out _) ?_
    rintro e w1 ⟨rfl, t1⟩
    go_wp2_with fail
    go_ret
    exact ⟨rfl, t1⟩
theorem draise_yes (w : World) (b : Nat) (e : El) (g : Int) (h : IsE 75 w b e) (hp : 0 ≤ e.P) (hg : e.P < g ∧ g ≤ 1099511627776) :
    Calls Try.prog 92 #[.pointer (some ⟨b, 0, none⟩), .int .i64 g] w fun x w' => x = .returned (.bool true) ∧ IsE 75 w' b (El.up e g) ∧ Turns [b] w w' := by
  have d2 : w.cell? ⟨b, 2, none⟩ = some (.int .i64 e.P) := Blk.cell h 2
  have g1 : decide (g ≤ e.P) = false := decide_eq_false (by omega)
  have hh : 0 ≤ g ∧ g ≤ 1099511627776 := by omega
  have hhh : Hid _ := hh
  have h0h : Hid _ := h
  clear hg hh h
  go_enter Try.func92, Try.ntmps92
  go_wp2_with fail
  go_at_call 89
  refine Calls.mono (in17_yes g hhh.out _) ?_
  rintro e w1 ⟨rfl, t1⟩
  have h1 : IsE 75 w1 b e := Blk.turns h0h.out t1 (by simp)
  have e2 : w1.cell? ⟨b, 2, none⟩ = some (.int .i64 e.P) := Blk.cell h1 2
  have e4 : w1.cell? ⟨b, 4, none⟩ = some (.int .i64 e.B) := Blk.cell h1 4
  have f2 := Blk.frozen h1 2
  have f4 := Blk.frozen h1 4
  obtain ⟨hu1, hu2⟩ := IsE.up h1 g
  have hT := Turns.trans (t1.mono (G := [b]) (by simp)) hu2
  clear h1 h0h hu2
  go_wp2_with fail
  go_ret
  exact ⟨rfl, hu1, hT⟩
/-- what New takes -/
structure newOk (n i P R : Int) : Prop where
  hn : 1 ≤ n ∧ n ≤ 64
  hi : 0 ≤ i ∧ i < n
  hp : 0 ≤ P ∧ P ≤ 1099511627776
  hr : 0 ≤ R ∧ R ≤ 1099511627776
def allS (n : Int) : Nat := if 1 ≤ n ∧ n ≤ 64 then 2 ^ n.toNat - 1 else 0
theorem all_is (n : Int) (w : World) : Calls Try.prog 87 #[.int .i64 n] w fun e w' => e = .returned (.int .u64 (allS n)) ∧ Turns [] w w' := by
  unfold allS
  by_cases h : 1 ≤ n ∧ n ≤ 64
  · obtain ⟨N, rfl⟩ := Int.eq_ofNat_of_zero_le (by omega : 0 ≤ n)
    rw [if_pos h]
    exact all_yes N (by omega) w
  · rw [if_neg h]
    exact all_no n h w
theorem has_all (n i : Int) (w : World) : Calls Try.prog 88 #[.int .u64 (allS n), .int .i64 i] w fun e w' => e = .returned (.bool (decide ((1 ≤ n ∧ n ≤ 64) ∧ 0 ≤ i ∧ i < n))) ∧ Turns [] w w' := by
  have hlt : allS n < 18446744073709551616 := by
    unfold allS
    split
    · exact mask_lt (by omega)
    · omega
  by_cases hi : 0 ≤ i ∧ i < 64
  · obtain ⟨I, rfl⟩ := Int.eq_ofNat_of_zero_le hi.1
    have h := has_yes (allS n) I hlt (by omega) w
    have e : bit (allS n) I = decide ((1 ≤ n ∧ n ≤ 64) ∧ 0 ≤ (I : Int) ∧ (I : Int) < n) := by
      unfold allS
      split
      · rename_i hn
        rw [bit_mask]
        congr 1
        exact propext ⟨fun h => ⟨hn, by omega, by omega⟩, fun h => by omega⟩
      · rename_i hn
        rw [bit_zero, decide_eq_false (fun h => hn h.1)]
    rw [e] at h
    exact h
  · have h := has_no (allS n) i hlt hi w
    rw [decide_eq_false (fun h => hi (by have := h.1.2; omega))]
    exact h
theorem new_bad (n i P R : Int) (h : ¬ newOk n i P R) (w : World) : Calls Try.prog 39 #[.int .i64 n, .int .i64 i, .int .i64 P, .int .i64 R] w fun e w' => e = .returned (.tuple #[.pointer none, .int .i64 1]) ∧ Turns [] w w' := by
  have hA := all_is n
  have hH := has_all n i
  obtain ⟨s, hs⟩ : ∃ s, allS n = s := ⟨_, rfl⟩
  rw [hs] at hA hH
  have hAh : Hid _ := hA
  by_cases h1 : (1 ≤ n ∧ n ≤ 64) ∧ 0 ≤ i ∧ i < n
  · rw [decide_eq_true h1] at hH
    have hHh : Hid _ := hH
    by_cases h2 : P < 0
    · have g2 := decide_eq_true h2
      clear h h1 h2 hA hH hs
      go_enter Try.func39, Try.ntmps39
      go_wp2_with fail
      go_at_call 87
      refine Calls.mono (hAh.out _) ?_
      rintro e w1 ⟨rfl, t1⟩
      go_wp2_with fail
      go_at_call 88
      refine Calls.mono (hHh.out _) ?_
      rintro e w2 ⟨rfl, t2⟩
      go_wp2_with fail
      go_ret2
      exact ⟨rfl, t1.trans t2⟩
    · have g2 := decide_eq_false h2
      by_cases h3 : P > 1099511627776
      · have g3 := decide_eq_true h3
        clear h h1 h2 h3 hA hH hs
        go_enter Try.func39, Try.ntmps39
        go_wp2_with fail
        go_at_call 87
        refine Calls.mono (hAh.out _) ?_
        rintro e w1 ⟨rfl, t1⟩
        go_wp2_with fail
        go_at_call 88
        refine Calls.mono (hHh.out _) ?_
        rintro e w2 ⟨rfl, t2⟩
        go_wp2_with fail
        go_ret2
        exact ⟨rfl, t1.trans t2⟩
      · have g3 := decide_eq_false h3
        by_cases h4 : R < 0
        · have g4 := decide_eq_true h4
          clear h h1 h2 h3 h4 hA hH hs
          go_enter Try.func39, Try.ntmps39
          go_wp2_with fail
          go_at_call 87
          refine Calls.mono (hAh.out _) ?_
          rintro e w1 ⟨rfl, t1⟩
          go_wp2_with fail
          go_at_call 88
          refine Calls.mono (hHh.out _) ?_
          rintro e w2 ⟨rfl, t2⟩
          go_wp2_with fail
          go_ret2
          exact ⟨rfl, t1.trans t2⟩
        · have g4 := decide_eq_false h4
          have h5 : R > 1099511627776 := by
            rcases Int.lt_or_le 1099511627776 R with h6 | h6
            · exact h6
            · exact absurd ⟨h1.1, h1.2, ⟨by omega, by omega⟩, ⟨by omega, by omega⟩⟩ h
          have g5 := decide_eq_true h5
          clear h h1 h2 h3 h4 h5 hA hH hs
          go_enter Try.func39, Try.ntmps39
          go_wp2_with fail
          go_at_call 87
          refine Calls.mono (hAh.out _) ?_
          rintro e w1 ⟨rfl, t1⟩
          go_wp2_with fail
          go_at_call 88
          refine Calls.mono (hHh.out _) ?_
          rintro e w2 ⟨rfl, t2⟩
          go_wp2_with fail
          go_ret2
          exact ⟨rfl, t1.trans t2⟩
  · rw [decide_eq_false h1] at hH
    have hHh : Hid _ := hH
    clear h h1 hA hH hs
    go_enter Try.func39, Try.ntmps39
    go_wp2_with fail
    go_at_call 87
    refine Calls.mono (hAh.out _) ?_
    rintro e w1 ⟨rfl, t1⟩
    go_wp2_with fail
    go_at_call 88
    refine Calls.mono (hHh.out _) ?_
    rintro e w2 ⟨rfl, t2⟩
    go_wp2_with fail
    go_ret2
    exact ⟨rfl, t1.trans t2⟩
theorem new_ok (N I : Nat) (P R : Int) (h : newOk N I P R) (w : World) : Calls Try.prog 39 #[.int .i64 N, .int .i64 I, .int .i64 P, .int .i64 R] w
    fun e w' => ∃ b, e = .returned (.tuple #[.pointer (some ⟨b, 0, none⟩), .int .i64 0]) ∧ IsE 159 w' b ⟨N, I, P, R, 0, 0⟩ ∧ w.heap.size ≤ b ∧ Turns [] w w' := by
  have hA := all_is N
  have hH := has_all N I
  obtain ⟨s, hs⟩ : ∃ s, allS N = s := ⟨_, rfl⟩
  rw [hs] at hA hH
  rw [decide_eq_true ⟨h.hn, h.hi⟩] at hH
  have hAh : Hid _ := hA
  have hHh : Hid _ := hH
  have hp := h.hp
  have hr := h.hr
  have g2 : decide (P < 0) = false := decide_eq_false (by omega)
  have g3 : decide (P > 1099511627776) = false := decide_eq_false (by omega)
  have g4 : decide (R < 0) = false := decide_eq_false (by omega)
  have g5 : decide (R > 1099511627776) = false := decide_eq_false (by omega)
  clear h hA hH hs hp hr
  go_enter Try.func39, Try.ntmps39
  go_wp2_with fail
  go_at_call 87
  refine Calls.mono (hAh.out _) ?_
  rintro e w1 ⟨rfl, t1⟩
  go_wp2_with fail
  go_at_call 88
  refine Calls.mono (hHh.out _) ?_
  rintro e w2 ⟨rfl, t2⟩
  have T2 := t1.trans t2
  have hb := Blk.new w2 (El.cells ⟨N, I, P, R, 0, 0⟩) 159
  have T3 := T2.alloc (.cells (El.cells ⟨N, I, P, R, 0, 0⟩) 159)
  have hsz := T2.size
  go_wp2_with fail
  go_ret2
  exact ⟨_, rfl, hb, hsz, T3⟩
theorem dnew_bad (n i P R : Int) (h : ¬ newOk n i P R) (w : World) : Calls Try.prog 40 #[.int .i64 n, .int .i64 i, .int .i64 P, .int .i64 R] w fun e w' => e = .returned (.tuple #[.pointer none, .int .i64 1]) ∧ Turns [] w w' := by
  have hR := rright_is n
  by_cases h1 : 1 ≤ n ∧ n ≤ 64
  · rw [nodes_yes h1] at hR
    have hRh : Hid _ := hR
    clear hR
    by_cases h2 : i < 0
    · have g2 := decide_eq_true h2
      clear h h1 h2
      go_enter Try.func40, Try.ntmps40
      go_wp2_with fail
      go_at_call 82
      refine Calls.mono (hRh.out _) ?_
      rintro e w1 ⟨rfl, t1⟩
      go_wp2_with fail
      go_ret2
      exact ⟨rfl, t1⟩
    · have g2 := decide_eq_false h2
      by_cases h3 : i ≥ n
      · have g3 := decide_eq_true h3
        clear h h1 h2 h3
        go_enter Try.func40, Try.ntmps40
        go_wp2_with fail
        go_at_call 82
        refine Calls.mono (hRh.out _) ?_
        rintro e w1 ⟨rfl, t1⟩
        go_wp2_with fail
        go_ret2
        exact ⟨rfl, t1⟩
      · have g3 := decide_eq_false h3
        by_cases h4 : 0 ≤ P ∧ P ≤ 1099511627776
        · have h5 : ¬ (0 ≤ R ∧ R ≤ 1099511627776) := fun h5 => h ⟨h1, ⟨by omega, by omega⟩, h4, h5⟩
          have h4h : Hid _ := h4
          have h5h : Hid _ := h5
          clear h h1 h2 h3 h4 h5
          go_enter Try.func40, Try.ntmps40
          go_wp2_with fail
          go_at_call 82
          refine Calls.mono (hRh.out _) ?_
          rintro e w1 ⟨rfl, t1⟩
          go_wp2_with fail
          go_at_call 89
          refine Calls.mono (in17_yes P h4h.out _) ?_
          rintro e w2 ⟨rfl, t2⟩
          go_wp2_with fail
          go_at_call 89
          refine Calls.mono (in17_no R h5h.out _) ?_
          rintro e w3 ⟨rfl, t3⟩
          go_wp2_with fail
          go_ret2
          exact ⟨rfl, (t1.trans t2).trans t3⟩
        · have h4h : Hid _ := h4
          clear h h1 h2 h3 h4
          go_enter Try.func40, Try.ntmps40
          go_wp2_with fail
          go_at_call 82
          refine Calls.mono (hRh.out _) ?_
          rintro e w1 ⟨rfl, t1⟩
          go_wp2_with fail
          go_at_call 89
          refine Calls.mono (in17_no P h4h.out _) ?_
          rintro e w2 ⟨rfl, t2⟩
          go_wp2_with fail
          go_ret2
          exact ⟨rfl, t1.trans t2⟩
  · rw [nodes_no h1] at hR
    have hRh : Hid _ := hR
    clear hR h h1
    go_enter Try.func40, Try.ntmps40
    go_wp2_with fail
    go_at_call 82
    refine Calls.mono (hRh.out _) ?_
    rintro e w1 ⟨rfl, t1⟩
    go_wp2_with fail
    go_ret2
    exact ⟨rfl, t1⟩
theorem dnew_ok (N I : Nat) (P R : Int) (h : newOk N I P R) (w : World) : Calls Try.prog 40 #[.int .i64 N, .int .i64 I, .int .i64 P, .int .i64 R] w
    fun e w' => ∃ b, e = .returned (.tuple #[.pointer (some ⟨b, 0, none⟩), .int .i64 0]) ∧ IsE 75 w' b ⟨N, I, P, R, 0, 0⟩ ∧ w.heap.size ≤ b ∧ Turns [] w w' := by
  have hR := rright_is N
  rw [nodes_yes h.hn] at hR
  have hi := h.hi
  have g2 : decide ((I : Int) < 0) = false := decide_eq_false (by omega)
  have g3 : decide ((I : Int) ≥ (N : Int)) = false := decide_eq_false (by omega)
  have g3' : (N ≤ I) = False := eq_false (by omega)
  have hRh : Hid _ := hR
  have hhh : Hid _ := h
  clear hR h hi
  go_enter Try.func40, Try.ntmps40
  go_wp2_with fail
  go_at_call 82
  refine Calls.mono (hRh.out _) ?_
  rintro e w1 ⟨rfl, t1⟩
  go_wp2_with fail
  go_at_call 89
  refine Calls.mono (in17_yes P hhh.out.hp _) ?_
  rintro e w2 ⟨rfl, t2⟩
  go_wp2_with fail
  go_at_call 89
  refine Calls.mono (in17_yes R hhh.out.hr _) ?_
  rintro e w3 ⟨rfl, t3⟩
  have T2 := (t1.trans t2).trans t3
  have hb := Blk.new w3 (El.cells ⟨N, I, P, R, 0, 0⟩) 75
  have T3 := T2.alloc (.cells (El.cells ⟨N, I, P, R, 0, 0⟩) 75)
  have hsz := T2.size
  clear hhh
  go_wp2_with fail
  go_ret2
  exact ⟨_, rfl, hb, hsz, T3⟩
/-- the document's majority -/
theorem dmajority_is (w : World) (b : Nat) (e : El) (h : IsE 75 w b e) (hv : e.ok) :
    Calls Try.prog 151 #[.pointer (some ⟨b, 0, none⟩)] w fun x w' => x = .returned (.bool e.win) ∧ Turns [] w w' := by
  obtain ⟨N, I, P, R, B, S⟩ := e
  obtain ⟨hn, hi, hp, hr, hbb, hs⟩ := hv
  simp only at hn hi hp hr hbb hs
  have d0 : w.cell? ⟨b, 0, none⟩ = some (.int .i64 N) := Blk.cell h 0
  have d5 : w.cell? ⟨b, 5, none⟩ = some (.int .u64 S) := Blk.cell h 5
  have hw : El.win ⟨N, I, P, R, B, S⟩ = decide (N < 2 * ones N S) := rfl
  rw [hw]
  obtain ⟨won, hwon⟩ : ∃ won, decide (N < 2 * ones N S) = won := ⟨_, rfl⟩
  rw [hwon]
  clear hw h
  go_enter Try.func151, Try.ntmps151
  go_wp2_with fail
  go_loopw [3, 4] (fun v3 v4 wr => ∃ (k : Nat), k ≤ N ∧ v4 = .int .i64 k ∧ v3 = .int .i64 (ones k S) ∧ Turns [] w wr) (fun _ v4 _ => N - (intOf v4).toNat)
  case atStart => exact ⟨0, by omega, rfl, rfl, Turns.refl _ _⟩
  case round =>
    obtain ⟨k, hk, rfl, rfl, T⟩ := hrel
    have e0 := T.old d0
    have e5 := T.old d5
    have hol := ones_le k S
    clear d0 d5
    by_cases hlt : k < N
    · have g1 : decide ((k : Int) < (N : Int)) = true := by simp; omega
      have hsn := ones_bit k S
      cases hbit : bit S k with
      | true =>
        rw [hbit] at hsn
        have hH := rhas_yes S k hs (by omega)
        rw [hbit] at hH
        have hHh : Hid _ := hH
        have hsnh : Hid _ := hsn
        generalize ones k S = o at *
        clear hH hsn hbit hwon
        go_wp2_with fail
        go_at_call 150
        refine Calls.mono (hHh.out _) ?_
        rintro e w2 ⟨rfl, t2⟩
        go_wp2_with fail
        go_roundw
        case rel => exact ⟨k + 1, by omega, by go_num, by rw [hsnh.out]; simp, T.trans t2⟩
        case measure => simp [intOf]; omega
      | false =>
        rw [hbit] at hsn
        have hH := rhas_yes S k hs (by omega)
        rw [hbit] at hH
        have hHh : Hid _ := hH
        have hsnh : Hid _ := hsn
        generalize ones k S = o at *
        clear hH hsn hbit hwon
        go_wp2_with fail
        go_at_call 150
        refine Calls.mono (hHh.out _) ?_
        rintro e w2 ⟨rfl, t2⟩
        go_wp2_with fail
        go_roundw
        case rel => exact ⟨k + 1, by omega, by go_num, by rw [hsnh.out]; simp, T.trans t2⟩
        case measure => simp [intOf]; omega
    · obtain rfl : k = N := by omega
      have g1 : decide ((k : Int) < (k : Int)) = false := by simp
      obtain ⟨o, ho⟩ : ∃ o, ones k S = o := ⟨_, rfl⟩
      rw [ho] at hol hwon ⊢
      have g2 : IntKind.i64.wrap (2 * (o : Int)) = 2 * (o : Int) := IntWalk.i64_in _ (by omega)
      have g3 : decide (2 * (o : Int) > (k : Int)) = won := by rw [← hwon]; congr 1; exact propext ⟨fun h => by omega, fun h => by omega⟩
      clear hwon ho
      go_wp2_with fail
      go_ret
      exact ⟨by simp [g2, g3], T⟩
theorem dwins_is (w : World) (b : Nat) (e : El) (h : IsE 75 w b e) (hv : e.ok) :
    Calls Try.prog 129 #[.pointer (some ⟨b, 0, none⟩)] w fun x w' => x = .returned (.bool e.win) ∧ IsE 75 w' b e.won ∧ Turns [b] w w' := by
  have hM := dmajority_is w b e h hv
  have hW : ∀ w1, Turns [] w w1 → IsE 75 w1 b e := fun w1 t => Blk.turns h t (by simp)
  have hS : ∀ w1, Turns [] w w1 → Blk (w1.setCell ⟨b, 4, none⟩ (.int .i64 0)) b (El.cells { e with B := 0 }) 75 := fun w1 t => Blk.set (hW w1 t) 4 (.int .i64 0)
  unfold El.won
  cases hwin : e.win with
  | true =>
    rw [hwin] at hM
    simp only [if_true]
    have hMh : Hid _ := hM
    have hSh : Hid _ := hS
    clear hM hS h hwin
    go_enter Try.func129, Try.ntmps129
    go_wp2_with fail
    go_at_call 151
    refine Calls.mono (hMh.out) ?_
    rintro e w1 ⟨rfl, t1⟩
    have h1 := hW _ t1
    have d4 : w1.cell? ⟨b, 4, none⟩ = some (.int .i64 e.B) := Blk.cell h1 4
    have f4 := Blk.frozen h1 4
    have h2 := hSh.out _ t1
    have T2 := (t1.mono (G := [b]) (by simp)).setCell (p := ⟨b, 4, none⟩) (by simp) (.int .i64 0)
    clear h1 hW hSh hMh
    go_wp2_with fail
    go_ret
    exact ⟨rfl, h2, T2⟩
  | false =>
    rw [hwin] at hM
    simp only [Bool.false_eq_true, if_false]
    have hMh : Hid _ := hM
    clear hM hS h hwin
    go_enter Try.func129, Try.ntmps129
    go_wp2_with fail
    go_at_call 151
    refine Calls.mono (hMh.out) ?_
    rintro e w1 ⟨rfl, t1⟩
    have h1 := hW _ t1
    clear hW hMh
    go_wp2_with fail
    go_ret
    exact ⟨rfl, h1, t1.mono (by simp)⟩
end Go.Proofs.Ythnegmpdadkkcaa.Em
