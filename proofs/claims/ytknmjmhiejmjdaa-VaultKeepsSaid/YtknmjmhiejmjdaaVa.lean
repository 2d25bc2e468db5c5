/- The walks of vault's small functions, and the document's: states. -/
import Derived.Test.YtknmjmhiejmjdaaDr
import Derived.Test.YtknmjmhiejmjdaaKt
import Derived.Test.YtknmjmhiejmjdaaHo
set_option linter.unusedVariables false
set_option linter.unusedSimpArgs false
set_option maxRecDepth 100000
namespace Go.Proofs.Ytknmjmhiejmjdaa.Va
open Go.RowKit Go.MapKept Hm Hs Hr Hf Hg Hv
/-- a state: promised, generation, hop, round -/
structure V4 where
  p : Int
  g : Int
  h : Int
  r : Int
deriving DecidableEq
def V4.cells (s : V4) : List Value := [.int .i64 s.p, .int .i64 s.g, .int .i64 s.h, .int .i64 s.r]
def V4.list (s : V4) : List Int := [s.p, s.g, s.h, s.r]
def z4 : V4 := ⟨0, 0, 0, 0⟩
def ok1 (x : Int) : Bool := !(decide (x < 0)) && !(decide (x > 1099511627776))
def V4.ok (s : V4) : Bool := ok1 s.p && ok1 s.g && ok1 s.h && ok1 s.r
def V4.rises (a b : V4) : Bool := decide (a.p ≤ b.p ∧ a.r ≤ b.r ∧ (a.g < b.g ∨ a.g = b.g ∧ a.h ≤ b.h))
theorem ok1_1 {x : Int} (h : x < 0) : ok1 x = false := by unfold ok1; rw [decide_eq_true h]; rfl
theorem ok1_2 {x : Int} (h : x > 1099511627776) : ok1 x = false := by unfold ok1; rw [decide_eq_true h]; simp
theorem ok1_3 {x : Int} (h : ¬ x < 0) (h2 : ¬ x > 1099511627776) : ok1 x = true := by unfold ok1; rw [decide_eq_false h, decide_eq_false h2]; rfl
theorem ok_bad {a b c d : Bool} (h : a = false ∨ b = false ∨ c = false ∨ d = false) : (a && b && c && d) = false := by
  rcases h with rfl | rfl | rfl | rfl <;> simp
theorem ok_none {s : V4} (h : ok1 s.p = false ∨ ok1 s.g = false ∨ ok1 s.h = false ∨ ok1 s.r = false) : s.ok = false := ok_bad h
theorem ok_all {s : V4} (h1 : ok1 s.p = true) (h2 : ok1 s.g = true) (h3 : ok1 s.h = true) (h4 : ok1 s.r = true) : s.ok = true := by unfold V4.ok; rw [h1, h2, h3, h4]; rfl
theorem right_is (w : World) (s : V4) : Calls Try.prog 33 #[.agg #[.int .i64 s.p, .int .i64 s.g, .int .i64 s.h, .int .i64 s.r]] w fun e w' => e = .returned (.bool s.ok) ∧ Turns [] w w' := by
  obtain ⟨p, g, h, r⟩ := s
  have T0 := (Turns.refl [] w).alloc (.cells #[.int .i64 p, .int .i64 g, .int .i64 h, .int .i64 r] 25)
  obtain ⟨R, hR⟩ : ∃ R, (⟨p, g, h, r⟩ : V4).ok = R := ⟨_, rfl⟩
  rw [hR]
  have hR' : Hid _ := hR
  clear hR
  dsimp only
  have ix0 : ∀ W, (Instr.index 85 (.agg #[.int .i64 p, .int .i64 g, .int .i64 h, .int .i64 r]) (.int .i64 0)).run Try.prog W = .ok (.int .i64 p) W := fun W => by kernel_rfl
  have ix1 : ∀ W, (Instr.index 85 (.agg #[.int .i64 p, .int .i64 g, .int .i64 h, .int .i64 r]) (.int .i64 1)).run Try.prog W = .ok (.int .i64 g) W := fun W => by kernel_rfl
  have ix2 : ∀ W, (Instr.index 85 (.agg #[.int .i64 p, .int .i64 g, .int .i64 h, .int .i64 r]) (.int .i64 2)).run Try.prog W = .ok (.int .i64 h) W := fun W => by kernel_rfl
  have ix3 : ∀ W, (Instr.index 85 (.agg #[.int .i64 p, .int .i64 g, .int .i64 h, .int .i64 r]) (.int .i64 3)).run Try.prog W = .ok (.int .i64 r) W := fun W => by kernel_rfl
  go_enter Try.func33, Try.ntmps33
  go_wp2_with fail
  go_loopw [14] (fun v14 wr => ∃ (k : Nat), k ≤ 4 ∧ v14 = .int .i64 k ∧ Turns [] w wr ∧ (1 ≤ k → ok1 p = true) ∧ (2 ≤ k → ok1 g = true) ∧ (3 ≤ k → ok1 h = true) ∧ (4 ≤ k → ok1 r = true)) (fun v14 _ => 4 - (intOf v14).toNat)
  case atStart => exact ⟨0, by omega, rfl, T0, by omega, by omega, by omega, by omega⟩
  case round =>
    obtain ⟨k, hk, rfl, Tr, k1, k2, k3, k4⟩ := hrel
    have k1h : Hid _ := k1
    have k2h : Hid _ := k2
    have k3h : Hid _ := k3
    have k4h : Hid _ := k4
    clear k1 k2 k3 k4
    rcases (by omega : k = 4 ∨ k = 0 ∨ k = 1 ∨ k = 2 ∨ k = 3) with rfl | rfl | rfl | rfl | rfl
    · go_wp2_with fail
      go_ret
      exact ⟨by rw [← hR'.out, ok_all (s := ⟨p, g, h, r⟩) (k1h.out (by omega)) (k2h.out (by omega)) (k3h.out (by omega)) (k4h.out (by omega))]; rfl, Tr⟩
    · by_cases h1 : p < 0
      · have g1 := decide_eq_true h1
        go_wp2_with fail
        go_ret
        exact ⟨by rw [← hR'.out, ok_none (s := ⟨p, g, h, r⟩) (.inl (ok1_1 h1))]; rfl, Tr⟩
      · have g1 := decide_eq_false h1
        by_cases h2 : p > 1099511627776
        · have g2 := decide_eq_true h2
          go_wp2_with fail
          go_ret
          exact ⟨by rw [← hR'.out, ok_none (s := ⟨p, g, h, r⟩) (.inl (ok1_2 h2))]; rfl, Tr⟩
        · have g2 := decide_eq_false h2
          go_wp2_with fail
          go_roundw
          case rel => exact ⟨1, by omega, rfl, Tr, fun _ => ok1_3 h1 h2, by omega, by omega, by omega⟩
          case measure => simp [intOf]
    · by_cases h1 : g < 0
      · have g1 := decide_eq_true h1
        go_wp2_with fail
        go_ret
        exact ⟨by rw [← hR'.out, ok_none (s := ⟨p, g, h, r⟩) (.inr (.inl (ok1_1 h1)))]; rfl, Tr⟩
      · have g1 := decide_eq_false h1
        by_cases h2 : g > 1099511627776
        · have g2 := decide_eq_true h2
          go_wp2_with fail
          go_ret
          exact ⟨by rw [← hR'.out, ok_none (s := ⟨p, g, h, r⟩) (.inr (.inl (ok1_2 h2)))]; rfl, Tr⟩
        · have g2 := decide_eq_false h2
          go_wp2_with fail
          go_roundw
          case rel => exact ⟨2, by omega, rfl, Tr, fun _ => k1h.out (by omega), fun _ => ok1_3 h1 h2, by omega, by omega⟩
          case measure => simp [intOf]
    · by_cases h1 : h < 0
      · have g1 := decide_eq_true h1
        go_wp2_with fail
        go_ret
        exact ⟨by rw [← hR'.out, ok_none (s := ⟨p, g, h, r⟩) (.inr (.inr (.inl (ok1_1 h1))))]; rfl, Tr⟩
      · have g1 := decide_eq_false h1
        by_cases h2 : h > 1099511627776
        · have g2 := decide_eq_true h2
          go_wp2_with fail
          go_ret
          exact ⟨by rw [← hR'.out, ok_none (s := ⟨p, g, h, r⟩) (.inr (.inr (.inl (ok1_2 h2))))]; rfl, Tr⟩
        · have g2 := decide_eq_false h2
          go_wp2_with fail
          go_roundw
          case rel => exact ⟨3, by omega, rfl, Tr, fun _ => k1h.out (by omega), fun _ => k2h.out (by omega), fun _ => ok1_3 h1 h2, by omega⟩
          case measure => simp [intOf]
    · by_cases h1 : r < 0
      · have g1 := decide_eq_true h1
        go_wp2_with fail
        go_ret
        exact ⟨by rw [← hR'.out, ok_none (s := ⟨p, g, h, r⟩) (.inr (.inr (.inr (ok1_1 h1))))]; rfl, Tr⟩
      · have g1 := decide_eq_false h1
        by_cases h2 : r > 1099511627776
        · have g2 := decide_eq_true h2
          go_wp2_with fail
          go_ret
          exact ⟨by rw [← hR'.out, ok_none (s := ⟨p, g, h, r⟩) (.inr (.inr (.inr (ok1_2 h2))))]; rfl, Tr⟩
        · have g2 := decide_eq_false h2
          go_wp2_with fail
          go_roundw
          case rel => exact ⟨4, by omega, rfl, Tr, fun _ => k1h.out (by omega), fun _ => k2h.out (by omega), fun _ => k3h.out (by omega), fun _ => ok1_3 h1 h2⟩
          case measure => simp [intOf]
theorem dright_is (w : World) (s : V4) : Calls Try.prog 30 #[.agg #[.int .i64 s.p, .int .i64 s.g, .int .i64 s.h, .int .i64 s.r]] w fun e w' => e = .returned (.bool s.ok) ∧ Turns [] w w' := by
  obtain ⟨p, g, h, r⟩ := s
  have T0 := (Turns.refl [] w).alloc (.cells #[.int .i64 p, .int .i64 g, .int .i64 h, .int .i64 r] 47)
  have T1 := T0.alloc (.cells #[.int .i64 p, .int .i64 g, .int .i64 h, .int .i64 r] 3)
  have B1 := Blk.new (w.alloc (.cells #[.int .i64 p, .int .i64 g, .int .i64 h, .int .i64 r] 47)) #[.int .i64 p, .int .i64 g, .int .i64 h, .int .i64 r] 3
  rw [World.size_alloc] at B1
  obtain ⟨R, hR⟩ : ∃ R, (⟨p, g, h, r⟩ : V4).ok = R := ⟨_, rfl⟩
  rw [hR]
  have hR' : Hid _ := hR
  clear hR
  dsimp only
  go_enter Try.func30, Try.ntmps30
  go_wp2_with fail
  go_loopw [4] (fun v14 wr => ∃ (k : Nat), k ≤ 4 ∧ v14 = .int .i64 k ∧ Turns [] w wr ∧ Blk wr (w.heap.size + 1) #[.int .i64 p, .int .i64 g, .int .i64 h, .int .i64 r] 3 ∧ (1 ≤ k → ok1 p = true) ∧ (2 ≤ k → ok1 g = true) ∧ (3 ≤ k → ok1 h = true) ∧ (4 ≤ k → ok1 r = true)) (fun v14 _ => 4 - (intOf v14).toNat)
  case atStart => exact ⟨0, by omega, rfl, T1, B1, by omega, by omega, by omega, by omega⟩
  case round =>
    obtain ⟨k, hk, rfl, Tr, B, k1, k2, k3, k4⟩ := hrel
    have k1h : Hid _ := k1
    have k2h : Hid _ := k2
    have k3h : Hid _ := k3
    have k4h : Hid _ := k4
    clear k1 k2 k3 k4
    have c0 : wr.cell? ⟨w.heap.size + 1, 0, none⟩ = some _ := B.cell 0
    have c1 : wr.cell? ⟨w.heap.size + 1, 1, none⟩ = some _ := B.cell 1
    have c2 : wr.cell? ⟨w.heap.size + 1, 2, none⟩ = some _ := B.cell 2
    have c3 : wr.cell? ⟨w.heap.size + 1, 3, none⟩ = some _ := B.cell 3
    rcases (by omega : k = 4 ∨ k = 0 ∨ k = 1 ∨ k = 2 ∨ k = 3) with rfl | rfl | rfl | rfl | rfl
    · go_wp2_with fail
      go_ret
      exact ⟨by rw [← hR'.out, ok_all (s := ⟨p, g, h, r⟩) (k1h.out (by omega)) (k2h.out (by omega)) (k3h.out (by omega)) (k4h.out (by omega))]; rfl, Tr⟩
    · by_cases h1 : p < 0
      · have g1 := decide_eq_true h1
        go_wp2_with fail
        go_ret
        exact ⟨by rw [← hR'.out, ok_none (s := ⟨p, g, h, r⟩) (.inl (ok1_1 h1))]; rfl, Tr⟩
      · have g1 := decide_eq_false h1
        by_cases h2 : p > 1099511627776
        · have g2 := decide_eq_true h2
          go_wp2_with fail
          go_ret
          exact ⟨by rw [← hR'.out, ok_none (s := ⟨p, g, h, r⟩) (.inl (ok1_2 h2))]; rfl, Tr⟩
        · have g2 := decide_eq_false h2
          go_wp2_with fail
          go_roundw
          case rel => exact ⟨1, by omega, rfl, Tr, B, fun _ => ok1_3 h1 h2, by omega, by omega, by omega⟩
          case measure => simp [intOf]
    · by_cases h1 : g < 0
      · have g1 := decide_eq_true h1
        go_wp2_with fail
        go_ret
        exact ⟨by rw [← hR'.out, ok_none (s := ⟨p, g, h, r⟩) (.inr (.inl (ok1_1 h1)))]; rfl, Tr⟩
      · have g1 := decide_eq_false h1
        by_cases h2 : g > 1099511627776
        · have g2 := decide_eq_true h2
          go_wp2_with fail
          go_ret
          exact ⟨by rw [← hR'.out, ok_none (s := ⟨p, g, h, r⟩) (.inr (.inl (ok1_2 h2)))]; rfl, Tr⟩
        · have g2 := decide_eq_false h2
          go_wp2_with fail
          go_roundw
          case rel => exact ⟨2, by omega, rfl, Tr, B, fun _ => k1h.out (by omega), fun _ => ok1_3 h1 h2, by omega, by omega⟩
          case measure => simp [intOf]
    · by_cases h1 : h < 0
      · have g1 := decide_eq_true h1
        go_wp2_with fail
        go_ret
        exact ⟨by rw [← hR'.out, ok_none (s := ⟨p, g, h, r⟩) (.inr (.inr (.inl (ok1_1 h1))))]; rfl, Tr⟩
      · have g1 := decide_eq_false h1
        by_cases h2 : h > 1099511627776
        · have g2 := decide_eq_true h2
          go_wp2_with fail
          go_ret
          exact ⟨by rw [← hR'.out, ok_none (s := ⟨p, g, h, r⟩) (.inr (.inr (.inl (ok1_2 h2))))]; rfl, Tr⟩
        · have g2 := decide_eq_false h2
          go_wp2_with fail
          go_roundw
          case rel => exact ⟨3, by omega, rfl, Tr, B, fun _ => k1h.out (by omega), fun _ => k2h.out (by omega), fun _ => ok1_3 h1 h2, by omega⟩
          case measure => simp [intOf]
    · by_cases h1 : r < 0
      · have g1 := decide_eq_true h1
        go_wp2_with fail
        go_ret
        exact ⟨by rw [← hR'.out, ok_none (s := ⟨p, g, h, r⟩) (.inr (.inr (.inr (ok1_1 h1))))]; rfl, Tr⟩
      · have g1 := decide_eq_false h1
        by_cases h2 : r > 1099511627776
        · have g2 := decide_eq_true h2
          go_wp2_with fail
          go_ret
          exact ⟨by rw [← hR'.out, ok_none (s := ⟨p, g, h, r⟩) (.inr (.inr (.inr (ok1_2 h2))))]; rfl, Tr⟩
        · have g2 := decide_eq_false h2
          go_wp2_with fail
          go_roundw
          case rel => exact ⟨4, by omega, rfl, Tr, B, fun _ => k1h.out (by omega), fun _ => k2h.out (by omega), fun _ => k3h.out (by omega), fun _ => ok1_3 h1 h2⟩
          case measure => simp [intOf]
end Go.Proofs.Ytknmjmhiejmjdaa.Va
