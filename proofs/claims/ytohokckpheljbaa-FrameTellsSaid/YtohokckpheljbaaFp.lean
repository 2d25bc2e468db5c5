/- annonaref05's Right. -/
import Derived.Test.YtohokckpheljbaaFi
import Derived.Test.YtohokckpheljbaaFj
set_option linter.unusedVariables false
set_option linter.unusedSimpArgs false
set_option maxRecDepth 100000
namespace Go.Proofs.Ytohokckpheljbaa.Fp
open Go.RowKit Go.MapKept Go.Shelf Hm Hs Hf Hx Hy Hv Fa Fb Ff Fg Fi Fj
theorem kindB_of {k : Int} {v0 v1 v2 v3 : Bool} : (k = 0 → kindB k v0 v1 v2 v3 = v0) ∧ (k = 1 → kindB k v0 v1 v2 v3 = v1) ∧ (k = 2 → kindB k v0 v1 v2 v3 = v2) ∧ (k = 3 → kindB k v0 v1 v2 v3 = v3) ∧ (¬ k = 0 → ¬ k = 1 → ¬ k = 2 → ¬ k = 3 → kindB k v0 v1 v2 v3 = false) := by
  unfold kindB
  refine ⟨fun h => by simp [h], fun h => by simp [h], fun h => by simp [h], fun h => by simp [h], fun h0 h1 h2 h3 => by simp [h0, h1, h2, h3]⟩
set_option maxHeartbeats 8000000 in
theorem rright_is (w : World) (f : Fr) (sv rv : Value) (h : TokR w f.tok sv rv) : Calls Try.prog 22 #[frv f sv rv] w fun e w' => e = .returned (.bool (rightB f)) ∧ Turns [] w w' := by
  have T0 := (Turns.refl [] w).alloc (.cells (frc f sv rv) 41)
  have B0 := Blk.new w (frc f sv rv) 41
  have I1 := Lib.hid (fun w => rin_is f.frm 0 63 w)
  have I2 := Lib.hid (fun w => rin_is f.to 0 63 w)
  have I3 := Lib.hid (fun w => rin_is f.gen 1 1099511627776 w)
  have I4 := Lib.hid (fun w => rin_is f.hop 0 1099511627776 w)
  have I5 := Lib.hid (fun W (T : Turns [] w W) => rnone_is W f.tok sv rv (h.turns T))
  have I6 := Lib.hid (fun W (T : Turns [] w W) => rtoken_is W f.tok sv rv (h.turns T))
  obtain ⟨A1, c1, rfl, _⟩ := rform h.st
  obtain ⟨A3, c3, rfl, _⟩ := h.rows.form
  obtain ⟨X, hX⟩ : ∃ X : Ending → World → Prop, X = fun e w' => e = .returned (.bool (rightB f)) ∧ Turns [] w w' := ⟨_, rfl⟩
  rw [← hX]
  obtain ⟨bf, hbf⟩ : ∃ b, inB f.frm 0 63 = b := ⟨_, rfl⟩
  obtain ⟨bo, hbo⟩ : ∃ b, inB f.to 0 63 = b := ⟨_, rfl⟩
  obtain ⟨be, hbe⟩ : ∃ b, decide (f.tok = Tok.zero) = b := ⟨_, rfl⟩
  obtain ⟨bg, hbg⟩ : ∃ b, inB f.gen 1 1099511627776 = b := ⟨_, rfl⟩
  obtain ⟨bh, hbh⟩ : ∃ b, inB f.hop 0 1099511627776 = b := ⟨_, rfl⟩
  obtain ⟨bt, hbt⟩ : ∃ b, tokenB f.tok = b := ⟨_, rfl⟩
  have hXh : Hid (∀ (b : Bool) (w' : World), b = (bf && (bo && kindB f.kind (((f.gen == 0) && ((f.hop == 0) && (f.bits == 0))) && bt) (be && (bg && (bh && (f.bits == 0)))) (be && (bg && (f.hop == 0))) (be && ((f.gen == 0) && ((f.hop == 0) && (f.bits == 0)))))) → Turns [] w w' → X (.returned (.bool b)) w') := Lib.hid (fun b w' h1 h2 => by
    rw [hX]
    refine ⟨?_, h2⟩
    unfold rightB bareB genB hopB
    rw [h1, hbf, hbo, hbe, hbg, hbh, hbt])
  rw [hbf] at I1
  rw [hbo] at I2
  rw [hbg] at I3
  rw [hbh] at I4
  rw [hbe] at I5
  rw [hbt] at I6
  obtain ⟨k0, k1, k2, k3, k4⟩ := @kindB_of f.kind (((f.gen == 0) && ((f.hop == 0) && (f.bits == 0))) && bt) (be && (bg && (bh && (f.bits == 0)))) (be && (bg && (f.hop == 0))) (be && ((f.gen == 0) && ((f.hop == 0) && (f.bits == 0))))
  have K0 := Lib.hid k0
  have K1 := Lib.hid k1
  have K2 := Lib.hid k2
  have K3 := Lib.hid k3
  have K4 := Lib.hid k4
  clear h hX hbf hbo hbe hbg hbh hbt k0 k1 k2 k3 k4
  unfold frv
  unfold tkv at I5 I6
  have x1 : World.cell? (w.alloc (.cells (frc f (.slice A1 f.tok.st.length c1) (.slice A3 f.tok.rows.length c3)) 41)) ⟨w.heap.size, 1, none⟩ = some _ := (B0).cell 1
  cases bf with
  | false =>
    go_enter Try.func22, Try.ntmps22
    go_wp2_with fail
    go_at_call 58
    refine Calls.mono (I1.out _) ?_
    rintro e w1 ⟨rfl, t1⟩
    have B1 := B0.turns t1 (by simp)
    have T1 := T0.trans t1
    clear x1 B0 T0
    have hX := hXh.out false _ rfl T1
    go_wp2_with fail
    exact hX
  | true =>
    cases bo with
    | false =>
      go_enter Try.func22, Try.ntmps22
      go_wp2_with fail
      go_at_call 58
      refine Calls.mono (I1.out _) ?_
      rintro e w1 ⟨rfl, t1⟩
      have B1 := B0.turns t1 (by simp)
      have T1 := T0.trans t1
      clear x1 B0 T0
      have x2 : World.cell? (w1) ⟨w.heap.size, 2, none⟩ = some _ := (B1).cell 2
      go_wp2_with fail
      go_at_call 58
      refine Calls.mono (I2.out _) ?_
      rintro e w2 ⟨rfl, t2⟩
      have B2 := B1.turns t2 (by simp)
      have T2 := T1.trans t2
      clear x2 B1 T1 t1 t2
      have hX := hXh.out false _ rfl T2
      go_wp2_with fail
      exact hX
    | true =>
      simp only [Bool.true_and] at hXh
      go_enter Try.func22, Try.ntmps22
      go_wp2_with fail
      go_at_call 58
      refine Calls.mono (I1.out _) ?_
      rintro e w1 ⟨rfl, t1⟩
      have B1 := B0.turns t1 (by simp)
      have T1 := T0.trans t1
      clear x1 B0 T0
      have x2 : World.cell? (w1) ⟨w.heap.size, 2, none⟩ = some _ := (B1).cell 2
      go_wp2_with fail
      go_at_call 58
      refine Calls.mono (I2.out _) ?_
      rintro e w2 ⟨rfl, t2⟩
      have B2 := B1.turns t2 (by simp)
      have T2 := T1.trans t2
      clear x2 B1 T1 t1 t2
      have x6 : World.cell? (w2) ⟨w.heap.size, 6, none⟩ = some _ := (B2).cell 6
      have x7 : World.cell? (w2) ⟨w.heap.size, 7, none⟩ = some _ := (B2).cell 7
      have x8 : World.cell? (w2) ⟨w.heap.size, 8, none⟩ = some _ := (B2).cell 8
      have x9 : World.cell? (w2) ⟨w.heap.size, 9, none⟩ = some _ := (B2).cell 9
      have x10 : World.cell? (w2) ⟨w.heap.size, 10, none⟩ = some _ := (B2).cell 10
      go_wp2_with fail
      go_at_call 59
      refine Calls.mono (I5.out _ T2) ?_
      rintro e w3 ⟨rfl, t3⟩
      have B3 := B2.turns t3 (by simp)
      have T3 := T2.trans t3
      clear x6 x7 x8 x9 x10 B2 T2 t3
      by_cases h0 : f.kind = 0
      · have g0 : (f.kind == 0) = true := by simpa using h0
        have hk := K0.out h0
        rw [hk] at hXh
        have x0 : World.cell? (w3) ⟨w.heap.size, 0, none⟩ = some _ := (B3).cell 0
        have x6 : World.cell? (w3) ⟨w.heap.size, 6, none⟩ = some _ := (B3).cell 6
        have x7 : World.cell? (w3) ⟨w.heap.size, 7, none⟩ = some _ := (B3).cell 7
        have x8 : World.cell? (w3) ⟨w.heap.size, 8, none⟩ = some _ := (B3).cell 8
        have x9 : World.cell? (w3) ⟨w.heap.size, 9, none⟩ = some _ := (B3).cell 9
        have x10 : World.cell? (w3) ⟨w.heap.size, 10, none⟩ = some _ := (B3).cell 10
        clear h0 hk
        go_wp2_with fail
        go_at_call 25
        refine Calls.mono (I6.out _ T3) ?_
        rintro e w4 ⟨rfl, t4⟩
        have B4 := B3.turns t4 (by simp)
        have T4 := T3.trans t4
        clear x0 x6 x7 x8 x9 x10
        have x3 : World.cell? (w4) ⟨w.heap.size, 3, none⟩ = some _ := (B4).cell 3
        have x4 : World.cell? (w4) ⟨w.heap.size, 4, none⟩ = some _ := (B4).cell 4
        have x5 : World.cell? (w4) ⟨w.heap.size, 5, none⟩ = some _ := (B4).cell 5
        cases bt with
        | false =>
          have hX := hXh.out false _ (by simp) T4
          go_wp2_with fail
          exact hX
        | true =>
          cases g1 : (f.gen == 0) with
          | false =>
            rw [g1] at hXh
            have hX := hXh.out false _ rfl T4
            go_wp2_with fail
            exact hX
          | true =>
            cases g2 : (f.hop == 0) with
            | false =>
              rw [g1, g2] at hXh
              have hX := hXh.out false _ rfl T4
              go_wp2_with fail
              exact hX
            | true =>
              rw [g1, g2] at hXh
              have hX := hXh.out (f.bits == 0) _ (by simp) T4
              go_wp2_with fail
              exact hX
      · have g0 : (f.kind == 0) = false := by simpa using h0
        by_cases h1 : f.kind = 1
        · have g0b : (f.kind == 1) = true := by simpa using h1
          have hk := K1.out h1
          rw [hk] at hXh
          have x0 : World.cell? (w3) ⟨w.heap.size, 0, none⟩ = some _ := (B3).cell 0
          have x3 : World.cell? (w3) ⟨w.heap.size, 3, none⟩ = some _ := (B3).cell 3
          clear h0 h1 hk
          cases be with
          | false =>
            have hX := hXh.out false _ rfl T3
            go_wp2_with fail
            exact hX
          | true =>
            go_wp2_with fail
            go_at_call 58
            refine Calls.mono (I3.out _) ?_
            rintro e w4 ⟨rfl, t4⟩
            have B4 := B3.turns t4 (by simp)
            have T4 := T3.trans t4
            clear x0 x3
            have x4 : World.cell? (w4) ⟨w.heap.size, 4, none⟩ = some _ := (B4).cell 4
            cases bg with
            | false =>
              have hX := hXh.out false _ rfl T4
              go_wp2_with fail
              exact hX
            | true =>
              go_wp2_with fail
              go_at_call 58
              refine Calls.mono (I4.out _) ?_
              rintro e w5 ⟨rfl, t5⟩
              have B5 := B4.turns t5 (by simp)
              have T5 := T4.trans t5
              clear x4
              have x5 : World.cell? (w5) ⟨w.heap.size, 5, none⟩ = some _ := (B5).cell 5
              cases bh with
              | false =>
                have hX := hXh.out false _ rfl T5
                go_wp2_with fail
                exact hX
              | true =>
                have hX := hXh.out (f.bits == 0) _ rfl T5
                go_wp2_with fail
                exact hX
        · have g0b : (f.kind == 1) = false := by simpa using h1
          by_cases h2 : f.kind = 2
          · have g0c : (f.kind == 2) = true := by simpa using h2
            have hk := K2.out h2
            rw [hk] at hXh
            have x0 : World.cell? (w3) ⟨w.heap.size, 0, none⟩ = some _ := (B3).cell 0
            have x3 : World.cell? (w3) ⟨w.heap.size, 3, none⟩ = some _ := (B3).cell 3
            clear h0 h1 h2 hk
            cases be with
            | false =>
              have hX := hXh.out false _ rfl T3
              go_wp2_with fail
              exact hX
            | true =>
              go_wp2_with fail
              go_at_call 58
              refine Calls.mono (I3.out _) ?_
              rintro e w4 ⟨rfl, t4⟩
              have B4 := B3.turns t4 (by simp)
              have T4 := T3.trans t4
              clear x0 x3
              have x4 : World.cell? (w4) ⟨w.heap.size, 4, none⟩ = some _ := (B4).cell 4
              cases bg with
              | false =>
                have hX := hXh.out false _ rfl T4
                go_wp2_with fail
                exact hX
              | true =>
                have hX := hXh.out (f.hop == 0) _ rfl T4
                go_wp2_with fail
                exact hX
          · have g0c : (f.kind == 2) = false := by simpa using h2
            by_cases h3 : f.kind = 3
            · have g0d : (f.kind == 3) = true := by simpa using h3
              have hk := K3.out h3
              rw [hk] at hXh
              have x0 : World.cell? (w3) ⟨w.heap.size, 0, none⟩ = some _ := (B3).cell 0
              have x3 : World.cell? (w3) ⟨w.heap.size, 3, none⟩ = some _ := (B3).cell 3
              have x4 : World.cell? (w3) ⟨w.heap.size, 4, none⟩ = some _ := (B3).cell 4
              have x5 : World.cell? (w3) ⟨w.heap.size, 5, none⟩ = some _ := (B3).cell 5
              clear h0 h1 h2 h3 hk
              cases be with
              | false =>
                have hX := hXh.out false _ rfl T3
                go_wp2_with fail
                exact hX
              | true =>
                cases g1 : (f.gen == 0) with
                | false =>
                  rw [g1] at hXh
                  have hX := hXh.out false _ rfl T3
                  go_wp2_with fail
                  exact hX
                | true =>
                  cases g2 : (f.hop == 0) with
                  | false =>
                    rw [g1, g2] at hXh
                    have hX := hXh.out false _ rfl T3
                    go_wp2_with fail
                    exact hX
                  | true =>
                    rw [g1, g2] at hXh
                    have hX := hXh.out (f.bits == 0) _ rfl T3
                    go_wp2_with fail
                    exact hX
            · have g0d : (f.kind == 3) = false := by simpa using h3
              have hk := K4.out h0 h1 h2 h3
              rw [hk] at hXh
              have x0 : World.cell? (w3) ⟨w.heap.size, 0, none⟩ = some _ := (B3).cell 0
              have hX := hXh.out false _ rfl T3
              clear h0 h1 h2 h3 hk
              go_wp2_with fail
              exact hX
end Go.Proofs.Ytohokckpheljbaa.Fp
