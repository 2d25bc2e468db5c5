/- The walks of the document's Take, and of the law's small functions. -/
import Derived.Test.YthnegmpdadkkcaaEo
set_option linter.unusedVariables false
set_option linter.unusedSimpArgs false
set_option maxRecDepth 100000
namespace Go.Proofs.Ythnegmpdadkkcaa.Ep
open Go.RowKit Go.MapKept Hm Hs Hr Hc Hd Hf Hg Hv Rg Cn El Em En Eo
set_option maxHeartbeats 2000000 in
theorem dtake_raise (w : World) (b : Nat) (e : El) (g : Int) (t : Nat) (h : IsE 75 w b e) (hv : e.ok) (hg : e.P < g ∧ g ≤ 1099511627776) (ht : t < 18446744073709551616) :
    Calls Try.prog 93 #[.pointer (some ⟨b, 0, none⟩), .int .i64 g, .int .u64 t] w fun x w' => x = .returned (resV true g (t ||| 2 ^ e.I) false) ∧ IsE 75 w' b (El.up e g) ∧ Turns [b] w w' := by
  have hlt := Blk.lt h
  have hi64 : e.I < 64 := by have := hv.n; have := hv.i; omega
  have hp := hv.p
  have hW := rwith_yes t e.I ht hi64
  obtain ⟨Q, hQ⟩ : ∃ Q, t ||| 2 ^ e.I = Q := ⟨_, rfl⟩
  rw [hQ] at hW ⊢
  have hI := in17_yes g (by omega)
  have T0 := (Turns.refl [b] w).alloc (.cells #[.bool false, .int .i64 0, .int .u64 0, .bool false] 160)
  have h0 := Blk.alloc h (.cells #[.bool false, .int .i64 0, .int .u64 0, .bool false] 160)
  have r0 := Blk.new w #[.bool false, .int .i64 0, .int .u64 0, .bool false] 160
  have hWh : Hid _ := hW
  have hIh : Hid _ := hI
  have g1 : decide (g < 1) = false := decide_eq_false (by omega)
  have g2 : decide (g < e.P) = false := decide_eq_false (by omega)
  have g3 : decide (g > e.P) = true := decide_eq_true (by omega)
  clear hW hI h hv hg ht hQ hp
  unfold resV
  go_enter Try.func93, Try.ntmps93
  go_wp2_with fail
  go_at_call 89
  refine Calls.mono (hIh.out _) ?_
  rintro e w2 ⟨rfl, t2⟩
  have h2 : IsE 75 w2 b e := Blk.turns h0 t2 (by simp)
  have r2 := r0.turns t2 (by simp)
  have T2 := T0.trans (t2.mono (by simp))
  clear h0 r0 T0 t2 hIh
  have e1 : w2.cell? ⟨b, 1, none⟩ = some (.int .i64 e.I) := Blk.cell h2 1
  have e2 : w2.cell? ⟨b, 2, none⟩ = some (.int .i64 e.P) := Blk.cell h2 2
  have e4 : w2.cell? ⟨b, 4, none⟩ = some (.int .i64 e.B) := Blk.cell h2 4
  have f2 := Blk.frozen h2 2
  have f4 := Blk.frozen h2 4
  obtain ⟨h3, t3⟩ := IsE.up h2 g
  have r3 := (r2.far (p := ⟨b, 2, none⟩) (by simp; omega) (.int .i64 g)).far (p := ⟨b, 4, none⟩) (by simp; omega) (.int .i64 0)
  have T3 := T2.trans t3
  clear h2 r2 T2 t3
  go_wp2_with fail
  go_at_call 128
  refine Calls.mono (hWh.out _) ?_
  rintro e w4 ⟨rfl, t4⟩
  have h4 := Blk.turns h3 t4 (by simp)
  have r4 := r3.turns t4 (by simp)
  have T4 := T3.trans (t4.mono (by simp))
  clear h3 r3 T3 t4 hWh e1 e2 e4 f2 f4
  have hne3 : b ≠ w.heap.size := by omega
  have g0 := r4.frozen 0
  have g1 := r4.frozen 1
  have g2 := r4.frozen 2
  have g3 := r4.frozen 3
  have m0 : w4.cell? ⟨w.heap.size, 0, none⟩ = some (.bool false) := r4.cell 0
  have m1 : w4.cell? ⟨w.heap.size, 1, none⟩ = some (.int .i64 0) := r4.cell 1
  have m2 : w4.cell? ⟨w.heap.size, 2, none⟩ = some (.int .u64 0) := r4.cell 2
  have m3 : w4.cell? ⟨w.heap.size, 3, none⟩ = some (.bool false) := r4.cell 3
  go_wp2_with fail
  have rF := (((r4.set 0 (.bool true)).set 1 (.int .i64 g)).set 2 (.int .u64 Q)).set 3 (.bool false)
  have hF := (((h4.far (p := ⟨w.heap.size, 0, none⟩) hne3 (.bool true)).far (p := ⟨w.heap.size, 1, none⟩) hne3 (.int .i64 g)).far (p := ⟨w.heap.size, 2, none⟩) hne3 (.int .u64 Q)).far (p := ⟨w.heap.size, 3, none⟩) hne3 (.bool false)
  have TF := (((T4.setCell (p := ⟨w.heap.size, 0, none⟩) (by simp) (.bool true)).setCell (p := ⟨w.heap.size, 1, none⟩) (by simp) (.int .i64 g)).setCell (p := ⟨w.heap.size, 2, none⟩) (by simp) (.int .u64 Q)).setCell (p := ⟨w.heap.size, 3, none⟩) (by simp) (.bool false)
  refine bodyPost_ret (res_one rfl (.cell w.heap.size _ _ _ rfl rF Try.underlying160 rfl (by kernel_rfl) .nil)) rfl ?_
  exact ⟨rfl, hF, TF⟩
/-- no answer, of whatever is told -/
theorem dtake_small (w : World) (b : Nat) (g : Int) (t : Nat) (hg : g < 1) :
    Calls Try.prog 93 #[.pointer (some ⟨b, 0, none⟩), .int .i64 g, .int .u64 t] w fun x w' => x = .returned (resV false 0 0 false) ∧ Turns [] w w' := by
  have T0 := (Turns.refl [] w).alloc (.cells #[.bool false, .int .i64 0, .int .u64 0, .bool false] 160)
  have r0 := Blk.new w #[.bool false, .int .i64 0, .int .u64 0, .bool false] 160
  have g1 := decide_eq_true hg
  clear hg
  unfold resV
  go_enter Try.func93, Try.ntmps93
  go_wp2_with fail
  refine bodyPost_ret (res_one rfl (.cell w.heap.size _ _ _ rfl r0 Try.underlying160 rfl (by kernel_rfl) .nil)) rfl ?_
  exact ⟨rfl, T0⟩
set_option maxHeartbeats 2000000 in
theorem dtake_none (w : World) (b : Nat) (e : El) (g : Int) (t : Nat) (h : IsE 75 w b e) (hv : e.ok) (hg : ¬ (e.P < g ∧ g ≤ 1099511627776)) (hb : g < 1 ∨ g ≠ e.B) :
    Calls Try.prog 93 #[.pointer (some ⟨b, 0, none⟩), .int .i64 g, .int .u64 t] w fun x w' => x = .returned (resV false 0 0 false) ∧ Turns [] w w' := by
  by_cases h1 : g < 1
  · exact dtake_small w b g t h1
  · have hp := hv.p
    have g1 := decide_eq_false h1
    have hlt := Blk.lt h
    have T0 := (Turns.refl [] w).alloc (.cells #[.bool false, .int .i64 0, .int .u64 0, .bool false] 160)
    have h0 := Blk.alloc h (.cells #[.bool false, .int .i64 0, .int .u64 0, .bool false] 160)
    have r0 := Blk.new w #[.bool false, .int .i64 0, .int .u64 0, .bool false] 160
    by_cases h2 : g ≤ 1099511627776
    · have hI := in17_yes g (by omega)
      have hIh : Hid _ := hI
      by_cases h3 : g < e.P
      · have g3 := decide_eq_true h3
        clear hI hv hg hb hp h h1 h2 h3
        unfold resV
        go_enter Try.func93, Try.ntmps93
        go_wp2_with fail
        go_at_call 89
        refine Calls.mono (hIh.out _) ?_
        rintro e w2 ⟨rfl, t2⟩
        have h2 : IsE 75 w2 b e := Blk.turns h0 t2 (by simp)
        have r2 := r0.turns t2 (by simp)
        have T2 := T0.trans t2
        clear h0 r0 T0 t2 hIh
        have e2 : w2.cell? ⟨b, 2, none⟩ = some (.int .i64 e.P) := Blk.cell h2 2
        have g0 := r2.frozen 0
        have g1 := r2.frozen 1
        have g2 := r2.frozen 2
        have g3 := r2.frozen 3
        have m0 : w2.cell? ⟨w.heap.size, 0, none⟩ = some (.bool false) := r2.cell 0
        have m1 : w2.cell? ⟨w.heap.size, 1, none⟩ = some (.int .i64 0) := r2.cell 1
        have m2 : w2.cell? ⟨w.heap.size, 2, none⟩ = some (.int .u64 0) := r2.cell 2
        have m3 : w2.cell? ⟨w.heap.size, 3, none⟩ = some (.bool false) := r2.cell 3
        go_wp2_with fail
        have rF := (((r2.set 0 (.bool false)).set 1 (.int .i64 0)).set 2 (.int .u64 0)).set 3 (.bool false)
        have TF := (((T2.setCell (p := ⟨w.heap.size, 0, none⟩) (by simp) (.bool false)).setCell (p := ⟨w.heap.size, 1, none⟩) (by simp) (.int .i64 0)).setCell (p := ⟨w.heap.size, 2, none⟩) (by simp) (.int .u64 0)).setCell (p := ⟨w.heap.size, 3, none⟩) (by simp) (.bool false)
        refine bodyPost_ret (res_one rfl (.cell w.heap.size _ _ _ rfl rF Try.underlying160 rfl (by kernel_rfl) .nil)) rfl ?_
        exact ⟨rfl, TF⟩
      · have g3 := decide_eq_false h3
        have g4 : decide (g > e.P) = false := decide_eq_false (by omega)
        have g5 : (e.B != g) = true := by simp; omega
        clear hI hv hg hb hp h h1 h2 h3
        unfold resV
        go_enter Try.func93, Try.ntmps93
        go_wp2_with fail
        go_at_call 89
        refine Calls.mono (hIh.out _) ?_
        rintro e w2 ⟨rfl, t2⟩
        have h2 : IsE 75 w2 b e := Blk.turns h0 t2 (by simp)
        have r2 := r0.turns t2 (by simp)
        have T2 := T0.trans t2
        clear h0 r0 T0 t2 hIh
        have e2 : w2.cell? ⟨b, 2, none⟩ = some (.int .i64 e.P) := Blk.cell h2 2
        have e4 : w2.cell? ⟨b, 4, none⟩ = some (.int .i64 e.B) := Blk.cell h2 4
        have g0 := r2.frozen 0
        have g1 := r2.frozen 1
        have g2 := r2.frozen 2
        have g3 := r2.frozen 3
        have m0 : w2.cell? ⟨w.heap.size, 0, none⟩ = some (.bool false) := r2.cell 0
        have m1 : w2.cell? ⟨w.heap.size, 1, none⟩ = some (.int .i64 0) := r2.cell 1
        have m2 : w2.cell? ⟨w.heap.size, 2, none⟩ = some (.int .u64 0) := r2.cell 2
        have m3 : w2.cell? ⟨w.heap.size, 3, none⟩ = some (.bool false) := r2.cell 3
        go_wp2_with fail
        have rF := (((r2.set 0 (.bool false)).set 1 (.int .i64 0)).set 2 (.int .u64 0)).set 3 (.bool false)
        have TF := (((T2.setCell (p := ⟨w.heap.size, 0, none⟩) (by simp) (.bool false)).setCell (p := ⟨w.heap.size, 1, none⟩) (by simp) (.int .i64 0)).setCell (p := ⟨w.heap.size, 2, none⟩) (by simp) (.int .u64 0)).setCell (p := ⟨w.heap.size, 3, none⟩) (by simp) (.bool false)
        refine bodyPost_ret (res_one rfl (.cell w.heap.size _ _ _ rfl rF Try.underlying160 rfl (by kernel_rfl) .nil)) rfl ?_
        exact ⟨rfl, TF⟩
    · have hI := in17_no g (by omega)
      have hIh : Hid _ := hI
      clear hI hv hg hb hp h h1 h2
      unfold resV
      go_enter Try.func93, Try.ntmps93
      go_wp2_with fail
      go_at_call 89
      refine Calls.mono (hIh.out _) ?_
      rintro e w2 ⟨rfl, t2⟩
      have r2 := r0.turns t2 (by simp)
      have T2 := T0.trans t2
      clear h0 r0 T0 t2 hIh
      have g0 := r2.frozen 0
      have g1 := r2.frozen 1
      have g2 := r2.frozen 2
      have g3 := r2.frozen 3
      have m0 : w2.cell? ⟨w.heap.size, 0, none⟩ = some (.bool false) := r2.cell 0
      have m1 : w2.cell? ⟨w.heap.size, 1, none⟩ = some (.int .i64 0) := r2.cell 1
      have m2 : w2.cell? ⟨w.heap.size, 2, none⟩ = some (.int .u64 0) := r2.cell 2
      have m3 : w2.cell? ⟨w.heap.size, 3, none⟩ = some (.bool false) := r2.cell 3
      go_wp2_with fail
      have rF := (((r2.set 0 (.bool false)).set 1 (.int .i64 0)).set 2 (.int .u64 0)).set 3 (.bool false)
      have TF := (((T2.setCell (p := ⟨w.heap.size, 0, none⟩) (by simp) (.bool false)).setCell (p := ⟨w.heap.size, 1, none⟩) (by simp) (.int .i64 0)).setCell (p := ⟨w.heap.size, 2, none⟩) (by simp) (.int .u64 0)).setCell (p := ⟨w.heap.size, 3, none⟩) (by simp) (.bool false)
      refine bodyPost_ret (res_one rfl (.cell w.heap.size _ _ _ rfl rF Try.underlying160 rfl (by kernel_rfl) .nil)) rfl ?_
      exact ⟨rfl, TF⟩
set_option maxHeartbeats 2000000 in
theorem dtake_count (w : World) (b : Nat) (e : El) (g : Int) (t : Nat) (h : IsE 75 w b e) (hv : e.ok) (hg : 1 ≤ g) (hb : g = e.B) (ht : t < 18446744073709551616) :
    Calls Try.prog 93 #[.pointer (some ⟨b, 0, none⟩), .int .i64 g, .int .u64 t] w fun x w' => x = .returned (resV false e.P (e.S ||| t) (El.more e t).win) ∧ IsE 75 w' b (El.more e t).won ∧ Turns [b] w w' := by
  have hlt := Blk.lt h
  have hgP : g = e.P := by rcases hv.b with h1 | h1 <;> omega
  have hp := hv.p
  have hI := in17_yes g (by omega)
  have hok := more_ok hv ht
  have hRes := fun w2 (k : IsE 75 w2 b (El.more e t)) => dwins_is w2 b (El.more e t) k hok
  obtain ⟨won, hwon⟩ : ∃ won, (El.more e t).win = won := ⟨_, rfl⟩
  obtain ⟨fin, hfin⟩ : ∃ fin, (El.more e t).won = fin := ⟨_, rfl⟩
  have hfS : fin.S = e.S ||| t := by rw [← hfin]; rfl
  rw [hwon, hfin] at hRes ⊢
  obtain ⟨Q, hQ⟩ : ∃ Q, e.S ||| t = Q := ⟨_, rfl⟩
  have hor : bits .or .u64 (e.S : Int) (t : Int) = (Q : Int) := by rw [← hQ]; exact u64_or_nat e.S t hv.s ht
  have hcs : (El.more e t).cells = #[.int .i64 e.N, .int .i64 e.I, .int .i64 e.P, .int .i64 e.R, .int .i64 e.B, .int .u64 Q] := by rw [← hQ]; rfl
  rw [hQ] at hfS ⊢
  rw [← hgP]
  unfold resV
  have hcsh : Hid _ := hcs
  have hResh : Hid _ := hRes
  have hfSh : Hid _ := hfS
  have hIh : Hid _ := hI
  have T0 := (Turns.refl [b] w).alloc (.cells #[.bool false, .int .i64 0, .int .u64 0, .bool false] 160)
  have h0 := Blk.alloc h (.cells #[.bool false, .int .i64 0, .int .u64 0, .bool false] 160)
  have r0 := Blk.new w #[.bool false, .int .i64 0, .int .u64 0, .bool false] 160
  have g1 : decide (g < 1) = false := decide_eq_false (by omega)
  have g2 : decide (g < e.P) = false := decide_eq_false (by omega)
  have g3 : decide (g > e.P) = false := decide_eq_false (by omega)
  have g4 : (e.B != g) = false := by simp; omega
  clear h hv hg hb hRes hcs hok hwon hfin hQ hgP ht hfS hI hp
  go_enter Try.func93, Try.ntmps93
  go_wp2_with fail
  go_at_call 89
  refine Calls.mono (hIh.out _) ?_
  rintro e w2 ⟨rfl, t2⟩
  have h2 : IsE 75 w2 b e := Blk.turns h0 t2 (by simp)
  have r2 := r0.turns t2 (by simp)
  have T2 := T0.trans (t2.mono (by simp))
  clear h0 r0 T0 t2 hIh
  have d2 : w2.cell? ⟨b, 2, none⟩ = some (.int .i64 e.P) := Blk.cell h2 2
  have d4 : w2.cell? ⟨b, 4, none⟩ = some (.int .i64 e.B) := Blk.cell h2 4
  have d5 : w2.cell? ⟨b, 5, none⟩ = some (.int .u64 e.S) := Blk.cell h2 5
  have f5 := Blk.frozen h2 5
  have h3 : Blk (w2.setCell ⟨b, 5, none⟩ (.int .u64 Q)) b #[.int .i64 e.N, .int .i64 e.I, .int .i64 e.P, .int .i64 e.R, .int .i64 e.B, .int .u64 Q] 75 := Blk.set h2 5 (.int .u64 Q)
  rw [← hcsh.out] at h3
  have T3 := T2.setCell (p := ⟨b, 5, none⟩) (by simp) (.int .u64 Q)
  have r3 := r2.far (p := ⟨b, 5, none⟩) (by simp; omega) (.int .u64 Q)
  clear h2 T2 r2 hcsh
  go_wp2_with fail
  go_at_call 129
  refine Calls.mono (hResh.out _ h3) ?_
  rintro e w4 ⟨rfl, h4, t4⟩
  have r4 := r3.turns t4 (by simp; omega)
  have T4 := T3.trans t4
  clear h3 r3 T3 t4 hResh d2 d4 d5 f5
  have d5 : w4.cell? ⟨b, 5, none⟩ = some (.int .u64 Q) := by have h5 : w4.cell? ⟨b, 5, none⟩ = some (.int .u64 fin.S) := Blk.cell h4 5; rw [hfSh.out] at h5; exact h5
  clear hfSh
  have hne3 : b ≠ w.heap.size := by omega
  have g0 := r4.frozen 0
  have g1 := r4.frozen 1
  have g2 := r4.frozen 2
  have g3 := r4.frozen 3
  have m0 : w4.cell? ⟨w.heap.size, 0, none⟩ = some (.bool false) := r4.cell 0
  have m1 : w4.cell? ⟨w.heap.size, 1, none⟩ = some (.int .i64 0) := r4.cell 1
  have m2 : w4.cell? ⟨w.heap.size, 2, none⟩ = some (.int .u64 0) := r4.cell 2
  have m3 : w4.cell? ⟨w.heap.size, 3, none⟩ = some (.bool false) := r4.cell 3
  go_wp2_with fail
  have rF := (((r4.set 0 (.bool false)).set 1 (.int .i64 g)).set 2 (.int .u64 Q)).set 3 (.bool won)
  have hF := (((Blk.far h4 (p := ⟨w.heap.size, 0, none⟩) hne3 (.bool false)).far (p := ⟨w.heap.size, 1, none⟩) hne3 (.int .i64 g)).far (p := ⟨w.heap.size, 2, none⟩) hne3 (.int .u64 Q)).far (p := ⟨w.heap.size, 3, none⟩) hne3 (.bool won)
  have TF := (((T4.setCell (p := ⟨w.heap.size, 0, none⟩) (by simp) (.bool false)).setCell (p := ⟨w.heap.size, 1, none⟩) (by simp) (.int .i64 g)).setCell (p := ⟨w.heap.size, 2, none⟩) (by simp) (.int .u64 Q)).setCell (p := ⟨w.heap.size, 3, none⟩) (by simp) (.bool won)
  refine bodyPost_ret (res_one rfl (.cell w.heap.size _ _ _ rfl rF Try.underlying160 rfl (by kernel_rfl) .nil)) rfl ?_
  exact ⟨rfl, hF, TF⟩
/-- a result, as the document has it -/
theorem of_is (s : Bool) (g : Int) (t : Nat) (n : Bool) (w : World) : Calls Try.prog 91 #[resV s g t n] w fun x w' => x = .returned (resV s g t n) ∧ Turns [] w w' := by
  unfold resV
  have T0 := ((Turns.refl [] w).alloc (.cells #[.bool s, .int .i64 g, .int .u64 t, .bool n] 77)).alloc (.cells #[.bool s, .int .i64 g, .int .u64 t, .bool n] 160)
  have r0 := Blk.new (w.alloc (.cells #[.bool s, .int .i64 g, .int .u64 t, .bool n] 77)) #[.bool s, .int .i64 g, .int .u64 t, .bool n] 160
  rw [World.size_alloc] at r0
  go_enter Try.func91, Try.ntmps91
  go_wp2_with fail
  refine bodyPost_ret (res_one rfl (.cell (w.heap.size + 1) _ _ _ rfl r0 Try.underlying160 rfl (by kernel_rfl) .nil)) rfl ?_
  exact ⟨rfl, T0⟩
end Go.Proofs.Ythnegmpdadkkcaa.Ep
