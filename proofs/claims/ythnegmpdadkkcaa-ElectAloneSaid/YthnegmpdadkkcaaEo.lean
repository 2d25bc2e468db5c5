/- The walks of elect's Take, and the document's. -/
import Derived.Test.YthnegmpdadkkcaaEn
set_option linter.unusedVariables false
set_option linter.unusedSimpArgs false
set_option maxRecDepth 100000
namespace Go.Proofs.Ythnegmpdadkkcaa.Eo
open Go.RowKit Go.MapKept Hm Hs Hr Hc Hd Hf Hg Hv Rg Cn El Em En
/-- bits are added -/
def El.more (e : El) (t : Nat) : El := { e with S := e.S ||| t }
theorem more_ok {e : El} {t : Nat} (h : e.ok) (ht : t < 18446744073709551616) : (El.more e t).ok :=
  ⟨h.n, h.i, h.p, h.r, h.b, Nat.or_lt_two_pow (n := 64) h.s ht⟩
theorem take_nil (g : Int) (t : Nat) (w : World) : Calls Try.prog 46 #[.pointer none, .int .i64 g, .int .u64 t] w fun x w' => x = .returned (resV false 0 0 false) ∧ Turns [] w w' := by
  have T0 := (Turns.refl [] w).alloc (.cells #[.bool false, .int .i64 0, .int .u64 0, .bool false] 77)
  have r0 := Blk.new w #[.bool false, .int .i64 0, .int .u64 0, .bool false] 77
  go_enter Try.func46, Try.ntmps46
  go_wp2_with fail
  refine bodyPost_ret (res_one rfl (.cell w.heap.size _ _ _ rfl r0 Try.underlying77 rfl (by kernel_rfl) .nil)) rfl ?_
  exact ⟨rfl, T0⟩
set_option maxHeartbeats 2000000 in
theorem take_raise (w : World) (b : Nat) (e : El) (g : Int) (t : Nat) (h : IsE 159 w b e) (hv : e.ok) (hg : e.P < g ∧ g ≤ 1099511627776) (ht : t < 18446744073709551616) :
    Calls Try.prog 46 #[.pointer (some ⟨b, 0, none⟩), .int .i64 g, .int .u64 t] w fun x w' => x = .returned (resV true g (t ||| 2 ^ e.I) false) ∧ IsE 159 w' b (El.up e g) ∧ Turns [b] w w' := by
  have hlt := Blk.lt h
  have hi64 : e.I < 64 := by have := hv.n; have := hv.i; omega
  have hW := with_yes t e.I ht hi64
  obtain ⟨Q, hQ⟩ : ∃ Q, t ||| 2 ^ e.I = Q := ⟨_, rfl⟩
  rw [hQ] at hW ⊢
  have hR := fun w2 (k : IsE 159 w2 b e) => raise_yes w2 b e g k hg
  have T0 := (Turns.refl [b] w).alloc (.cells #[.bool false, .int .i64 0, .int .u64 0, .bool false] 77)
  have h0 := Blk.alloc h (.cells #[.bool false, .int .i64 0, .int .u64 0, .bool false] 77)
  have r0 := Blk.new w #[.bool false, .int .i64 0, .int .u64 0, .bool false] 77
  have q0 := Blk.new (w.alloc (.cells #[.bool false, .int .i64 0, .int .u64 0, .bool false] 77)) #[.bool false, .int .i64 0, .int .u64 0, .bool false] 77
  have h1 := h0.alloc (.cells #[.bool false, .int .i64 0, .int .u64 0, .bool false] 77)
  have r1 := r0.alloc (.cells #[.bool false, .int .i64 0, .int .u64 0, .bool false] 77)
  have T1 := T0.alloc (.cells #[.bool false, .int .i64 0, .int .u64 0, .bool false] 77)
  rw [World.size_alloc] at q0
  have hWh : Hid _ := hW
  have hRh : Hid _ := hR
  clear hW hR h hv hg ht hQ h0 T0 r0
  unfold resV
  go_enter Try.func46, Try.ntmps46
  go_wp2_with fail
  go_at_call 47
  refine Calls.mono (hRh.out _ h1) ?_
  rintro e w2 ⟨rfl, h2, t2⟩
  have r2 := r1.turns t2 (by simp; omega)
  have q2 := q0.turns t2 (by simp; omega)
  have T2 := T1.trans t2
  clear h1 r1 q0 T1 t2 hRh
  have f0 := q2.frozen 0
  have f1 := q2.frozen 1
  have f2 := q2.frozen 2
  have f3 := q2.frozen 3
  have c0 : w2.cell? ⟨w.heap.size + 1, 0, none⟩ = some (.bool false) := q2.cell 0
  have c1 : w2.cell? ⟨w.heap.size + 1, 1, none⟩ = some (.int .i64 0) := q2.cell 1
  have c2 : w2.cell? ⟨w.heap.size + 1, 2, none⟩ = some (.int .u64 0) := q2.cell 2
  have c3 : w2.cell? ⟨w.heap.size + 1, 3, none⟩ = some (.bool false) := q2.cell 3
  have d1 : w2.cell? ⟨b, 1, none⟩ = some (.int .i64 e.I) := Blk.cell h2 1
  have hne : b ≠ w.heap.size + 1 := by omega
  have hne2 : w.heap.size ≠ w.heap.size + 1 := by omega
  have hne3 : b ≠ w.heap.size := by omega
  have q3 := (((q2.set 0 (.bool true)).set 1 (.int .i64 g)).set 2 (.int .u64 0)).set 3 (.bool false)
  have h3 := (((Blk.far h2 (p := ⟨w.heap.size + 1, 0, none⟩) hne (.bool true)).far (p := ⟨w.heap.size + 1, 1, none⟩) hne (.int .i64 g)).far (p := ⟨w.heap.size + 1, 2, none⟩) hne (.int .u64 0)).far (p := ⟨w.heap.size + 1, 3, none⟩) hne (.bool false)
  have r3 := (((r2.far (p := ⟨w.heap.size + 1, 0, none⟩) hne2 (.bool true)).far (p := ⟨w.heap.size + 1, 1, none⟩) hne2 (.int .i64 g)).far (p := ⟨w.heap.size + 1, 2, none⟩) hne2 (.int .u64 0)).far (p := ⟨w.heap.size + 1, 3, none⟩) hne2 (.bool false)
  have T3 := (((T2.setCell (p := ⟨w.heap.size + 1, 0, none⟩) (by simp) (.bool true)).setCell (p := ⟨w.heap.size + 1, 1, none⟩) (by simp) (.int .i64 g)).setCell (p := ⟨w.heap.size + 1, 2, none⟩) (by simp) (.int .u64 0)).setCell (p := ⟨w.heap.size + 1, 3, none⟩) (by simp) (.bool false)
  clear h2 r2 q2 T2
  go_wp2_with fail
  go_at_call 94
  refine Calls.mono (hWh.out _) ?_
  rintro e w4 ⟨rfl, t4⟩
  have q4 := q3.turns t4 (by simp)
  have h4 := h3.turns t4 (by simp)
  have r4 := r3.turns t4 (by simp)
  have T4 := T3.trans (t4.mono (by simp))
  clear q3 h3 r3 T3 t4 hWh f0 f1 f2 f3 c0 c1 c2 c3 d1
  have f2 := q4.frozen 2
  have k0 : w4.cell? ⟨w.heap.size + 1, 0, none⟩ = some (.bool true) := q4.cell 0
  have k1 : w4.cell? ⟨w.heap.size + 1, 1, none⟩ = some (.int .i64 g) := q4.cell 1
  have k2 : w4.cell? ⟨w.heap.size + 1, 2, none⟩ = some (.int .u64 0) := q4.cell 2
  have k3 : w4.cell? ⟨w.heap.size + 1, 3, none⟩ = some (.bool false) := q4.cell 3
  have g0 := r4.frozen 0
  have g1 := r4.frozen 1
  have g2 := r4.frozen 2
  have g3 := r4.frozen 3
  have m0 : w4.cell? ⟨w.heap.size, 0, none⟩ = some (.bool false) := r4.cell 0
  have m1 : w4.cell? ⟨w.heap.size, 1, none⟩ = some (.int .i64 0) := r4.cell 1
  have m2 : w4.cell? ⟨w.heap.size, 2, none⟩ = some (.int .u64 0) := r4.cell 2
  have m3 : w4.cell? ⟨w.heap.size, 3, none⟩ = some (.bool false) := r4.cell 3
  go_wp2_with fail
  have h5 := h4.far (p := ⟨w.heap.size + 1, 2, none⟩) hne (.int .u64 Q)
  have r5 := r4.far (p := ⟨w.heap.size + 1, 2, none⟩) hne2 (.int .u64 Q)
  have T5 := T4.setCell (p := ⟨w.heap.size + 1, 2, none⟩) (by simp) (.int .u64 Q)
  have rF := (((r5.set 0 (.bool true)).set 1 (.int .i64 g)).set 2 (.int .u64 Q)).set 3 (.bool false)
  have hF := (((h5.far (p := ⟨w.heap.size, 0, none⟩) hne3 (.bool true)).far (p := ⟨w.heap.size, 1, none⟩) hne3 (.int .i64 g)).far (p := ⟨w.heap.size, 2, none⟩) hne3 (.int .u64 Q)).far (p := ⟨w.heap.size, 3, none⟩) hne3 (.bool false)
  have TF := (((T5.setCell (p := ⟨w.heap.size, 0, none⟩) (by simp) (.bool true)).setCell (p := ⟨w.heap.size, 1, none⟩) (by simp) (.int .i64 g)).setCell (p := ⟨w.heap.size, 2, none⟩) (by simp) (.int .u64 Q)).setCell (p := ⟨w.heap.size, 3, none⟩) (by simp) (.bool false)
  refine bodyPost_ret (res_one rfl (.cell w.heap.size _ _ _ rfl rF Try.underlying77 rfl (by kernel_rfl) .nil)) rfl ?_
  exact ⟨rfl, hF, TF⟩
set_option maxHeartbeats 2000000 in
theorem take_none (w : World) (b : Nat) (e : El) (g : Int) (t : Nat) (h : IsE 159 w b e) (hv : e.ok) (hg : ¬ (e.P < g ∧ g ≤ 1099511627776)) (hb : g < 1 ∨ g ≠ e.B) :
    Calls Try.prog 46 #[.pointer (some ⟨b, 0, none⟩), .int .i64 g, .int .u64 t] w fun x w' => x = .returned (resV false 0 0 false) ∧ Turns [] w w' := by
  have hlt := Blk.lt h
  have hR := fun w2 (k : IsE 159 w2 b e) => raise_no w2 b e g k hg
  have T0 := (Turns.refl [] w).alloc (.cells #[.bool false, .int .i64 0, .int .u64 0, .bool false] 77)
  have h0 := Blk.alloc h (.cells #[.bool false, .int .i64 0, .int .u64 0, .bool false] 77)
  have r0 := Blk.new w #[.bool false, .int .i64 0, .int .u64 0, .bool false] 77
  have q0 := Blk.new (w.alloc (.cells #[.bool false, .int .i64 0, .int .u64 0, .bool false] 77)) #[.bool false, .int .i64 0, .int .u64 0, .bool false] 77
  have h1 := h0.alloc (.cells #[.bool false, .int .i64 0, .int .u64 0, .bool false] 77)
  have r1 := r0.alloc (.cells #[.bool false, .int .i64 0, .int .u64 0, .bool false] 77)
  have T1 := T0.alloc (.cells #[.bool false, .int .i64 0, .int .u64 0, .bool false] 77)
  rw [World.size_alloc] at q0
  have hRh : Hid _ := hR
  have hgg : (decide (g < 1) = true) ∨ (decide (g < 1) = false ∧ (g != e.B) = true) := by
    by_cases h1 : g < 1
    · exact .inl (decide_eq_true h1)
    · exact .inr ⟨decide_eq_false h1, by simp; omega⟩
  clear hR h hv hg h0 T0 r0 hb
  rcases hgg with hgg | ⟨hgg, hgb⟩
  all_goals
    unfold resV
    go_enter Try.func46, Try.ntmps46
    go_wp2_with fail
    go_at_call 47
    refine Calls.mono (hRh.out _ h1) ?_
    rintro x w2 ⟨rfl, t2⟩
    have h2 := h1.turns t2 (by simp)
    have r2 := r1.turns t2 (by simp)
    have q2 := q0.turns t2 (by simp)
    have T2 := T1.trans t2
    clear h1 r1 q0 T1 t2 hRh
    have c0 : w2.cell? ⟨w.heap.size + 1, 0, none⟩ = some (.bool false) := q2.cell 0
    have c1 : w2.cell? ⟨w.heap.size + 1, 1, none⟩ = some (.int .i64 0) := q2.cell 1
    have c2 : w2.cell? ⟨w.heap.size + 1, 2, none⟩ = some (.int .u64 0) := q2.cell 2
    have c3 : w2.cell? ⟨w.heap.size + 1, 3, none⟩ = some (.bool false) := q2.cell 3
    have d4 : w2.cell? ⟨b, 4, none⟩ = some (.int .i64 e.B) := Blk.cell h2 4
    have g0 := r2.frozen 0
    have g1 := r2.frozen 1
    have g2 := r2.frozen 2
    have g3 := r2.frozen 3
    have m0 : w2.cell? ⟨w.heap.size, 0, none⟩ = some (.bool false) := r2.cell 0
    have m1 : w2.cell? ⟨w.heap.size, 1, none⟩ = some (.int .i64 0) := r2.cell 1
    have m2 : w2.cell? ⟨w.heap.size, 2, none⟩ = some (.int .u64 0) := r2.cell 2
    have m3 : w2.cell? ⟨w.heap.size, 3, none⟩ = some (.bool false) := r2.cell 3
    go_wp2_with fail
    have rF := (((r2.set 0 (.bool false)).set 1 (.int .i64 0)).set 2 (.int .u64 0)).set 3 (.bool false)
    have TF := (((T2.setCell (p := ⟨w.heap.size, 0, none⟩) (by simp) (.bool false)).setCell (p := ⟨w.heap.size, 1, none⟩) (by simp) (.int .i64 0)).setCell (p := ⟨w.heap.size, 2, none⟩) (by simp) (.int .u64 0)).setCell (p := ⟨w.heap.size, 3, none⟩) (by simp) (.bool false)
    refine bodyPost_ret (res_one rfl (.cell w.heap.size _ _ _ rfl rF Try.underlying77 rfl (by kernel_rfl) .nil)) rfl ?_
    exact ⟨rfl, TF⟩
set_option maxHeartbeats 2000000 in
theorem take_count (w : World) (b : Nat) (e : El) (g : Int) (t : Nat) (h : IsE 159 w b e) (hv : e.ok) (hg : 1 ≤ g) (hb : g = e.B) (ht : t < 18446744073709551616) :
    Calls Try.prog 46 #[.pointer (some ⟨b, 0, none⟩), .int .i64 g, .int .u64 t] w fun x w' => x = .returned (resV false e.P (e.S ||| t) (El.more e t).win) ∧ IsE 159 w' b (El.more e t).won ∧ Turns [b] w w' := by
  have hlt := Blk.lt h
  have hgP : g = e.P := by rcases hv.b with h1 | h1 <;> omega
  have hR := fun w2 (k : IsE 159 w2 b e) => raise_no w2 b e g k (by omega)
  have hok := more_ok hv ht
  have hRes := fun w2 (k : IsE 159 w2 b (El.more e t)) => result_is w2 b (El.more e t) k hok
  obtain ⟨won, hwon⟩ : ∃ won, (El.more e t).win = won := ⟨_, rfl⟩
  obtain ⟨fin, hfin⟩ : ∃ fin, (El.more e t).won = fin := ⟨_, rfl⟩
  rw [hwon, hfin] at hRes ⊢
  obtain ⟨Q, hQ⟩ : ∃ Q, e.S ||| t = Q := ⟨_, rfl⟩
  have hor : bits .or .u64 (e.S : Int) (t : Int) = (Q : Int) := by rw [← hQ]; exact u64_or_nat e.S t hv.s ht
  have hcs : (El.more e t).cells = #[.int .i64 e.N, .int .i64 e.I, .int .i64 e.P, .int .i64 e.R, .int .i64 e.B, .int .u64 Q] := by rw [← hQ]; rfl
  have hSS : (El.more e t).S = Q := hQ
  have hPP : (El.more e t).P = e.P := rfl
  rw [hSS, hPP] at hRes
  rw [hQ]
  unfold resV at hRes ⊢
  have hcsh : Hid _ := hcs
  have hResh : Hid _ := hRes
  have T0 := (Turns.refl [b] w).alloc (.cells #[.bool false, .int .i64 0, .int .u64 0, .bool false] 77)
  have h0 := Blk.alloc h (.cells #[.bool false, .int .i64 0, .int .u64 0, .bool false] 77)
  have r0 := Blk.new w #[.bool false, .int .i64 0, .int .u64 0, .bool false] 77
  have q0 := Blk.new (w.alloc (.cells #[.bool false, .int .i64 0, .int .u64 0, .bool false] 77)) #[.bool false, .int .i64 0, .int .u64 0, .bool false] 77
  have h1 := h0.alloc (.cells #[.bool false, .int .i64 0, .int .u64 0, .bool false] 77)
  have r1 := r0.alloc (.cells #[.bool false, .int .i64 0, .int .u64 0, .bool false] 77)
  have T1 := T0.alloc (.cells #[.bool false, .int .i64 0, .int .u64 0, .bool false] 77)
  rw [World.size_alloc] at q0
  have hRh : Hid _ := hR
  have hgg := decide_eq_false (p := g < 1) (by omega)
  have hgb : (g != e.B) = false := by simp; omega
  clear hR h hv hg h0 T0 r0 hb hRes hcs hok hwon hfin hQ hSS hPP hgP ht
  go_enter Try.func46, Try.ntmps46
  go_wp2_with fail
  go_at_call 47
  refine Calls.mono (hRh.out _ h1) ?_
  rintro e w2 ⟨rfl, t2⟩
  have h2 := h1.turns t2 (by simp)
  have r2 := r1.turns t2 (by simp)
  have T2 := T1.trans (t2.mono (by simp))
  clear h1 r1 q0 T1 t2 hRh
  have d4 : w2.cell? ⟨b, 4, none⟩ = some (.int .i64 e.B) := Blk.cell h2 4
  have d5 : w2.cell? ⟨b, 5, none⟩ = some (.int .u64 e.S) := Blk.cell h2 5
  have f5 := Blk.frozen h2 5
  have h3 : Blk (w2.setCell ⟨b, 5, none⟩ (.int .u64 Q)) b #[.int .i64 e.N, .int .i64 e.I, .int .i64 e.P, .int .i64 e.R, .int .i64 e.B, .int .u64 Q] 159 := h2.set 5 (.int .u64 Q)
  rw [← hcsh.out] at h3
  have T3 := T2.setCell (p := ⟨b, 5, none⟩) (by simp) (.int .u64 Q)
  have r3 := r2.far (p := ⟨b, 5, none⟩) (by simp; omega) (.int .u64 Q)
  clear h2 T2 r2 hcsh
  go_wp2_with fail
  go_at_call 95
  refine Calls.mono (hResh.out _ h3) ?_
  rintro e w4 ⟨rfl, h4, t4⟩
  have r4 := r3.turns t4 (by simp; omega)
  have T4 := T3.trans t4
  clear h3 r3 T3 t4 hResh d4 d5 f5
  have hne3 : b ≠ w.heap.size := by omega
  have g0 := r4.frozen 0
  have g1 := r4.frozen 1
  have g2 := r4.frozen 2
  have g3 := r4.frozen 3
  have m0 : w4.cell? ⟨w.heap.size, 0, none⟩ = some (.bool false) := r4.cell 0
  have m1 : w4.cell? ⟨w.heap.size, 1, none⟩ = some (.int .i64 0) := r4.cell 1
  have m2 : w4.cell? ⟨w.heap.size, 2, none⟩ = some (.int .u64 0) := r4.cell 2
  have m3 : w4.cell? ⟨w.heap.size, 3, none⟩ = some (.bool false) := r4.cell 3
  go_wp2_with fail
  have rF := (((r4.set 0 (.bool false)).set 1 (.int .i64 e.P)).set 2 (.int .u64 Q)).set 3 (.bool won)
  have hF := (((Blk.far h4 (p := ⟨w.heap.size, 0, none⟩) hne3 (.bool false)).far (p := ⟨w.heap.size, 1, none⟩) hne3 (.int .i64 e.P)).far (p := ⟨w.heap.size, 2, none⟩) hne3 (.int .u64 Q)).far (p := ⟨w.heap.size, 3, none⟩) hne3 (.bool won)
  have TF := (((T4.setCell (p := ⟨w.heap.size, 0, none⟩) (by simp) (.bool false)).setCell (p := ⟨w.heap.size, 1, none⟩) (by simp) (.int .i64 e.P)).setCell (p := ⟨w.heap.size, 2, none⟩) (by simp) (.int .u64 Q)).setCell (p := ⟨w.heap.size, 3, none⟩) (by simp) (.bool won)
  refine bodyPost_ret (res_one rfl (.cell w.heap.size _ _ _ rfl rF Try.underlying77 rfl (by kernel_rfl) .nil)) rfl ?_
  exact ⟨rfl, hF, TF⟩
end Go.Proofs.Ythnegmpdadkkcaa.Eo
