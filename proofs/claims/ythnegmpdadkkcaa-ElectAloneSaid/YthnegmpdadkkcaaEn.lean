/- The walks of elect's Stand, and the document's. -/
import Derived.Test.YthnegmpdadkkcaaEm
import Derived.Test.YthnegmpdadkkcaaHg
set_option linter.unusedVariables false
set_option linter.unusedSimpArgs false
set_option maxRecDepth 100000
namespace Go.Proofs.Ythnegmpdadkkcaa.En
open Go.RowKit Go.MapKept Hm Hs Hr Hc Hd Hf Hg Hv Rg Cn El Em
def nextE (e : El) : Int × Int := if e.P ≥ 1099511627776 then (0, 6) else nextR e.N e.P e.I
theorem nextE_cases {e : El} (h : e.ok) : nextE e = (0, 6) ∨ ∃ b, nextE e = (b, 0) ∧ e.P < b ∧ b ≤ 1099511627776 ∧ b % e.N = e.I ∧ (e.N : Int) ≤ b := by
  have hn := h.n
  have hi := h.i
  have hm : mayNext e.N e.I := ⟨⟨by omega, by omega⟩, by omega, by omega⟩
  unfold nextE
  split
  · exact .inl rfl
  · unfold nextR
    split
    · exact .inl rfl
    · obtain ⟨j, _, h1, _⟩ := nextT_form (above := e.P) hm
      exact .inr ⟨_, rfl, by omega, by omega, nextT_mod hm, by omega⟩
theorem next_e (e : El) (h : e.ok) (w : World) : Calls Try.prog 76 #[.int .i64 e.N, .int .i64 e.P, .int .i64 e.I] w fun x w' => x = .returned (.tuple #[.int .i64 (nextE e).1, .int .i64 (nextE e).2]) ∧ Turns [] w w' := by
  have hn := h.n
  have hi := h.i
  have hm : mayNext e.N e.I := ⟨⟨by omega, by omega⟩, by omega, by omega⟩
  unfold nextE
  split
  · rename_i h1
    exact next_over _ _ _ w hm h1
  · rename_i h1
    exact next_is _ _ _ w hm (by omega)
theorem dnext_e (e : El) (h : e.ok) (w : World) : Calls Try.prog 127 #[.int .i64 e.N, .int .i64 e.P, .int .i64 e.I] w fun x w' => x = .returned (.tuple #[.int .i64 (nextE e).1, .int .i64 (nextE e).2]) ∧ Turns [] w w' := by
  have hn := h.n
  have hi := h.i
  have hp := h.p
  have hm : mayNext e.N e.I := ⟨⟨by omega, by omega⟩, by omega, by omega⟩
  unfold nextE
  split
  · rename_i h1
    exact rnext_over _ _ _ w hm h1
  · rename_i h1
    exact rnext_is _ _ _ w hm (by omega) (by omega)
/-- it stands with a ballot -/
def El.stand (e : El) (b : Int) : El := { e with P := b, R := b / e.N, B := b, S := 2 ^ e.I }
theorem stand_ok {e : El} {b : Int} (h : e.ok) (h1 : e.P < b ∧ b ≤ 1099511627776) : (El.stand e b).ok := by
  have hn := h.n
  have hi := h.i
  have hp := h.p
  have h2 := div_bd (a := b) (n := e.N) (by omega) (by omega)
  have h3 : b / (e.N : Int) ≤ b := by
    have : b / (e.N : Int) * 1 ≤ b / (e.N : Int) * e.N := Int.mul_le_mul_of_nonneg_left (by omega) h2.1
    omega
  have h4 : 2 ^ e.I < 2 ^ 64 := Nat.pow_lt_pow_right (by omega) (by omega)
  exact ⟨hn, hi, ⟨by show 0 ≤ b; omega, h1.2⟩, ⟨h2.1, by show b / (e.N : Int) ≤ _; omega⟩, .inr rfl, by show 2 ^ e.I < _; omega⟩
theorem stand_nil (w : World) : Calls Try.prog 45 #[.pointer none] w fun x w' => x = .returned (.tuple #[resV false 0 0 false, .int .i64 1]) ∧ Turns [] w w' := by
  have T0 := (Turns.refl [] w).alloc (.cells #[.bool false, .int .i64 0, .int .u64 0, .bool false] 77)
  have r0 := Blk.new w #[.bool false, .int .i64 0, .int .u64 0, .bool false] 77
  go_enter Try.func45, Try.ntmps45
  go_wp2_with fail
  refine bodyPost_ret (res_list (rs := [.cell 2 77, .tmp 3]) rfl (by simp) (.cell w.heap.size _ _ _ rfl r0 Try.underlying77 rfl (by kernel_rfl) (.tmp .nil))) rfl ?_
  exact ⟨rfl, T0⟩
theorem nextN (P : Int × Int) {x : Int × Int} (h : P = x) : P.1 = x.1 ∧ P.2 = x.2 := by rw [h]; exact ⟨rfl, rfl⟩
set_option maxHeartbeats 2000000 in
theorem stand_over (w : World) (b : Nat) (e : El) (h : IsE 159 w b e) (hv : e.ok) (hx : nextE e = (0, 6)) :
    Calls Try.prog 45 #[.pointer (some ⟨b, 0, none⟩)] w fun x w' => x = .returned (.tuple #[resV false 0 0 false, .int .i64 6]) ∧ Turns [] w w' := by
  have hN := next_e e hv
  rw [hx] at hN
  have hlt := Blk.lt h
  have T0 := (Turns.refl [] w).alloc (.cells #[.bool false, .int .i64 0, .int .u64 0, .bool false] 77)
  have h0 := Blk.alloc h (.cells #[.bool false, .int .i64 0, .int .u64 0, .bool false] 77)
  have r0 := Blk.new w #[.bool false, .int .i64 0, .int .u64 0, .bool false] 77
  have hNh : Hid _ := hN
  clear hN hx h hv
  go_enter Try.func45, Try.ntmps45
  have h1 := h0.drew
  have T1 := T0.drew
  have r1 := r0.drew
  go_wp2_with fail
  refine wp_region_flo [(0, true), (1, true), (2, true), (3, true), (4, true), (5, true), (6, true), (7, true), (8, true), (9, true), (10, true), (11, true), (12, false), (13, true), (14, true), (15, true), (16, true), (17, true)] (fun W => Blk W b e.cells 159) (by kernel_rfl) rfl (by kernel_rfl) (by intro c d v a w h; cases d <;> first | (simpa [Exit.then, Exit.inBlock, Act.put] using h) | exact h) (h1) ?_
  clear h0 T0 r0
  generalize (w.alloc (.cells #[.bool false, .int .i64 0, .int .u64 0, .bool false] 77)).drew = w1 at *
  have d0 : w1.cell? ⟨b, 0, none⟩ = some (.int .i64 e.N) := h1.cell 0
  have d1 : w1.cell? ⟨b, 1, none⟩ = some (.int .i64 e.I) := h1.cell 1
  have d2 : w1.cell? ⟨b, 2, none⟩ = some (.int .i64 e.P) := h1.cell 2
  refine flo_read _ rfl (fun K hK => ?_)
  go_simp
  first | (refine hK _ ?_) | (refine ⟨fun W hS => ?_, hK _ ?_⟩; · (have x0 : W.cell? ⟨b, 0, none⟩ = some (.int .i64 e.N) := hS.cell 0; have x1 : W.cell? ⟨b, 1, none⟩ = some (.int .i64 e.I) := hS.cell 1; have x2 : W.cell? ⟨b, 2, none⟩ = some (.int .i64 e.P) := hS.cell 2; try go_simp))
  clear hK K
  refine flo_read _ rfl (fun K hK => ?_)
  go_simp
  first | (refine hK _ ?_) | (refine ⟨fun W hS => ?_, hK _ ?_⟩; · (have x0 : W.cell? ⟨b, 0, none⟩ = some (.int .i64 e.N) := hS.cell 0; have x1 : W.cell? ⟨b, 1, none⟩ = some (.int .i64 e.I) := hS.cell 1; have x2 : W.cell? ⟨b, 2, none⟩ = some (.int .i64 e.P) := hS.cell 2; try go_simp))
  clear hK K
  refine flo_read _ rfl (fun K hK => ?_)
  go_simp
  first | (refine hK _ ?_) | (refine ⟨fun W hS => ?_, hK _ ?_⟩; · (have x0 : W.cell? ⟨b, 0, none⟩ = some (.int .i64 e.N) := hS.cell 0; have x1 : W.cell? ⟨b, 1, none⟩ = some (.int .i64 e.I) := hS.cell 1; have x2 : W.cell? ⟨b, 2, none⟩ = some (.int .i64 e.P) := hS.cell 2; try go_simp))
  clear hK K
  refine flo_read _ rfl (fun K hK => ?_)
  go_simp
  first | (refine hK _ ?_) | (refine ⟨fun W hS => ?_, hK _ ?_⟩; · (have x0 : W.cell? ⟨b, 0, none⟩ = some (.int .i64 e.N) := hS.cell 0; have x1 : W.cell? ⟨b, 1, none⟩ = some (.int .i64 e.I) := hS.cell 1; have x2 : W.cell? ⟨b, 2, none⟩ = some (.int .i64 e.P) := hS.cell 2; try go_simp))
  clear hK K
  refine flo_read _ rfl (fun K hK => ?_)
  go_simp
  first | (refine hK _ ?_) | (refine ⟨fun W hS => ?_, hK _ ?_⟩; · (have x0 : W.cell? ⟨b, 0, none⟩ = some (.int .i64 e.N) := hS.cell 0; have x1 : W.cell? ⟨b, 1, none⟩ = some (.int .i64 e.I) := hS.cell 1; have x2 : W.cell? ⟨b, 2, none⟩ = some (.int .i64 e.P) := hS.cell 2; try go_simp))
  clear hK K
  refine flo_read _ rfl (fun K hK => ?_)
  go_simp
  first | (refine hK _ ?_) | (refine ⟨fun W hS => ?_, hK _ ?_⟩; · (have x0 : W.cell? ⟨b, 0, none⟩ = some (.int .i64 e.N) := hS.cell 0; have x1 : W.cell? ⟨b, 1, none⟩ = some (.int .i64 e.I) := hS.cell 1; have x2 : W.cell? ⟨b, 2, none⟩ = some (.int .i64 e.P) := hS.cell 2; try go_simp))
  clear hK K
  refine flo_read _ rfl (fun K hK => ?_)
  go_simp
  first | (refine hK _ ?_) | (refine ⟨fun W hS => ?_, hK _ ?_⟩; · (have x0 : W.cell? ⟨b, 0, none⟩ = some (.int .i64 e.N) := hS.cell 0; have x1 : W.cell? ⟨b, 1, none⟩ = some (.int .i64 e.I) := hS.cell 1; have x2 : W.cell? ⟨b, 2, none⟩ = some (.int .i64 e.P) := hS.cell 2; try go_simp))
  clear hK K
  refine flo_read _ rfl (fun K hK => ?_)
  go_simp
  first | (refine hK _ ?_) | (refine ⟨fun W hS => ?_, hK _ ?_⟩; · (have x0 : W.cell? ⟨b, 0, none⟩ = some (.int .i64 e.N) := hS.cell 0; have x1 : W.cell? ⟨b, 1, none⟩ = some (.int .i64 e.I) := hS.cell 1; have x2 : W.cell? ⟨b, 2, none⟩ = some (.int .i64 e.P) := hS.cell 2; try go_simp))
  clear hK K
  refine flo_read _ rfl (fun K hK => ?_)
  go_simp
  first | (refine hK _ ?_) | (refine ⟨fun W hS => ?_, hK _ ?_⟩; · (have x0 : W.cell? ⟨b, 0, none⟩ = some (.int .i64 e.N) := hS.cell 0; have x1 : W.cell? ⟨b, 1, none⟩ = some (.int .i64 e.I) := hS.cell 1; have x2 : W.cell? ⟨b, 2, none⟩ = some (.int .i64 e.P) := hS.cell 2; try go_simp))
  clear hK K
  refine flo_read _ rfl (fun K hK => ?_)
  go_simp
  first | (refine hK _ ?_) | (refine ⟨fun W hS => ?_, hK _ ?_⟩; · (have x0 : W.cell? ⟨b, 0, none⟩ = some (.int .i64 e.N) := hS.cell 0; have x1 : W.cell? ⟨b, 1, none⟩ = some (.int .i64 e.I) := hS.cell 1; have x2 : W.cell? ⟨b, 2, none⟩ = some (.int .i64 e.P) := hS.cell 2; try go_simp))
  clear hK K
  refine flo_read _ rfl (fun K hK => ?_)
  go_simp
  first | (refine hK _ ?_) | (refine ⟨fun W hS => ?_, hK _ ?_⟩; · (have x0 : W.cell? ⟨b, 0, none⟩ = some (.int .i64 e.N) := hS.cell 0; have x1 : W.cell? ⟨b, 1, none⟩ = some (.int .i64 e.I) := hS.cell 1; have x2 : W.cell? ⟨b, 2, none⟩ = some (.int .i64 e.P) := hS.cell 2; try go_simp))
  clear hK K
  refine flo_read _ rfl (fun K hK => ?_)
  go_simp
  first | (refine hK _ ?_) | (refine ⟨fun W hS => ?_, hK _ ?_⟩; · (have x0 : W.cell? ⟨b, 0, none⟩ = some (.int .i64 e.N) := hS.cell 0; have x1 : W.cell? ⟨b, 1, none⟩ = some (.int .i64 e.I) := hS.cell 1; have x2 : W.cell? ⟨b, 2, none⟩ = some (.int .i64 e.P) := hS.cell 2; try go_simp))
  clear hK K
  clear d0 d1 d2
  refine flo_alone _ rfl ?_
  go_wp2_with fail
  go_at_call 76
  refine Calls.mono (hNh.out _) ?_
  rintro e w2 ⟨rfl, t2⟩
  go_wp2_with fail
  refine ⟨fun W => Blk W b e.cells 159, fun W h => h, h1.turns t2 (by simp), ?_⟩
  have r2 := r1.turns t2 (by simp)
  have T2 := T1.trans t2
  clear h1 r1 T1 t2 hNh
  refine flo_read _ rfl (fun K hK => ?_)
  go_simp
  first | (refine hK _ ?_) | (refine ⟨fun W hS => ?_, hK _ ?_⟩; · (skip; try go_simp))
  clear hK K
  refine flo_read _ rfl (fun K hK => ?_)
  go_simp
  first | (refine hK _ ?_) | (refine ⟨fun W hS => ?_, hK _ ?_⟩; · (skip; try go_simp))
  clear hK K
  refine flo_read _ rfl (fun K hK => ?_)
  go_simp
  first | (refine hK _ ?_) | (refine ⟨fun W hS => ?_, hK _ ?_⟩; · (skip; try go_simp))
  clear hK K
  refine flo_read _ rfl (fun K hK => ?_)
  go_simp
  first | (refine hK _ ?_) | (refine ⟨fun W hS => ?_, hK _ ?_⟩; · (skip; try go_simp))
  clear hK K
  refine flo_read _ rfl (fun K hK => ?_)
  go_simp
  first | (refine hK _ ?_) | (refine ⟨fun W hS => ?_, hK _ ?_⟩; · (skip; try go_simp))
  clear hK K
  refine flo_end ?_
  have f0 := r2.frozen 0
  have f1 := r2.frozen 1
  have f2 := r2.frozen 2
  have f3 := r2.frozen 3
  have c0 : w2.cell? ⟨w.heap.size, 0, none⟩ = some (.bool false) := r2.cell 0
  have c1 : w2.cell? ⟨w.heap.size, 1, none⟩ = some (.int .i64 0) := r2.cell 1
  have c2 : w2.cell? ⟨w.heap.size, 2, none⟩ = some (.int .u64 0) := r2.cell 2
  have c3 : w2.cell? ⟨w.heap.size, 3, none⟩ = some (.bool false) := r2.cell 3
  have r6 := (((r2.set 0 (.bool false)).set 1 (.int .i64 0)).set 2 (.int .u64 0)).set 3 (.bool false)
  have T6 := (((T2.setCell (p := ⟨w.heap.size, 0, none⟩) (by simp) (.bool false)).setCell (p := ⟨w.heap.size, 1, none⟩) (by simp) (.int .i64 0)).setCell (p := ⟨w.heap.size, 2, none⟩) (by simp) (.int .u64 0)).setCell (p := ⟨w.heap.size, 3, none⟩) (by simp) (.bool false)
  go_wp2_with fail
  refine bodyPost_ret (res_list (rs := [.cell 2 77, .tmp 3]) rfl (by simp) (.cell w.heap.size _ _ _ rfl r6 Try.underlying77 rfl (by kernel_rfl) (.tmp .nil))) rfl ?_
  exact ⟨rfl, T6⟩
set_option maxHeartbeats 4000000 in
theorem stand_is (w : World) (b : Nat) (e : El) (g : Int) (h : IsE 159 w b e) (hv : e.ok) (hx : nextE e = (g, 0)) (hg : e.P < g ∧ g ≤ 1099511627776) :
    Calls Try.prog 45 #[.pointer (some ⟨b, 0, none⟩)] w fun x w' => x = .returned (.tuple #[resV (!(El.stand e g).win) g (2 ^ e.I) (El.stand e g).win, .int .i64 0]) ∧ IsE 159 w' b (El.stand e g).won ∧ Turns [b] w w' := by
  have hN := next_e e hv
  rw [hx] at hN
  have hlt := Blk.lt h
  have hi64 : e.I < 64 := by have := hv.n; have := hv.i; omega
  have hn0 := hv.n
  have hp0 := hv.p
  have hW := with_yes 0 e.I (by omega) hi64
  rw [Nat.zero_or] at hW
  have hok := stand_ok hv hg
  have hRes := fun w2 (k : IsE 159 w2 b (El.stand e g)) => result_is w2 b (El.stand e g) k hok
  obtain ⟨won, hwon⟩ : ∃ won, (El.stand e g).win = won := ⟨_, rfl⟩
  obtain ⟨fin, hfin⟩ : ∃ fin, (El.stand e g).won = fin := ⟨_, rfl⟩
  rw [hwon, hfin] at hRes ⊢
  obtain ⟨Q, hQ⟩ : ∃ Q, 2 ^ e.I = Q := ⟨_, rfl⟩
  have hcs : (El.stand e g).cells = #[.int .i64 e.N, .int .i64 e.I, .int .i64 g, .int .i64 (g / e.N), .int .i64 g, .int .u64 Q] := by rw [← hQ]; rfl
  have hSS : (El.stand e g).S = Q := hQ
  have hPP : (El.stand e g).P = g := rfl
  rw [hSS, hPP] at hRes
  rw [hQ] at hW ⊢
  unfold resV at hRes ⊢
  have hcsh : Hid _ := hcs
  have hResh : Hid _ := hRes
  have hWh : Hid _ := hW
  have hdiv : g.tdiv (e.N : Int) = g / e.N := Int.tdiv_eq_ediv_of_nonneg (by omega)
  have hwr : IntKind.i64.wrap (g / (e.N : Int)) = g / e.N := by
    have h3 := hok.r
    have h3' : 0 ≤ g / (e.N : Int) ∧ g / (e.N : Int) ≤ 1099511627776 := h3
    exact IntWalk.i64_in _ (by omega)
  have hnz : ((e.N : Int) == 0) = false := by simp; omega
  have hnz2 : ((e.N : Int) = 0) = False := eq_false (by omega)
  have hnz3 : (e.N = 0) = False := eq_false (by omega)
  have T0 := (Turns.refl [b] w).alloc (.cells #[.bool false, .int .i64 0, .int .u64 0, .bool false] 77)
  have h0 := Blk.alloc h (.cells #[.bool false, .int .i64 0, .int .u64 0, .bool false] 77)
  have r0 := Blk.new w #[.bool false, .int .i64 0, .int .u64 0, .bool false] 77
  have hNh : Hid _ := hN
  clear hN hx h hv hW hRes hcs hok hwon hfin hQ hSS hPP hg hp0 hn0 hi64
  go_enter Try.func45, Try.ntmps45
  have h1 := h0.drew
  have T1 := T0.drew
  have r1 := r0.drew
  go_wp2_with fail
  refine wp_region_flo [(0, true), (1, true), (2, true), (3, true), (4, true), (5, true), (6, true), (7, true), (8, true), (9, true), (10, true), (11, true), (12, false), (13, true), (14, true), (15, true), (16, true), (17, true)] (fun W => Blk W b e.cells 159) (by kernel_rfl) rfl (by kernel_rfl) (by intro c d v a w h; cases d <;> first | (simpa [Exit.then, Exit.inBlock, Act.put] using h) | exact h) (h1) ?_
  clear h0 T0 r0
  generalize (w.alloc (.cells #[.bool false, .int .i64 0, .int .u64 0, .bool false] 77)).drew = w1 at *
  have d0 : w1.cell? ⟨b, 0, none⟩ = some (.int .i64 e.N) := h1.cell 0
  have d1 : w1.cell? ⟨b, 1, none⟩ = some (.int .i64 e.I) := h1.cell 1
  have d2 : w1.cell? ⟨b, 2, none⟩ = some (.int .i64 e.P) := h1.cell 2
  refine flo_read _ rfl (fun K hK => ?_)
  go_simp
  first | (refine hK _ ?_) | (refine ⟨fun W hS => ?_, hK _ ?_⟩; · (have x0 : W.cell? ⟨b, 0, none⟩ = some (.int .i64 e.N) := hS.cell 0; have x1 : W.cell? ⟨b, 1, none⟩ = some (.int .i64 e.I) := hS.cell 1; have x2 : W.cell? ⟨b, 2, none⟩ = some (.int .i64 e.P) := hS.cell 2; try go_simp))
  clear hK K
  refine flo_read _ rfl (fun K hK => ?_)
  go_simp
  first | (refine hK _ ?_) | (refine ⟨fun W hS => ?_, hK _ ?_⟩; · (have x0 : W.cell? ⟨b, 0, none⟩ = some (.int .i64 e.N) := hS.cell 0; have x1 : W.cell? ⟨b, 1, none⟩ = some (.int .i64 e.I) := hS.cell 1; have x2 : W.cell? ⟨b, 2, none⟩ = some (.int .i64 e.P) := hS.cell 2; try go_simp))
  clear hK K
  refine flo_read _ rfl (fun K hK => ?_)
  go_simp
  first | (refine hK _ ?_) | (refine ⟨fun W hS => ?_, hK _ ?_⟩; · (have x0 : W.cell? ⟨b, 0, none⟩ = some (.int .i64 e.N) := hS.cell 0; have x1 : W.cell? ⟨b, 1, none⟩ = some (.int .i64 e.I) := hS.cell 1; have x2 : W.cell? ⟨b, 2, none⟩ = some (.int .i64 e.P) := hS.cell 2; try go_simp))
  clear hK K
  refine flo_read _ rfl (fun K hK => ?_)
  go_simp
  first | (refine hK _ ?_) | (refine ⟨fun W hS => ?_, hK _ ?_⟩; · (have x0 : W.cell? ⟨b, 0, none⟩ = some (.int .i64 e.N) := hS.cell 0; have x1 : W.cell? ⟨b, 1, none⟩ = some (.int .i64 e.I) := hS.cell 1; have x2 : W.cell? ⟨b, 2, none⟩ = some (.int .i64 e.P) := hS.cell 2; try go_simp))
  clear hK K
  refine flo_read _ rfl (fun K hK => ?_)
  go_simp
  first | (refine hK _ ?_) | (refine ⟨fun W hS => ?_, hK _ ?_⟩; · (have x0 : W.cell? ⟨b, 0, none⟩ = some (.int .i64 e.N) := hS.cell 0; have x1 : W.cell? ⟨b, 1, none⟩ = some (.int .i64 e.I) := hS.cell 1; have x2 : W.cell? ⟨b, 2, none⟩ = some (.int .i64 e.P) := hS.cell 2; try go_simp))
  clear hK K
  refine flo_read _ rfl (fun K hK => ?_)
  go_simp
  first | (refine hK _ ?_) | (refine ⟨fun W hS => ?_, hK _ ?_⟩; · (have x0 : W.cell? ⟨b, 0, none⟩ = some (.int .i64 e.N) := hS.cell 0; have x1 : W.cell? ⟨b, 1, none⟩ = some (.int .i64 e.I) := hS.cell 1; have x2 : W.cell? ⟨b, 2, none⟩ = some (.int .i64 e.P) := hS.cell 2; try go_simp))
  clear hK K
  refine flo_read _ rfl (fun K hK => ?_)
  go_simp
  first | (refine hK _ ?_) | (refine ⟨fun W hS => ?_, hK _ ?_⟩; · (have x0 : W.cell? ⟨b, 0, none⟩ = some (.int .i64 e.N) := hS.cell 0; have x1 : W.cell? ⟨b, 1, none⟩ = some (.int .i64 e.I) := hS.cell 1; have x2 : W.cell? ⟨b, 2, none⟩ = some (.int .i64 e.P) := hS.cell 2; try go_simp))
  clear hK K
  refine flo_read _ rfl (fun K hK => ?_)
  go_simp
  first | (refine hK _ ?_) | (refine ⟨fun W hS => ?_, hK _ ?_⟩; · (have x0 : W.cell? ⟨b, 0, none⟩ = some (.int .i64 e.N) := hS.cell 0; have x1 : W.cell? ⟨b, 1, none⟩ = some (.int .i64 e.I) := hS.cell 1; have x2 : W.cell? ⟨b, 2, none⟩ = some (.int .i64 e.P) := hS.cell 2; try go_simp))
  clear hK K
  refine flo_read _ rfl (fun K hK => ?_)
  go_simp
  first | (refine hK _ ?_) | (refine ⟨fun W hS => ?_, hK _ ?_⟩; · (have x0 : W.cell? ⟨b, 0, none⟩ = some (.int .i64 e.N) := hS.cell 0; have x1 : W.cell? ⟨b, 1, none⟩ = some (.int .i64 e.I) := hS.cell 1; have x2 : W.cell? ⟨b, 2, none⟩ = some (.int .i64 e.P) := hS.cell 2; try go_simp))
  clear hK K
  refine flo_read _ rfl (fun K hK => ?_)
  go_simp
  first | (refine hK _ ?_) | (refine ⟨fun W hS => ?_, hK _ ?_⟩; · (have x0 : W.cell? ⟨b, 0, none⟩ = some (.int .i64 e.N) := hS.cell 0; have x1 : W.cell? ⟨b, 1, none⟩ = some (.int .i64 e.I) := hS.cell 1; have x2 : W.cell? ⟨b, 2, none⟩ = some (.int .i64 e.P) := hS.cell 2; try go_simp))
  clear hK K
  refine flo_read _ rfl (fun K hK => ?_)
  go_simp
  first | (refine hK _ ?_) | (refine ⟨fun W hS => ?_, hK _ ?_⟩; · (have x0 : W.cell? ⟨b, 0, none⟩ = some (.int .i64 e.N) := hS.cell 0; have x1 : W.cell? ⟨b, 1, none⟩ = some (.int .i64 e.I) := hS.cell 1; have x2 : W.cell? ⟨b, 2, none⟩ = some (.int .i64 e.P) := hS.cell 2; try go_simp))
  clear hK K
  refine flo_read _ rfl (fun K hK => ?_)
  go_simp
  first | (refine hK _ ?_) | (refine ⟨fun W hS => ?_, hK _ ?_⟩; · (have x0 : W.cell? ⟨b, 0, none⟩ = some (.int .i64 e.N) := hS.cell 0; have x1 : W.cell? ⟨b, 1, none⟩ = some (.int .i64 e.I) := hS.cell 1; have x2 : W.cell? ⟨b, 2, none⟩ = some (.int .i64 e.P) := hS.cell 2; try go_simp))
  clear hK K
  clear d0 d1 d2
  refine flo_alone _ rfl ?_
  go_wp2_with fail
  go_at_call 76
  refine Calls.mono (hNh.out _) ?_
  rintro e w2 ⟨rfl, t2⟩
  go_wp2_with fail
  refine ⟨fun W => Blk W b e.cells 159, fun W h => h, h1.turns t2 (by simp), ?_⟩
  have h2 := h1.turns t2 (by simp)
  have r2 := r1.turns t2 (by simp)
  have T2 := T1.trans (t2.mono (by simp))
  clear h1 r1 T1 t2 hNh
  refine flo_read _ rfl (fun K hK => ?_)
  go_simp
  first | (refine hK _ ?_) | (refine ⟨fun W hS => ?_, hK _ ?_⟩; · (skip; try go_simp))
  clear hK K
  refine flo_read _ rfl (fun K hK => ?_)
  go_simp
  first | (refine hK _ ?_) | (refine ⟨fun W hS => ?_, hK _ ?_⟩; · (skip; try go_simp))
  clear hK K
  refine flo_read _ rfl (fun K hK => ?_)
  go_simp
  first | (refine hK _ ?_) | (refine ⟨fun W hS => ?_, hK _ ?_⟩; · (skip; try go_simp))
  clear hK K
  refine flo_read _ rfl (fun K hK => ?_)
  go_simp
  first | (refine hK _ ?_) | (refine ⟨fun W hS => ?_, hK _ ?_⟩; · (skip; try go_simp))
  clear hK K
  refine flo_read _ rfl (fun K hK => ?_)
  go_simp
  first | (refine hK _ ?_) | (refine ⟨fun W hS => ?_, hK _ ?_⟩; · (skip; try go_simp))
  clear hK K
  refine flo_end ?_
  have h3 := h2.drew
  have T3 := T2.drew
  have r3 := r2.drew
  go_wp2_with fail
  refine wp_region_flo2 [(0, true, [16]), (1, true, [16, 19]), (2, true, [16, 19, 22]), (3, true, [16, 19, 22, 25]), (4, true, [16]), (5, true, [16, 19]), (6, true, [16, 19]), (7, true, [16, 19]), (8, true, [16, 19]), (9, true, [16]), (10, true, [16, 19]), (11, true, [16, 19, 22]), (12, true, [16, 19, 22, 25]), (13, true, [16, 19, 22, 25]), (14, true, [16, 19, 22, 25]), (15, true, []), (16, false, []), (17, true, [19]), (18, true, []), (19, false, []), (20, true, [22]), (21, true, []), (22, false, []), (23, true, [25]), (24, true, []), (25, false, []), (26, true, [28]), (27, true, []), (28, false, [])] (fun j W => j = 16 → Blk W b e.cells 159) (by kernel_rfl) rfl (by kernel_rfl) (by intro c d v a w h; cases d <;> first | (simpa [Exit.then, Exit.inBlock, Act.put] using h) | exact h) ?_
  clear h2 T2 r2
  generalize w2.drew = w3 at *
  have d0 : w3.cell? ⟨b, 0, none⟩ = some (.int .i64 e.N) := h3.cell 0
  have d1 : w3.cell? ⟨b, 1, none⟩ = some (.int .i64 e.I) := h3.cell 1
  first
    | (refine flo2_read _ rfl (fun _ => True) trivial (fun _ _ _ _ => trivial) (fun K hK => ?_); go_simp; first | (refine hK _ ?_) | (refine ⟨fun W _ => ?_, hK _ ?_⟩; · (go_simp)) | (refine ⟨fun W => ?_, hK _ ?_⟩; · (go_simp)))
    | (refine flo2_read _ rfl (fun W => W = _) rfl (by simp) (fun K hK => ?_); go_simp; first | (refine hK _ ?_) | (refine ⟨fun W hS => ?_, hK _ ?_⟩; · (subst hS; go_simp)) | (refine ⟨?_, hK _ ?_⟩; · (go_simp)))
  clear hK K
  first
    | (refine flo2_read _ rfl (fun _ => True) trivial (fun _ _ _ _ => trivial) (fun K hK => ?_); go_simp; first | (refine hK _ ?_) | (refine ⟨fun W _ => ?_, hK _ ?_⟩; · (go_simp)) | (refine ⟨fun W => ?_, hK _ ?_⟩; · (go_simp)))
    | (refine flo2_read _ rfl (fun W => W = _) rfl (by simp) (fun K hK => ?_); go_simp; first | (refine hK _ ?_) | (refine ⟨fun W hS => ?_, hK _ ?_⟩; · (subst hS; go_simp)) | (refine ⟨?_, hK _ ?_⟩; · (go_simp)))
  clear hK K
  first
    | (refine flo2_read _ rfl (fun _ => True) trivial (fun _ _ _ _ => trivial) (fun K hK => ?_); go_simp; first | (refine hK _ ?_) | (refine ⟨fun W _ => ?_, hK _ ?_⟩; · (go_simp)) | (refine ⟨fun W => ?_, hK _ ?_⟩; · (go_simp)))
    | (refine flo2_read _ rfl (fun W => W = _) rfl (by simp) (fun K hK => ?_); go_simp; first | (refine hK _ ?_) | (refine ⟨fun W hS => ?_, hK _ ?_⟩; · (subst hS; go_simp)) | (refine ⟨?_, hK _ ?_⟩; · (go_simp)))
  clear hK K
  first
    | (refine flo2_read _ rfl (fun _ => True) trivial (fun _ _ _ _ => trivial) (fun K hK => ?_); go_simp; first | (refine hK _ ?_) | (refine ⟨fun W _ => ?_, hK _ ?_⟩; · (go_simp)) | (refine ⟨fun W => ?_, hK _ ?_⟩; · (go_simp)))
    | (refine flo2_read _ rfl (fun W => W = _) rfl (by simp) (fun K hK => ?_); go_simp; first | (refine hK _ ?_) | (refine ⟨fun W hS => ?_, hK _ ?_⟩; · (subst hS; go_simp)) | (refine ⟨?_, hK _ ?_⟩; · (go_simp)))
  clear hK K
  first
    | (refine flo2_read _ rfl (fun _ => True) trivial (fun _ _ _ _ => trivial) (fun K hK => ?_); go_simp; first | (refine hK _ ?_) | (refine ⟨fun W _ => ?_, hK _ ?_⟩; · (go_simp)) | (refine ⟨fun W => ?_, hK _ ?_⟩; · (go_simp)))
    | (refine flo2_read _ rfl (fun W => W = _) rfl (by simp) (fun K hK => ?_); go_simp; first | (refine hK _ ?_) | (refine ⟨fun W hS => ?_, hK _ ?_⟩; · (subst hS; go_simp)) | (refine ⟨?_, hK _ ?_⟩; · (go_simp)))
  clear hK K
  first
    | (refine flo2_read _ rfl (fun _ => True) trivial (fun _ _ _ _ => trivial) (fun K hK => ?_); go_simp; first | (refine hK _ ?_) | (refine ⟨fun W _ => ?_, hK _ ?_⟩; · (go_simp)) | (refine ⟨fun W => ?_, hK _ ?_⟩; · (go_simp)))
    | (refine flo2_read _ rfl (fun W => W = _) rfl (by simp) (fun K hK => ?_); go_simp; first | (refine hK _ ?_) | (refine ⟨fun W hS => ?_, hK _ ?_⟩; · (subst hS; go_simp)) | (refine ⟨?_, hK _ ?_⟩; · (go_simp)))
  clear hK K
  first
    | (refine flo2_read _ rfl (fun _ => True) trivial (fun _ _ _ _ => trivial) (fun K hK => ?_); go_simp; first | (refine hK _ ?_) | (refine ⟨fun W _ => ?_, hK _ ?_⟩; · (go_simp)) | (refine ⟨fun W => ?_, hK _ ?_⟩; · (go_simp)))
    | (refine flo2_read _ rfl (fun W => W = _) rfl (by simp) (fun K hK => ?_); go_simp; first | (refine hK _ ?_) | (refine ⟨fun W hS => ?_, hK _ ?_⟩; · (subst hS; go_simp)) | (refine ⟨?_, hK _ ?_⟩; · (go_simp)))
  clear hK K
  first
    | (refine flo2_read _ rfl (fun _ => True) trivial (fun _ _ _ _ => trivial) (fun K hK => ?_); go_simp; first | (refine hK _ ?_) | (refine ⟨fun W _ => ?_, hK _ ?_⟩; · (go_simp)) | (refine ⟨fun W => ?_, hK _ ?_⟩; · (go_simp)))
    | (refine flo2_read _ rfl (fun W => W = _) rfl (by simp) (fun K hK => ?_); go_simp; first | (refine hK _ ?_) | (refine ⟨fun W hS => ?_, hK _ ?_⟩; · (subst hS; go_simp)) | (refine ⟨?_, hK _ ?_⟩; · (go_simp)))
  clear hK K
  first
    | (refine flo2_read _ rfl (fun _ => True) trivial (fun _ _ _ _ => trivial) (fun K hK => ?_); go_simp; first | (refine hK _ ?_) | (refine ⟨fun W _ => ?_, hK _ ?_⟩; · (go_simp)) | (refine ⟨fun W => ?_, hK _ ?_⟩; · (go_simp)))
    | (refine flo2_read _ rfl (fun W => W = _) rfl (by simp) (fun K hK => ?_); go_simp; first | (refine hK _ ?_) | (refine ⟨fun W hS => ?_, hK _ ?_⟩; · (subst hS; go_simp)) | (refine ⟨?_, hK _ ?_⟩; · (go_simp)))
  clear hK K
  refine flo2_read _ rfl (fun W => Blk W b e.cells 159) (h3) (by simp) (fun K hK => ?_)
  go_simp
  first | (refine hK _ ?_) | (refine ⟨fun W hS => ?_, hK _ ?_⟩; · (have x0 : W.cell? ⟨b, 0, none⟩ = some (.int .i64 e.N) := hS.cell 0; try go_simp))
  clear hK K
  first
    | (refine flo2_read _ rfl (fun _ => True) trivial (fun _ _ _ _ => trivial) (fun K hK => ?_); go_simp; first | (refine hK _ ?_) | (refine ⟨fun W _ => ?_, hK _ ?_⟩; · (go_simp)) | (refine ⟨fun W => ?_, hK _ ?_⟩; · (go_simp)))
    | (refine flo2_read _ rfl (fun W => W = _) rfl (by simp) (fun K hK => ?_); go_simp; first | (refine hK _ ?_) | (refine ⟨fun W hS => ?_, hK _ ?_⟩; · (subst hS; go_simp)) | (refine ⟨?_, hK _ ?_⟩; · (go_simp)))
  clear hK K
  first
    | (refine flo2_read _ rfl (fun _ => True) trivial (fun _ _ _ _ => trivial) (fun K hK => ?_); go_simp; first | (refine hK _ ?_) | (refine ⟨fun W _ => ?_, hK _ ?_⟩; · (go_simp)) | (refine ⟨fun W => ?_, hK _ ?_⟩; · (go_simp)))
    | (refine flo2_read _ rfl (fun W => W = _) rfl (by simp) (fun K hK => ?_); go_simp; first | (refine hK _ ?_) | (refine ⟨fun W hS => ?_, hK _ ?_⟩; · (subst hS; go_simp)) | (refine ⟨?_, hK _ ?_⟩; · (go_simp)))
  clear hK K
  first
    | (refine flo2_read _ rfl (fun _ => True) trivial (fun _ _ _ _ => trivial) (fun K hK => ?_); go_simp; first | (refine hK _ ?_) | (refine ⟨fun W _ => ?_, hK _ ?_⟩; · (go_simp)) | (refine ⟨fun W => ?_, hK _ ?_⟩; · (go_simp)))
    | (refine flo2_read _ rfl (fun W => W = _) rfl (by simp) (fun K hK => ?_); go_simp; first | (refine hK _ ?_) | (refine ⟨fun W hS => ?_, hK _ ?_⟩; · (subst hS; go_simp)) | (refine ⟨?_, hK _ ?_⟩; · (go_simp)))
  clear hK K
  first
    | (refine flo2_read _ rfl (fun _ => True) trivial (fun _ _ _ _ => trivial) (fun K hK => ?_); go_simp; first | (refine hK _ ?_) | (refine ⟨fun W _ => ?_, hK _ ?_⟩; · (go_simp)) | (refine ⟨fun W => ?_, hK _ ?_⟩; · (go_simp)))
    | (refine flo2_read _ rfl (fun W => W = _) rfl (by simp) (fun K hK => ?_); go_simp; first | (refine hK _ ?_) | (refine ⟨fun W hS => ?_, hK _ ?_⟩; · (subst hS; go_simp)) | (refine ⟨?_, hK _ ?_⟩; · (go_simp)))
  clear hK K
  first
    | (refine flo2_read _ rfl (fun _ => True) trivial (fun _ _ _ _ => trivial) (fun K hK => ?_); go_simp; first | (refine hK _ ?_) | (refine ⟨fun W _ => ?_, hK _ ?_⟩; · (go_simp)) | (refine ⟨fun W => ?_, hK _ ?_⟩; · (go_simp)))
    | (refine flo2_read _ rfl (fun W => W = _) rfl (by simp) (fun K hK => ?_); go_simp; first | (refine hK _ ?_) | (refine ⟨fun W hS => ?_, hK _ ?_⟩; · (subst hS; go_simp)) | (refine ⟨?_, hK _ ?_⟩; · (go_simp)))
  clear hK K
  first
    | (refine flo2_read _ rfl (fun _ => True) trivial (fun _ _ _ _ => trivial) (fun K hK => ?_); go_simp; first | (refine hK _ ?_) | (refine ⟨fun W _ => ?_, hK _ ?_⟩; · (go_simp)) | (refine ⟨fun W => ?_, hK _ ?_⟩; · (go_simp)))
    | (refine flo2_read _ rfl (fun W => W = _) rfl (by simp) (fun K hK => ?_); go_simp; first | (refine hK _ ?_) | (refine ⟨fun W hS => ?_, hK _ ?_⟩; · (subst hS; go_simp)) | (refine ⟨?_, hK _ ?_⟩; · (go_simp)))
  clear hK K
  clear d0 d1
  refine flo2_alone _ rfl ?_
  go_wp2_with fail
  go_at_call 94
  refine Calls.mono (hWh.out _) ?_
  rintro e w4 ⟨rfl, t4⟩
  go_wp2_with fail
  refine ⟨fun _ => h3.turns t4 (by simp), _, fun _ _ h => h, ?_⟩
  have h4 := h3.turns t4 (by simp)
  have T4 := T3.trans (t4.mono (by simp))
  have r4 := r3.turns t4 (by simp)
  clear h3 T3 r3 t4 hWh
  have e2 : w4.cell? ⟨b, 2, none⟩ = some (.int .i64 e.P) := h4.cell 2
  have f2 := h4.frozen 2
  first
    | (refine flo2_read _ rfl (fun _ => True) trivial (fun _ _ _ _ => trivial) (fun K hK => ?_); go_simp; first | (refine hK _ ?_) | (refine ⟨fun W _ => ?_, hK _ ?_⟩; · (go_simp)) | (refine ⟨fun W => ?_, hK _ ?_⟩; · (go_simp)))
    | (refine flo2_read _ rfl (fun W => W = _) rfl (by simp) (fun K hK => ?_); go_simp; first | (refine hK _ ?_) | (refine ⟨fun W hS => ?_, hK _ ?_⟩; · (subst hS; go_simp)) | (refine ⟨?_, hK _ ?_⟩; · (go_simp)))
  clear hK K
  first
    | (refine flo2_read _ rfl (fun _ => True) trivial (fun _ _ _ _ => trivial) (fun K hK => ?_); go_simp; first | (refine hK _ ?_) | (refine ⟨fun W _ => ?_, hK _ ?_⟩; · (go_simp)) | (refine ⟨fun W => ?_, hK _ ?_⟩; · (go_simp)))
    | (refine flo2_read _ rfl (fun W => W = _) rfl (by simp) (fun K hK => ?_); go_simp; first | (refine hK _ ?_) | (refine ⟨fun W hS => ?_, hK _ ?_⟩; · (subst hS; go_simp)) | (refine ⟨?_, hK _ ?_⟩; · (go_simp)))
  clear hK K
  refine flo2_alone _ rfl ?_
  go_wp2_with fail
  refine ⟨by simp, _, fun _ _ h => h, ?_⟩
  have h5 := h4.set 2 (.int .i64 g)
  have T5 := T4.setCell (p := ⟨b, 2, none⟩) (by simp) (.int .i64 g)
  have r5 := r4.far (p := ⟨b, 2, none⟩) (by simp; omega) (.int .i64 g)
  clear h4 T4 r4 e2 f2
  generalize w4.setCell ⟨b, 2, none⟩ (.int .i64 g) = w5 at *
  have e3 : w5.cell? ⟨b, 3, none⟩ = some (.int .i64 e.R) := h5.cell 3
  have f3 := h5.frozen 3
  first
    | (refine flo2_read _ rfl (fun _ => True) trivial (fun _ _ _ _ => trivial) (fun K hK => ?_); go_simp; first | (refine hK _ ?_) | (refine ⟨fun W _ => ?_, hK _ ?_⟩; · (go_simp)) | (refine ⟨fun W => ?_, hK _ ?_⟩; · (go_simp)))
    | (refine flo2_read _ rfl (fun W => W = _) rfl (by simp) (fun K hK => ?_); go_simp; first | (refine hK _ ?_) | (refine ⟨fun W hS => ?_, hK _ ?_⟩; · (subst hS; go_simp)) | (refine ⟨?_, hK _ ?_⟩; · (go_simp)))
  clear hK K
  first
    | (refine flo2_read _ rfl (fun _ => True) trivial (fun _ _ _ _ => trivial) (fun K hK => ?_); go_simp; first | (refine hK _ ?_) | (refine ⟨fun W _ => ?_, hK _ ?_⟩; · (go_simp)) | (refine ⟨fun W => ?_, hK _ ?_⟩; · (go_simp)))
    | (refine flo2_read _ rfl (fun W => W = _) rfl (by simp) (fun K hK => ?_); go_simp; first | (refine hK _ ?_) | (refine ⟨fun W hS => ?_, hK _ ?_⟩; · (subst hS; go_simp)) | (refine ⟨?_, hK _ ?_⟩; · (go_simp)))
  clear hK K
  refine flo2_alone _ rfl ?_
  go_wp2_with fail
  refine ⟨by simp, _, fun _ _ h => h, ?_⟩
  have h6 := h5.set 3 (.int .i64 (g / e.N))
  have T6 := T5.setCell (p := ⟨b, 3, none⟩) (by simp) (.int .i64 (g / e.N))
  have r6 := r5.far (p := ⟨b, 3, none⟩) (by simp; omega) (.int .i64 (g / e.N))
  clear h5 T5 r5 e3 f3
  generalize w5.setCell ⟨b, 3, none⟩ (.int .i64 (g / e.N)) = w6 at *
  have e4 : w6.cell? ⟨b, 4, none⟩ = some (.int .i64 e.B) := h6.cell 4
  have f4 := h6.frozen 4
  first
    | (refine flo2_read _ rfl (fun _ => True) trivial (fun _ _ _ _ => trivial) (fun K hK => ?_); go_simp; first | (refine hK _ ?_) | (refine ⟨fun W _ => ?_, hK _ ?_⟩; · (go_simp)) | (refine ⟨fun W => ?_, hK _ ?_⟩; · (go_simp)))
    | (refine flo2_read _ rfl (fun W => W = _) rfl (by simp) (fun K hK => ?_); go_simp; first | (refine hK _ ?_) | (refine ⟨fun W hS => ?_, hK _ ?_⟩; · (subst hS; go_simp)) | (refine ⟨?_, hK _ ?_⟩; · (go_simp)))
  clear hK K
  first
    | (refine flo2_read _ rfl (fun _ => True) trivial (fun _ _ _ _ => trivial) (fun K hK => ?_); go_simp; first | (refine hK _ ?_) | (refine ⟨fun W _ => ?_, hK _ ?_⟩; · (go_simp)) | (refine ⟨fun W => ?_, hK _ ?_⟩; · (go_simp)))
    | (refine flo2_read _ rfl (fun W => W = _) rfl (by simp) (fun K hK => ?_); go_simp; first | (refine hK _ ?_) | (refine ⟨fun W hS => ?_, hK _ ?_⟩; · (subst hS; go_simp)) | (refine ⟨?_, hK _ ?_⟩; · (go_simp)))
  clear hK K
  refine flo2_alone _ rfl ?_
  go_wp2_with fail
  refine ⟨by simp, _, fun _ _ h => h, ?_⟩
  have h7 := h6.set 4 (.int .i64 g)
  have T7 := T6.setCell (p := ⟨b, 4, none⟩) (by simp) (.int .i64 g)
  have r7 := r6.far (p := ⟨b, 4, none⟩) (by simp; omega) (.int .i64 g)
  clear h6 T6 r6 e4 f4
  generalize w6.setCell ⟨b, 4, none⟩ (.int .i64 g) = w7 at *
  have e5 : w7.cell? ⟨b, 5, none⟩ = some (.int .u64 e.S) := h7.cell 5
  have f5 := h7.frozen 5
  first
    | (refine flo2_read _ rfl (fun _ => True) trivial (fun _ _ _ _ => trivial) (fun K hK => ?_); go_simp; first | (refine hK _ ?_) | (refine ⟨fun W _ => ?_, hK _ ?_⟩; · (go_simp)) | (refine ⟨fun W => ?_, hK _ ?_⟩; · (go_simp)))
    | (refine flo2_read _ rfl (fun W => W = _) rfl (by simp) (fun K hK => ?_); go_simp; first | (refine hK _ ?_) | (refine ⟨fun W hS => ?_, hK _ ?_⟩; · (subst hS; go_simp)) | (refine ⟨?_, hK _ ?_⟩; · (go_simp)))
  clear hK K
  first
    | (refine flo2_read _ rfl (fun _ => True) trivial (fun _ _ _ _ => trivial) (fun K hK => ?_); go_simp; first | (refine hK _ ?_) | (refine ⟨fun W _ => ?_, hK _ ?_⟩; · (go_simp)) | (refine ⟨fun W => ?_, hK _ ?_⟩; · (go_simp)))
    | (refine flo2_read _ rfl (fun W => W = _) rfl (by simp) (fun K hK => ?_); go_simp; first | (refine hK _ ?_) | (refine ⟨fun W hS => ?_, hK _ ?_⟩; · (subst hS; go_simp)) | (refine ⟨?_, hK _ ?_⟩; · (go_simp)))
  clear hK K
  refine flo2_alone _ rfl ?_
  go_wp2_with fail
  refine ⟨by simp, _, fun _ _ h => h, ?_⟩
  have h8 : Blk (w7.setCell ⟨b, 5, none⟩ (.int .u64 Q)) b #[.int .i64 e.N, .int .i64 e.I, .int .i64 g, .int .i64 (g / e.N), .int .i64 g, .int .u64 Q] 159 := h7.set 5 (.int .u64 Q)
  rw [← hcsh.out] at h8
  have T8 := T7.setCell (p := ⟨b, 5, none⟩) (by simp) (.int .u64 Q)
  have r8 := r7.far (p := ⟨b, 5, none⟩) (by simp; omega) (.int .u64 Q)
  clear h7 T7 r7 e5 f5 hcsh
  generalize w7.setCell ⟨b, 5, none⟩ (.int .u64 Q) = w8 at *
  refine flo2_end ?_
  go_wp2_with fail
  go_at_call 95
  refine Calls.mono (hResh.out _ h8) ?_
  rintro e w9 ⟨rfl, h9, t9⟩
  have T9 := T8.trans t9
  have r9 := r8.turns t9 (by simp; omega)
  have hs9 := r9.lt
  clear h8 T8 r8 t9 hResh
  have TA := (Turns.refl [] w9).alloc (.cells #[.bool false, .int .i64 g, .int .u64 Q, .bool won] 77)
  have hbl9 := Blk.lt h9
  have f0 := r9.frozen 0
  have f1 := r9.frozen 1
  have f2 := r9.frozen 2
  have f3 := r9.frozen 3
  have c0 : w9.cell? ⟨w.heap.size, 0, none⟩ = some (.bool false) := r9.cell 0
  have c1 : w9.cell? ⟨w.heap.size, 1, none⟩ = some (.int .i64 0) := r9.cell 1
  have c2 : w9.cell? ⟨w.heap.size, 2, none⟩ = some (.int .u64 0) := r9.cell 2
  have c3 : w9.cell? ⟨w.heap.size, 3, none⟩ = some (.bool false) := r9.cell 3
  go_wp2_with fail
  have hne : b ≠ w.heap.size := by omega
  have rF := (((r9.set 0 (.bool (!won))).set 1 (.int .i64 g)).set 2 (.int .u64 Q)).set 3 (.bool won)
  have hF := (((Blk.far h9 (p := ⟨w.heap.size, 0, none⟩) hne (.bool (!won))).far (p := ⟨w.heap.size, 1, none⟩) hne (.int .i64 g)).far (p := ⟨w.heap.size, 2, none⟩) hne (.int .u64 Q)).far (p := ⟨w.heap.size, 3, none⟩) hne (.bool won)
  have TF := (((T9.setCell (p := ⟨w.heap.size, 0, none⟩) (by simp) (.bool (!won))).setCell (p := ⟨w.heap.size, 1, none⟩) (by simp) (.int .i64 g)).setCell (p := ⟨w.heap.size, 2, none⟩) (by simp) (.int .u64 Q)).setCell (p := ⟨w.heap.size, 3, none⟩) (by simp) (.bool won)
  refine bodyPost_ret (res_list (rs := [.cell 2 77, .tmp 3]) rfl (by simp) (.cell w.heap.size _ _ _ rfl (rF.alloc _) Try.underlying77 rfl (by kernel_rfl) (.tmp .nil))) rfl ?_
  exact ⟨rfl, hF.alloc _, TF.alloc _⟩
set_option maxHeartbeats 2000000 in
theorem dstand_over (w : World) (b : Nat) (e : El) (h : IsE 75 w b e) (hv : e.ok) (hx : nextE e = (0, 6)) :
    Calls Try.prog 90 #[.pointer (some ⟨b, 0, none⟩)] w fun x w' => x = .returned (.tuple #[resV false 0 0 false, .int .i64 6]) ∧ Turns [] w w' := by
  have hN := dnext_e e hv
  rw [hx] at hN
  have hlt := Blk.lt h
  have T0 := (Turns.refl [] w).alloc (.cells #[.bool false, .int .i64 0, .int .u64 0, .bool false] 160)
  have h0 := Blk.alloc h (.cells #[.bool false, .int .i64 0, .int .u64 0, .bool false] 160)
  have r0 := Blk.new w #[.bool false, .int .i64 0, .int .u64 0, .bool false] 160
  have hNh : Hid _ := hN
  clear hN hx h hv
  go_enter Try.func90, Try.ntmps90
  have h1 := h0.drew
  have T1 := T0.drew
  have r1 := r0.drew
  go_wp2_with fail
  refine wp_region_flo [(0, true), (1, true), (2, true), (3, true), (4, true), (5, true), (6, true), (7, true), (8, true), (9, true), (10, true), (11, true), (12, false), (13, true), (14, true), (15, true), (16, true), (17, true)] (fun W => Blk W b e.cells 75) (by kernel_rfl) rfl (by kernel_rfl) (by intro c d v a w h; cases d <;> first | (simpa [Exit.then, Exit.inBlock, Act.put] using h) | exact h) (h1) ?_
  clear h0 T0 r0
  generalize (w.alloc (.cells #[.bool false, .int .i64 0, .int .u64 0, .bool false] 160)).drew = w1 at *
  have d0 : w1.cell? ⟨b, 0, none⟩ = some (.int .i64 e.N) := h1.cell 0
  have d1 : w1.cell? ⟨b, 1, none⟩ = some (.int .i64 e.I) := h1.cell 1
  have d2 : w1.cell? ⟨b, 2, none⟩ = some (.int .i64 e.P) := h1.cell 2
  refine flo_read _ rfl (fun K hK => ?_)
  go_simp
  first | (refine hK _ ?_) | (refine ⟨fun W hS => ?_, hK _ ?_⟩; · (have x0 : W.cell? ⟨b, 0, none⟩ = some (.int .i64 e.N) := hS.cell 0; have x1 : W.cell? ⟨b, 1, none⟩ = some (.int .i64 e.I) := hS.cell 1; have x2 : W.cell? ⟨b, 2, none⟩ = some (.int .i64 e.P) := hS.cell 2; try go_simp))
  clear hK K
  refine flo_read _ rfl (fun K hK => ?_)
  go_simp
  first | (refine hK _ ?_) | (refine ⟨fun W hS => ?_, hK _ ?_⟩; · (have x0 : W.cell? ⟨b, 0, none⟩ = some (.int .i64 e.N) := hS.cell 0; have x1 : W.cell? ⟨b, 1, none⟩ = some (.int .i64 e.I) := hS.cell 1; have x2 : W.cell? ⟨b, 2, none⟩ = some (.int .i64 e.P) := hS.cell 2; try go_simp))
  clear hK K
  refine flo_read _ rfl (fun K hK => ?_)
  go_simp
  first | (refine hK _ ?_) | (refine ⟨fun W hS => ?_, hK _ ?_⟩; · (have x0 : W.cell? ⟨b, 0, none⟩ = some (.int .i64 e.N) := hS.cell 0; have x1 : W.cell? ⟨b, 1, none⟩ = some (.int .i64 e.I) := hS.cell 1; have x2 : W.cell? ⟨b, 2, none⟩ = some (.int .i64 e.P) := hS.cell 2; try go_simp))
  clear hK K
  refine flo_read _ rfl (fun K hK => ?_)
  go_simp
  first | (refine hK _ ?_) | (refine ⟨fun W hS => ?_, hK _ ?_⟩; · (have x0 : W.cell? ⟨b, 0, none⟩ = some (.int .i64 e.N) := hS.cell 0; have x1 : W.cell? ⟨b, 1, none⟩ = some (.int .i64 e.I) := hS.cell 1; have x2 : W.cell? ⟨b, 2, none⟩ = some (.int .i64 e.P) := hS.cell 2; try go_simp))
  clear hK K
  refine flo_read _ rfl (fun K hK => ?_)
  go_simp
  first | (refine hK _ ?_) | (refine ⟨fun W hS => ?_, hK _ ?_⟩; · (have x0 : W.cell? ⟨b, 0, none⟩ = some (.int .i64 e.N) := hS.cell 0; have x1 : W.cell? ⟨b, 1, none⟩ = some (.int .i64 e.I) := hS.cell 1; have x2 : W.cell? ⟨b, 2, none⟩ = some (.int .i64 e.P) := hS.cell 2; try go_simp))
  clear hK K
  refine flo_read _ rfl (fun K hK => ?_)
  go_simp
  first | (refine hK _ ?_) | (refine ⟨fun W hS => ?_, hK _ ?_⟩; · (have x0 : W.cell? ⟨b, 0, none⟩ = some (.int .i64 e.N) := hS.cell 0; have x1 : W.cell? ⟨b, 1, none⟩ = some (.int .i64 e.I) := hS.cell 1; have x2 : W.cell? ⟨b, 2, none⟩ = some (.int .i64 e.P) := hS.cell 2; try go_simp))
  clear hK K
  refine flo_read _ rfl (fun K hK => ?_)
  go_simp
  first | (refine hK _ ?_) | (refine ⟨fun W hS => ?_, hK _ ?_⟩; · (have x0 : W.cell? ⟨b, 0, none⟩ = some (.int .i64 e.N) := hS.cell 0; have x1 : W.cell? ⟨b, 1, none⟩ = some (.int .i64 e.I) := hS.cell 1; have x2 : W.cell? ⟨b, 2, none⟩ = some (.int .i64 e.P) := hS.cell 2; try go_simp))
  clear hK K
  refine flo_read _ rfl (fun K hK => ?_)
  go_simp
  first | (refine hK _ ?_) | (refine ⟨fun W hS => ?_, hK _ ?_⟩; · (have x0 : W.cell? ⟨b, 0, none⟩ = some (.int .i64 e.N) := hS.cell 0; have x1 : W.cell? ⟨b, 1, none⟩ = some (.int .i64 e.I) := hS.cell 1; have x2 : W.cell? ⟨b, 2, none⟩ = some (.int .i64 e.P) := hS.cell 2; try go_simp))
  clear hK K
  refine flo_read _ rfl (fun K hK => ?_)
  go_simp
  first | (refine hK _ ?_) | (refine ⟨fun W hS => ?_, hK _ ?_⟩; · (have x0 : W.cell? ⟨b, 0, none⟩ = some (.int .i64 e.N) := hS.cell 0; have x1 : W.cell? ⟨b, 1, none⟩ = some (.int .i64 e.I) := hS.cell 1; have x2 : W.cell? ⟨b, 2, none⟩ = some (.int .i64 e.P) := hS.cell 2; try go_simp))
  clear hK K
  refine flo_read _ rfl (fun K hK => ?_)
  go_simp
  first | (refine hK _ ?_) | (refine ⟨fun W hS => ?_, hK _ ?_⟩; · (have x0 : W.cell? ⟨b, 0, none⟩ = some (.int .i64 e.N) := hS.cell 0; have x1 : W.cell? ⟨b, 1, none⟩ = some (.int .i64 e.I) := hS.cell 1; have x2 : W.cell? ⟨b, 2, none⟩ = some (.int .i64 e.P) := hS.cell 2; try go_simp))
  clear hK K
  refine flo_read _ rfl (fun K hK => ?_)
  go_simp
  first | (refine hK _ ?_) | (refine ⟨fun W hS => ?_, hK _ ?_⟩; · (have x0 : W.cell? ⟨b, 0, none⟩ = some (.int .i64 e.N) := hS.cell 0; have x1 : W.cell? ⟨b, 1, none⟩ = some (.int .i64 e.I) := hS.cell 1; have x2 : W.cell? ⟨b, 2, none⟩ = some (.int .i64 e.P) := hS.cell 2; try go_simp))
  clear hK K
  refine flo_read _ rfl (fun K hK => ?_)
  go_simp
  first | (refine hK _ ?_) | (refine ⟨fun W hS => ?_, hK _ ?_⟩; · (have x0 : W.cell? ⟨b, 0, none⟩ = some (.int .i64 e.N) := hS.cell 0; have x1 : W.cell? ⟨b, 1, none⟩ = some (.int .i64 e.I) := hS.cell 1; have x2 : W.cell? ⟨b, 2, none⟩ = some (.int .i64 e.P) := hS.cell 2; try go_simp))
  clear hK K
  clear d0 d1 d2
  refine flo_alone _ rfl ?_
  go_wp2_with fail
  go_at_call 127
  refine Calls.mono (hNh.out _) ?_
  rintro e w2 ⟨rfl, t2⟩
  go_wp2_with fail
  refine ⟨fun W => Blk W b e.cells 75, fun W h => h, h1.turns t2 (by simp), ?_⟩
  have r2 := r1.turns t2 (by simp)
  have T2 := T1.trans t2
  clear h1 r1 T1 t2 hNh
  refine flo_read _ rfl (fun K hK => ?_)
  go_simp
  first | (refine hK _ ?_) | (refine ⟨fun W hS => ?_, hK _ ?_⟩; · (skip; try go_simp))
  clear hK K
  refine flo_read _ rfl (fun K hK => ?_)
  go_simp
  first | (refine hK _ ?_) | (refine ⟨fun W hS => ?_, hK _ ?_⟩; · (skip; try go_simp))
  clear hK K
  refine flo_read _ rfl (fun K hK => ?_)
  go_simp
  first | (refine hK _ ?_) | (refine ⟨fun W hS => ?_, hK _ ?_⟩; · (skip; try go_simp))
  clear hK K
  refine flo_read _ rfl (fun K hK => ?_)
  go_simp
  first | (refine hK _ ?_) | (refine ⟨fun W hS => ?_, hK _ ?_⟩; · (skip; try go_simp))
  clear hK K
  refine flo_read _ rfl (fun K hK => ?_)
  go_simp
  first | (refine hK _ ?_) | (refine ⟨fun W hS => ?_, hK _ ?_⟩; · (skip; try go_simp))
  clear hK K
  refine flo_end ?_
  have f0 := r2.frozen 0
  have f1 := r2.frozen 1
  have f2 := r2.frozen 2
  have f3 := r2.frozen 3
  have c0 : w2.cell? ⟨w.heap.size, 0, none⟩ = some (.bool false) := r2.cell 0
  have c1 : w2.cell? ⟨w.heap.size, 1, none⟩ = some (.int .i64 0) := r2.cell 1
  have c2 : w2.cell? ⟨w.heap.size, 2, none⟩ = some (.int .u64 0) := r2.cell 2
  have c3 : w2.cell? ⟨w.heap.size, 3, none⟩ = some (.bool false) := r2.cell 3
  have r6 := (((r2.set 0 (.bool false)).set 1 (.int .i64 0)).set 2 (.int .u64 0)).set 3 (.bool false)
  have T6 := (((T2.setCell (p := ⟨w.heap.size, 0, none⟩) (by simp) (.bool false)).setCell (p := ⟨w.heap.size, 1, none⟩) (by simp) (.int .i64 0)).setCell (p := ⟨w.heap.size, 2, none⟩) (by simp) (.int .u64 0)).setCell (p := ⟨w.heap.size, 3, none⟩) (by simp) (.bool false)
  go_wp2_with fail
  refine bodyPost_ret (res_list (rs := [.cell 2 160, .tmp 3]) rfl (by simp) (.cell w.heap.size _ _ _ rfl r6 Try.underlying160 rfl (by kernel_rfl) (.tmp .nil))) rfl ?_
  exact ⟨rfl, T6⟩
set_option maxHeartbeats 4000000 in
theorem dstand_is (w : World) (b : Nat) (e : El) (g : Int) (h : IsE 75 w b e) (hv : e.ok) (hx : nextE e = (g, 0)) (hg : e.P < g ∧ g ≤ 1099511627776) :
    Calls Try.prog 90 #[.pointer (some ⟨b, 0, none⟩)] w fun x w' => x = .returned (.tuple #[resV (!(El.stand e g).win) g (2 ^ e.I) (El.stand e g).win, .int .i64 0]) ∧ IsE 75 w' b (El.stand e g).won ∧ Turns [b] w w' := by
  have hN := dnext_e e hv
  rw [hx] at hN
  have hlt := Blk.lt h
  have hi64 : e.I < 64 := by have := hv.n; have := hv.i; omega
  have hn0 := hv.n
  have hp0 := hv.p
  have hW := rwith_yes 0 e.I (by omega) hi64
  rw [Nat.zero_or] at hW
  have hok := stand_ok hv hg
  have hRes := fun w2 (k : IsE 75 w2 b (El.stand e g)) => dwins_is w2 b (El.stand e g) k hok
  obtain ⟨won, hwon⟩ : ∃ won, (El.stand e g).win = won := ⟨_, rfl⟩
  obtain ⟨fin, hfin⟩ : ∃ fin, (El.stand e g).won = fin := ⟨_, rfl⟩
  have hfS : fin.S = 2 ^ e.I := by rw [← hfin]; rfl
  rw [hwon, hfin] at hRes ⊢
  obtain ⟨Q, hQ⟩ : ∃ Q, 2 ^ e.I = Q := ⟨_, rfl⟩
  have hcs : (El.stand e g).cells = #[.int .i64 e.N, .int .i64 e.I, .int .i64 g, .int .i64 (g / e.N), .int .i64 g, .int .u64 Q] := by rw [← hQ]; rfl
  rw [hQ] at hW hfS ⊢
  unfold resV
  have hcsh : Hid _ := hcs
  have hResh : Hid _ := hRes
  have hWh : Hid _ := hW
  have hfSh : Hid _ := hfS
  have hdiv : g.tdiv (e.N : Int) = g / e.N := Int.tdiv_eq_ediv_of_nonneg (by omega)
  have hwr : IntKind.i64.wrap (g / (e.N : Int)) = g / e.N := by
    have h3 := hok.r
    have h3' : 0 ≤ g / (e.N : Int) ∧ g / (e.N : Int) ≤ 1099511627776 := h3
    exact IntWalk.i64_in _ (by omega)
  have hnz : ((e.N : Int) == 0) = false := by simp; omega
  have hnz2 : ((e.N : Int) = 0) = False := eq_false (by omega)
  have hnz3 : (e.N = 0) = False := eq_false (by omega)
  have T0 := (Turns.refl [b] w).alloc (.cells #[.bool false, .int .i64 0, .int .u64 0, .bool false] 160)
  have h0 := Blk.alloc h (.cells #[.bool false, .int .i64 0, .int .u64 0, .bool false] 160)
  have r0 := Blk.new w #[.bool false, .int .i64 0, .int .u64 0, .bool false] 160
  have hNh : Hid _ := hN
  clear hN hx h hv hW hRes hcs hok hwon hfin hQ hg hp0 hn0 hi64 hfS
  go_enter Try.func90, Try.ntmps90
  have h1 := h0.drew
  have T1 := T0.drew
  have r1 := r0.drew
  go_wp2_with fail
  refine wp_region_flo [(0, true), (1, true), (2, true), (3, true), (4, true), (5, true), (6, true), (7, true), (8, true), (9, true), (10, true), (11, true), (12, false), (13, true), (14, true), (15, true), (16, true), (17, true)] (fun W => Blk W b e.cells 75) (by kernel_rfl) rfl (by kernel_rfl) (by intro c d v a w h; cases d <;> first | (simpa [Exit.then, Exit.inBlock, Act.put] using h) | exact h) (h1) ?_
  clear h0 T0 r0
  generalize (w.alloc (.cells #[.bool false, .int .i64 0, .int .u64 0, .bool false] 160)).drew = w1 at *
  have d0 : w1.cell? ⟨b, 0, none⟩ = some (.int .i64 e.N) := h1.cell 0
  have d1 : w1.cell? ⟨b, 1, none⟩ = some (.int .i64 e.I) := h1.cell 1
  have d2 : w1.cell? ⟨b, 2, none⟩ = some (.int .i64 e.P) := h1.cell 2
  refine flo_read _ rfl (fun K hK => ?_)
  go_simp
  first | (refine hK _ ?_) | (refine ⟨fun W hS => ?_, hK _ ?_⟩; · (have x0 : W.cell? ⟨b, 0, none⟩ = some (.int .i64 e.N) := hS.cell 0; have x1 : W.cell? ⟨b, 1, none⟩ = some (.int .i64 e.I) := hS.cell 1; have x2 : W.cell? ⟨b, 2, none⟩ = some (.int .i64 e.P) := hS.cell 2; try go_simp))
  clear hK K
  refine flo_read _ rfl (fun K hK => ?_)
  go_simp
  first | (refine hK _ ?_) | (refine ⟨fun W hS => ?_, hK _ ?_⟩; · (have x0 : W.cell? ⟨b, 0, none⟩ = some (.int .i64 e.N) := hS.cell 0; have x1 : W.cell? ⟨b, 1, none⟩ = some (.int .i64 e.I) := hS.cell 1; have x2 : W.cell? ⟨b, 2, none⟩ = some (.int .i64 e.P) := hS.cell 2; try go_simp))
  clear hK K
  refine flo_read _ rfl (fun K hK => ?_)
  go_simp
  first | (refine hK _ ?_) | (refine ⟨fun W hS => ?_, hK _ ?_⟩; · (have x0 : W.cell? ⟨b, 0, none⟩ = some (.int .i64 e.N) := hS.cell 0; have x1 : W.cell? ⟨b, 1, none⟩ = some (.int .i64 e.I) := hS.cell 1; have x2 : W.cell? ⟨b, 2, none⟩ = some (.int .i64 e.P) := hS.cell 2; try go_simp))
  clear hK K
  refine flo_read _ rfl (fun K hK => ?_)
  go_simp
  first | (refine hK _ ?_) | (refine ⟨fun W hS => ?_, hK _ ?_⟩; · (have x0 : W.cell? ⟨b, 0, none⟩ = some (.int .i64 e.N) := hS.cell 0; have x1 : W.cell? ⟨b, 1, none⟩ = some (.int .i64 e.I) := hS.cell 1; have x2 : W.cell? ⟨b, 2, none⟩ = some (.int .i64 e.P) := hS.cell 2; try go_simp))
  clear hK K
  refine flo_read _ rfl (fun K hK => ?_)
  go_simp
  first | (refine hK _ ?_) | (refine ⟨fun W hS => ?_, hK _ ?_⟩; · (have x0 : W.cell? ⟨b, 0, none⟩ = some (.int .i64 e.N) := hS.cell 0; have x1 : W.cell? ⟨b, 1, none⟩ = some (.int .i64 e.I) := hS.cell 1; have x2 : W.cell? ⟨b, 2, none⟩ = some (.int .i64 e.P) := hS.cell 2; try go_simp))
  clear hK K
  refine flo_read _ rfl (fun K hK => ?_)
  go_simp
  first | (refine hK _ ?_) | (refine ⟨fun W hS => ?_, hK _ ?_⟩; · (have x0 : W.cell? ⟨b, 0, none⟩ = some (.int .i64 e.N) := hS.cell 0; have x1 : W.cell? ⟨b, 1, none⟩ = some (.int .i64 e.I) := hS.cell 1; have x2 : W.cell? ⟨b, 2, none⟩ = some (.int .i64 e.P) := hS.cell 2; try go_simp))
  clear hK K
  refine flo_read _ rfl (fun K hK => ?_)
  go_simp
  first | (refine hK _ ?_) | (refine ⟨fun W hS => ?_, hK _ ?_⟩; · (have x0 : W.cell? ⟨b, 0, none⟩ = some (.int .i64 e.N) := hS.cell 0; have x1 : W.cell? ⟨b, 1, none⟩ = some (.int .i64 e.I) := hS.cell 1; have x2 : W.cell? ⟨b, 2, none⟩ = some (.int .i64 e.P) := hS.cell 2; try go_simp))
  clear hK K
  refine flo_read _ rfl (fun K hK => ?_)
  go_simp
  first | (refine hK _ ?_) | (refine ⟨fun W hS => ?_, hK _ ?_⟩; · (have x0 : W.cell? ⟨b, 0, none⟩ = some (.int .i64 e.N) := hS.cell 0; have x1 : W.cell? ⟨b, 1, none⟩ = some (.int .i64 e.I) := hS.cell 1; have x2 : W.cell? ⟨b, 2, none⟩ = some (.int .i64 e.P) := hS.cell 2; try go_simp))
  clear hK K
  refine flo_read _ rfl (fun K hK => ?_)
  go_simp
  first | (refine hK _ ?_) | (refine ⟨fun W hS => ?_, hK _ ?_⟩; · (have x0 : W.cell? ⟨b, 0, none⟩ = some (.int .i64 e.N) := hS.cell 0; have x1 : W.cell? ⟨b, 1, none⟩ = some (.int .i64 e.I) := hS.cell 1; have x2 : W.cell? ⟨b, 2, none⟩ = some (.int .i64 e.P) := hS.cell 2; try go_simp))
  clear hK K
  refine flo_read _ rfl (fun K hK => ?_)
  go_simp
  first | (refine hK _ ?_) | (refine ⟨fun W hS => ?_, hK _ ?_⟩; · (have x0 : W.cell? ⟨b, 0, none⟩ = some (.int .i64 e.N) := hS.cell 0; have x1 : W.cell? ⟨b, 1, none⟩ = some (.int .i64 e.I) := hS.cell 1; have x2 : W.cell? ⟨b, 2, none⟩ = some (.int .i64 e.P) := hS.cell 2; try go_simp))
  clear hK K
  refine flo_read _ rfl (fun K hK => ?_)
  go_simp
  first | (refine hK _ ?_) | (refine ⟨fun W hS => ?_, hK _ ?_⟩; · (have x0 : W.cell? ⟨b, 0, none⟩ = some (.int .i64 e.N) := hS.cell 0; have x1 : W.cell? ⟨b, 1, none⟩ = some (.int .i64 e.I) := hS.cell 1; have x2 : W.cell? ⟨b, 2, none⟩ = some (.int .i64 e.P) := hS.cell 2; try go_simp))
  clear hK K
  refine flo_read _ rfl (fun K hK => ?_)
  go_simp
  first | (refine hK _ ?_) | (refine ⟨fun W hS => ?_, hK _ ?_⟩; · (have x0 : W.cell? ⟨b, 0, none⟩ = some (.int .i64 e.N) := hS.cell 0; have x1 : W.cell? ⟨b, 1, none⟩ = some (.int .i64 e.I) := hS.cell 1; have x2 : W.cell? ⟨b, 2, none⟩ = some (.int .i64 e.P) := hS.cell 2; try go_simp))
  clear hK K
  clear d0 d1 d2
  refine flo_alone _ rfl ?_
  go_wp2_with fail
  go_at_call 127
  refine Calls.mono (hNh.out _) ?_
  rintro e w2 ⟨rfl, t2⟩
  go_wp2_with fail
  refine ⟨fun W => Blk W b e.cells 75, fun W h => h, h1.turns t2 (by simp), ?_⟩
  have h2 := h1.turns t2 (by simp)
  have r2 := r1.turns t2 (by simp)
  have T2 := T1.trans (t2.mono (by simp))
  clear h1 r1 T1 t2 hNh
  refine flo_read _ rfl (fun K hK => ?_)
  go_simp
  first | (refine hK _ ?_) | (refine ⟨fun W hS => ?_, hK _ ?_⟩; · (skip; try go_simp))
  clear hK K
  refine flo_read _ rfl (fun K hK => ?_)
  go_simp
  first | (refine hK _ ?_) | (refine ⟨fun W hS => ?_, hK _ ?_⟩; · (skip; try go_simp))
  clear hK K
  refine flo_read _ rfl (fun K hK => ?_)
  go_simp
  first | (refine hK _ ?_) | (refine ⟨fun W hS => ?_, hK _ ?_⟩; · (skip; try go_simp))
  clear hK K
  refine flo_read _ rfl (fun K hK => ?_)
  go_simp
  first | (refine hK _ ?_) | (refine ⟨fun W hS => ?_, hK _ ?_⟩; · (skip; try go_simp))
  clear hK K
  refine flo_read _ rfl (fun K hK => ?_)
  go_simp
  first | (refine hK _ ?_) | (refine ⟨fun W hS => ?_, hK _ ?_⟩; · (skip; try go_simp))
  clear hK K
  refine flo_end ?_
  have e0 : w2.cell? ⟨b, 0, none⟩ = some (.int .i64 e.N) := h2.cell 0
  have e1 : w2.cell? ⟨b, 1, none⟩ = some (.int .i64 e.I) := h2.cell 1
  have e2 : w2.cell? ⟨b, 2, none⟩ = some (.int .i64 e.P) := h2.cell 2
  have e3 : w2.cell? ⟨b, 3, none⟩ = some (.int .i64 e.R) := h2.cell 3
  have e4 : w2.cell? ⟨b, 4, none⟩ = some (.int .i64 e.B) := h2.cell 4
  have f2 := h2.frozen 2
  have f3 := h2.frozen 3
  have f4 := h2.frozen 4
  have h5 := ((h2.set 2 (.int .i64 g)).set 3 (.int .i64 (g / e.N))).set 4 (.int .i64 g)
  have T5 := ((T2.setCell (p := ⟨b, 2, none⟩) (by simp) (.int .i64 g)).setCell (p := ⟨b, 3, none⟩) (by simp) (.int .i64 (g / e.N))).setCell (p := ⟨b, 4, none⟩) (by simp) (.int .i64 g)
  have r5 := ((r2.far (p := ⟨b, 2, none⟩) (by simp; omega) (.int .i64 g)).far (p := ⟨b, 3, none⟩) (by simp; omega) (.int .i64 (g / e.N))).far (p := ⟨b, 4, none⟩) (by simp; omega) (.int .i64 g)
  clear h2 T2 r2
  go_wp2_with fail
  go_at_call 128
  refine Calls.mono (hWh.out _) ?_
  rintro e w4 ⟨rfl, t4⟩
  have h6 := h5.turns t4 (by simp)
  have T6 := T5.trans (t4.mono (by simp))
  have r6 := r5.turns t4 (by simp)
  clear h5 T5 r5 t4 hWh e0 e1 e2 e3 e4 f2 f3 f4
  have e5 : w4.cell? ⟨b, 5, none⟩ = some (.int .u64 e.S) := h6.cell 5
  have f5 := h6.frozen 5
  have h8 : Blk (w4.setCell ⟨b, 5, none⟩ (.int .u64 Q)) b #[.int .i64 e.N, .int .i64 e.I, .int .i64 g, .int .i64 (g / e.N), .int .i64 g, .int .u64 Q] 75 := h6.set 5 (.int .u64 Q)
  rw [← hcsh.out] at h8
  have T8 := T6.setCell (p := ⟨b, 5, none⟩) (by simp) (.int .u64 Q)
  have r8 := r6.far (p := ⟨b, 5, none⟩) (by simp; omega) (.int .u64 Q)
  clear h6 T6 r6 hcsh
  go_wp2_with fail
  go_at_call 129
  refine Calls.mono (hResh.out _ h8) ?_
  rintro e w9 ⟨rfl, h9, t9⟩
  have T9 := T8.trans t9
  have r9 := r8.turns t9 (by simp; omega)
  have hs9 := r9.lt
  have d5 : w9.cell? ⟨b, 5, none⟩ = some (.int .u64 Q) := by have h5 : w9.cell? ⟨b, 5, none⟩ = some (.int .u64 fin.S) := Blk.cell h9 5; rw [hfSh.out] at h5; exact h5
  clear h8 T8 r8 t9 hResh e5 f5 hfSh
  have f0 := r9.frozen 0
  have f1 := r9.frozen 1
  have f2 := r9.frozen 2
  have f3 := r9.frozen 3
  have c0 : w9.cell? ⟨w.heap.size, 0, none⟩ = some (.bool false) := r9.cell 0
  have c1 : w9.cell? ⟨w.heap.size, 1, none⟩ = some (.int .i64 0) := r9.cell 1
  have c2 : w9.cell? ⟨w.heap.size, 2, none⟩ = some (.int .u64 0) := r9.cell 2
  have c3 : w9.cell? ⟨w.heap.size, 3, none⟩ = some (.bool false) := r9.cell 3
  go_wp2_with fail
  have hne : b ≠ w.heap.size := by omega
  have rF := (((r9.set 0 (.bool (!won))).set 1 (.int .i64 g)).set 2 (.int .u64 Q)).set 3 (.bool won)
  have hF := (((Blk.far h9 (p := ⟨w.heap.size, 0, none⟩) hne (.bool (!won))).far (p := ⟨w.heap.size, 1, none⟩) hne (.int .i64 g)).far (p := ⟨w.heap.size, 2, none⟩) hne (.int .u64 Q)).far (p := ⟨w.heap.size, 3, none⟩) hne (.bool won)
  have TF := (((T9.setCell (p := ⟨w.heap.size, 0, none⟩) (by simp) (.bool (!won))).setCell (p := ⟨w.heap.size, 1, none⟩) (by simp) (.int .i64 g)).setCell (p := ⟨w.heap.size, 2, none⟩) (by simp) (.int .u64 Q)).setCell (p := ⟨w.heap.size, 3, none⟩) (by simp) (.bool won)
  refine bodyPost_ret (res_list (rs := [.cell 2 160, .tmp 3]) rfl (by simp) (.cell w.heap.size _ _ _ rfl rF Try.underlying160 rfl (by kernel_rfl) (.tmp .nil))) rfl ?_
  exact ⟨rfl, hF, TF⟩
end Go.Proofs.Ythnegmpdadkkcaa.En
