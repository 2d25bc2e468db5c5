/- The walks of elect's Election, and the document's. -/
import Derived.Test.YthnegmpdadkkcaaRg
import Derived.Test.YthnegmpdadkkcaaCn
import Derived.Test.YthnegmpdadkkcaaHf
import Derived.Test.YthnegmpdadkkcaaHv
set_option linter.unusedVariables false
set_option linter.unusedSimpArgs false
set_option maxRecDepth 100000
namespace Go.Proofs.Ythnegmpdadkkcaa.El
open Go.RowKit Go.MapKept Hm Hs Hr Hc Hd Hf Hv Rg Cn
structure El where
  N : Nat
  I : Nat
  P : Int
  R : Int
  B : Int
  S : Nat
def El.cells (e : El) : Array Value := #[.int .i64 e.N, .int .i64 e.I, .int .i64 e.P, .int .i64 e.R, .int .i64 e.B, .int .u64 e.S]
structure El.ok (e : El) : Prop where
  n : 1 ≤ e.N ∧ e.N ≤ 64
  i : e.I < e.N
  p : 0 ≤ e.P ∧ e.P ≤ 1099511627776
  r : 0 ≤ e.R ∧ e.R ≤ 1099511627776
  b : e.B = 0 ∨ e.B = e.P
  s : e.S < 18446744073709551616
def IsE (T : TypeId) (w : World) (b : Nat) (e : El) : Prop := Blk w b e.cells T
/-- a majority -/
def El.win (e : El) : Bool := decide (e.N < 2 * ones e.N e.S)
/-- what comes of bits: it stands no more, if it won -/
def El.won (e : El) : El := { e with B := if e.win then 0 else e.B }
def resV (send : Bool) (gen : Int) (bits : Nat) (won : Bool) : Value := .agg #[.bool send, .int .i64 gen, .int .u64 bits, .bool won]
theorem mask_lt {N : Nat} (h : 1 ≤ N ∧ N ≤ 64) : 2 ^ N - 1 < 18446744073709551616 := by
  have : 2 ^ N ≤ 2 ^ 64 := Nat.pow_le_pow_right (by omega) h.2
  omega
set_option maxHeartbeats 1000000 in
theorem result_is (w : World) (b : Nat) (e : El) (h : IsE 159 w b e) (hv : e.ok) :
    Calls Try.prog 95 #[.pointer (some ⟨b, 0, none⟩)] w fun x w' => x = .returned (resV false e.P e.S e.win) ∧ IsE 159 w' b e.won ∧ Turns [b] w w' := by
  obtain ⟨N, I, P, R, B, S⟩ := e
  obtain ⟨hn, hi, hp, hr, hbb, hs⟩ := hv
  simp only at hn hi hp hr hbb hs
  unfold IsE El.cells at *
  simp only at h
  have hz := u64_and_nat S (2 ^ N - 1) hs (mask_lt hn)
  have hm := ones_mask hn.2 S
  obtain ⟨z, hz2⟩ : ∃ z, S &&& (2 ^ N - 1) = z := ⟨_, rfl⟩
  obtain ⟨m, hm2⟩ : ∃ m, 2 ^ N - 1 = m := ⟨_, rfl⟩
  have hzl : z < 18446744073709551616 := by rw [← hz2]; exact Nat.lt_of_le_of_lt Nat.and_le_left hs
  rw [hz2] at hz hm
  rw [hm2] at hz
  have hA := all_yes N hn
  rw [hm2] at hA
  have hC := count_is z hzl
  rw [hm] at hC
  obtain ⟨o, ho⟩ : ∃ o, ones N S = o := ⟨_, rfl⟩
  have hol : o ≤ 64 := by rw [← ho]; exact Nat.le_trans (ones_le N S) hn.2
  rw [ho] at hC
  have hM := majority_is N ⟨hn.1, by omega⟩
  obtain ⟨M, hMM⟩ : ∃ M, N / 2 + 1 = M := ⟨_, rfl⟩
  rw [hMM] at hM
  have hAh : Hid _ := hA
  have hCh : Hid _ := hC
  have hMh : Hid _ := hM
  have hw : El.win ⟨N, I, P, R, B, S⟩ = decide (N < 2 * o) := by unfold El.win; simp only [ho]
  unfold El.won
  rw [hw]
  simp only
  obtain ⟨won, hwon⟩ : ∃ won, decide (N < 2 * o) = won := ⟨_, rfl⟩
  rw [hwon]
  have g1 : decide (M ≤ o) = won := by rw [← hwon]; congr 1; exact propext ⟨fun h => by omega, fun h => by omega⟩
  have g2 : decide ((o : Int) ≥ (M : Int)) = won := by rw [← g1]; congr 1; exact propext ⟨fun h => by omega, fun h => by omega⟩
  have hlt := h.lt
  have T0 := (Turns.refl [b] w).alloc (.cells #[.bool false, .int .i64 0, .int .u64 0, .bool false] 77)
  have h0 := h.alloc (.cells #[.bool false, .int .i64 0, .int .u64 0, .bool false] 77)
  have r0 := Blk.new w #[.bool false, .int .i64 0, .int .u64 0, .bool false] 77
  have hq : ∀ W, Blk W b #[.int .i64 N, .int .i64 I, .int .i64 P, .int .i64 R, .int .i64 B, .int .u64 S] 159 → W.cell? ⟨b, 0, none⟩ = some (.int .i64 N) ∧ W.cell? ⟨b, 5, none⟩ = some (.int .u64 S) := fun W k => ⟨k.cell 0, k.cell 5⟩
  clear hwon hMM hA hC hM hz2 hm hm2 ho hw h hs hzl
  go_enter Try.func95, Try.ntmps95
  have h1 := h0.drew
  have T1 := T0.drew
  have r1 := r0.drew
  go_wp2_with fail
  refine wp_region_flo [(0, true), (1, true), (2, true), (3, true), (4, true), (5, true), (6, true), (7, true), (11, true), (12, true), (13, true), (14, true), (8, false), (9, true), (10, false), (15, false), (16, true), (17, true)] (fun W => Blk W b #[.int .i64 N, .int .i64 I, .int .i64 P, .int .i64 R, .int .i64 B, .int .u64 S] 159) (by kernel_rfl) rfl (by kernel_rfl) (by intro c d v a w h; cases d <;> first | (simpa [Exit.then, Exit.inBlock, Act.put] using h) | exact h) (h1) ?_
  clear h0 T0 r0
  generalize (w.alloc (.cells #[.bool false, .int .i64 0, .int .u64 0, .bool false] 77)).drew = w1 at *
  obtain ⟨d0, d5⟩ := hq _ h1
  refine flo_read _ rfl (fun K hK => ?_)
  go_simp
  first | (refine hK _ ?_) | (refine ⟨fun W hS => ?_, hK _ ?_⟩; · (obtain ⟨x0, x5⟩ := hq W hS; try go_simp))
  clear hK K
  refine flo_read _ rfl (fun K hK => ?_)
  go_simp
  first | (refine hK _ ?_) | (refine ⟨fun W hS => ?_, hK _ ?_⟩; · (obtain ⟨x0, x5⟩ := hq W hS; try go_simp))
  clear hK K
  refine flo_read _ rfl (fun K hK => ?_)
  go_simp
  first | (refine hK _ ?_) | (refine ⟨fun W hS => ?_, hK _ ?_⟩; · (obtain ⟨x0, x5⟩ := hq W hS; try go_simp))
  clear hK K
  refine flo_read _ rfl (fun K hK => ?_)
  go_simp
  first | (refine hK _ ?_) | (refine ⟨fun W hS => ?_, hK _ ?_⟩; · (obtain ⟨x0, x5⟩ := hq W hS; try go_simp))
  clear hK K
  refine flo_read _ rfl (fun K hK => ?_)
  go_simp
  first | (refine hK _ ?_) | (refine ⟨fun W hS => ?_, hK _ ?_⟩; · (obtain ⟨x0, x5⟩ := hq W hS; try go_simp))
  clear hK K
  refine flo_read _ rfl (fun K hK => ?_)
  go_simp
  first | (refine hK _ ?_) | (refine ⟨fun W hS => ?_, hK _ ?_⟩; · (obtain ⟨x0, x5⟩ := hq W hS; try go_simp))
  clear hK K
  refine flo_read _ rfl (fun K hK => ?_)
  go_simp
  first | (refine hK _ ?_) | (refine ⟨fun W hS => ?_, hK _ ?_⟩; · (obtain ⟨x0, x5⟩ := hq W hS; try go_simp))
  clear hK K
  refine flo_read _ rfl (fun K hK => ?_)
  go_simp
  first | (refine hK _ ?_) | (refine ⟨fun W hS => ?_, hK _ ?_⟩; · (obtain ⟨x0, x5⟩ := hq W hS; try go_simp))
  clear hK K
  refine flo_read _ rfl (fun K hK => ?_)
  go_simp
  first | (refine hK _ ?_) | (refine ⟨fun W hS => ?_, hK _ ?_⟩; · (obtain ⟨x0, x5⟩ := hq W hS; try go_simp))
  clear hK K
  refine flo_read _ rfl (fun K hK => ?_)
  go_simp
  first | (refine hK _ ?_) | (refine ⟨fun W hS => ?_, hK _ ?_⟩; · (obtain ⟨x0, x5⟩ := hq W hS; try go_simp))
  clear hK K
  refine flo_read _ rfl (fun K hK => ?_)
  go_simp
  first | (refine hK _ ?_) | (refine ⟨fun W hS => ?_, hK _ ?_⟩; · (obtain ⟨x0, x5⟩ := hq W hS; try go_simp))
  clear hK K
  refine flo_read _ rfl (fun K hK => ?_)
  go_simp
  first | (refine hK _ ?_) | (refine ⟨fun W hS => ?_, hK _ ?_⟩; · (obtain ⟨x0, x5⟩ := hq W hS; try go_simp))
  clear hK K
  clear d0 d5
  refine flo_alone _ rfl ?_
  go_wp2_with fail
  go_at_call 87
  refine Calls.mono (hAh.out _) ?_
  rintro e w2 ⟨rfl, t2⟩
  go_wp2_with fail
  refine ⟨fun W => Blk W b #[.int .i64 N, .int .i64 I, .int .i64 P, .int .i64 R, .int .i64 B, .int .u64 S] 159, fun W h => h, h1.turns t2 (by simp), ?_⟩
  have h2 := h1.turns t2 (by simp)
  have r2 := r1.turns t2 (by simp)
  have T2 := T1.trans (t2.mono (by simp))
  clear h1 r1 T1 t2
  refine flo_read _ rfl (fun K hK => ?_)
  go_simp
  first | (refine hK _ ?_) | (refine ⟨fun W hS => ?_, hK _ ?_⟩; · (skip; try go_simp))
  clear hK K
  refine flo_alone _ rfl ?_
  go_wp2_with fail
  go_at_call 130
  refine Calls.mono (hCh.out _) ?_
  rintro e w3 ⟨rfl, t3⟩
  go_wp2_with fail
  refine ⟨fun W => Blk W b #[.int .i64 N, .int .i64 I, .int .i64 P, .int .i64 R, .int .i64 B, .int .u64 S] 159, fun W h => h, h2.turns t3 (by simp), ?_⟩
  have h3 := h2.turns t3 (by simp)
  have r3 := r2.turns t3 (by simp)
  have T3 := T2.trans (t3.mono (by simp))
  have d0 : w3.cell? ⟨b, 0, none⟩ = some _ := h3.cell 0
  clear h2 r2 T2 t3 hAh hCh hz
  refine flo_alone _ rfl ?_
  go_wp2_with fail
  go_at_call 96
  refine Calls.mono (hMh.out _) ?_
  rintro e w4 ⟨rfl, t4⟩
  go_wp2_with fail
  refine ⟨fun W => Blk W b #[.int .i64 N, .int .i64 I, .int .i64 P, .int .i64 R, .int .i64 B, .int .u64 S] 159, fun W h => h, h3.turns t4 (by simp), ?_⟩
  have h4 := h3.turns t4 (by simp)
  have r4 := r3.turns t4 (by simp)
  have T4 := T3.trans (t4.mono (by simp))
  clear h3 r3 T3 t4 hMh d0
  refine flo_read _ rfl (fun K hK => ?_)
  go_simp
  first | (refine hK _ ?_) | (refine ⟨fun W hS => ?_, hK _ ?_⟩; · (skip; try go_simp))
  clear hK K
  refine flo_read _ rfl (fun K hK => ?_)
  go_simp
  first | (refine hK _ ?_) | (refine ⟨fun W hS => ?_, hK _ ?_⟩; · (skip; try go_simp))
  clear hK K
  refine flo_end ?_
  clear g1 g2
  cases won
  case true =>
    have f4 := h4.frozen 4
    have d4 : w4.cell? ⟨b, 4, none⟩ = some (.int .i64 B) := h4.cell 4
    have hne : w.heap.size ≠ b := by omega
    have h5 := h4.set 4 (.int .i64 0)
    have r5 := r4.far (p := ⟨b, 4, none⟩) hne (.int .i64 0)
    have T5 := T4.setCell (p := ⟨b, 4, none⟩) (by simp) (.int .i64 0)
    have h5d := h5.drew
    have T5d := T5.drew
    have r5d := r5.drew
    clear h4 r4 T4
    go_wp2_with fail
    refine wp_region_flo [(0, true), (1, true), (2, true), (3, true), (4, true), (5, true), (6, true), (7, true), (8, true), (9, true), (10, false)] (fun W => Blk W b #[.int .i64 N, .int .i64 I, .int .i64 P, .int .i64 R, .int .i64 0, .int .u64 S] 159) (by kernel_rfl) rfl (by kernel_rfl) (by intro c d v a w h; cases d <;> first | (simpa [Exit.then, Exit.inBlock, Act.put] using h) | exact h) (h5d) ?_
    clear h5 T5 r5
    clear d4 f4
    generalize (w4.setCell ⟨b, 4, none⟩ (.int .i64 0)).drew = w5 at *
    have d2 : w5.cell? ⟨b, 2, none⟩ = some (.int .i64 P) := h5d.cell 2
    have d5 : w5.cell? ⟨b, 5, none⟩ = some (.int .u64 S) := h5d.cell 5
    refine flo_read _ rfl (fun K hK => ?_)
    go_simp
    first | (refine hK _ ?_) | (refine ⟨fun W hS => ?_, hK _ ?_⟩; · (have x2 : W.cell? ⟨b, 2, none⟩ = some (.int .i64 P) := hS.cell 2; have x5 : W.cell? ⟨b, 5, none⟩ = some (.int .u64 S) := hS.cell 5; try go_simp))
    clear hK K
    refine flo_read _ rfl (fun K hK => ?_)
    go_simp
    first | (refine hK _ ?_) | (refine ⟨fun W hS => ?_, hK _ ?_⟩; · (have x2 : W.cell? ⟨b, 2, none⟩ = some (.int .i64 P) := hS.cell 2; have x5 : W.cell? ⟨b, 5, none⟩ = some (.int .u64 S) := hS.cell 5; try go_simp))
    clear hK K
    refine flo_read _ rfl (fun K hK => ?_)
    go_simp
    first | (refine hK _ ?_) | (refine ⟨fun W hS => ?_, hK _ ?_⟩; · (have x2 : W.cell? ⟨b, 2, none⟩ = some (.int .i64 P) := hS.cell 2; have x5 : W.cell? ⟨b, 5, none⟩ = some (.int .u64 S) := hS.cell 5; try go_simp))
    clear hK K
    refine flo_read _ rfl (fun K hK => ?_)
    go_simp
    first | (refine hK _ ?_) | (refine ⟨fun W hS => ?_, hK _ ?_⟩; · (have x2 : W.cell? ⟨b, 2, none⟩ = some (.int .i64 P) := hS.cell 2; have x5 : W.cell? ⟨b, 5, none⟩ = some (.int .u64 S) := hS.cell 5; try go_simp))
    clear hK K
    refine flo_read _ rfl (fun K hK => ?_)
    go_simp
    first | (refine hK _ ?_) | (refine ⟨fun W hS => ?_, hK _ ?_⟩; · (have x2 : W.cell? ⟨b, 2, none⟩ = some (.int .i64 P) := hS.cell 2; have x5 : W.cell? ⟨b, 5, none⟩ = some (.int .u64 S) := hS.cell 5; try go_simp))
    clear hK K
    refine flo_read _ rfl (fun K hK => ?_)
    go_simp
    first | (refine hK _ ?_) | (refine ⟨fun W hS => ?_, hK _ ?_⟩; · (have x2 : W.cell? ⟨b, 2, none⟩ = some (.int .i64 P) := hS.cell 2; have x5 : W.cell? ⟨b, 5, none⟩ = some (.int .u64 S) := hS.cell 5; try go_simp))
    clear hK K
    refine flo_read _ rfl (fun K hK => ?_)
    go_simp
    first | (refine hK _ ?_) | (refine ⟨fun W hS => ?_, hK _ ?_⟩; · (have x2 : W.cell? ⟨b, 2, none⟩ = some (.int .i64 P) := hS.cell 2; have x5 : W.cell? ⟨b, 5, none⟩ = some (.int .u64 S) := hS.cell 5; try go_simp))
    clear hK K
    refine flo_read _ rfl (fun K hK => ?_)
    go_simp
    first | (refine hK _ ?_) | (refine ⟨fun W hS => ?_, hK _ ?_⟩; · (have x2 : W.cell? ⟨b, 2, none⟩ = some (.int .i64 P) := hS.cell 2; have x5 : W.cell? ⟨b, 5, none⟩ = some (.int .u64 S) := hS.cell 5; try go_simp))
    clear hK K
    refine flo_read _ rfl (fun K hK => ?_)
    go_simp
    first | (refine hK _ ?_) | (refine ⟨fun W hS => ?_, hK _ ?_⟩; · (have x2 : W.cell? ⟨b, 2, none⟩ = some (.int .i64 P) := hS.cell 2; have x5 : W.cell? ⟨b, 5, none⟩ = some (.int .u64 S) := hS.cell 5; try go_simp))
    clear hK K
    refine flo_read _ rfl (fun K hK => ?_)
    go_simp
    first | (refine hK _ ?_) | (refine ⟨fun W hS => ?_, hK _ ?_⟩; · (have x2 : W.cell? ⟨b, 2, none⟩ = some (.int .i64 P) := hS.cell 2; have x5 : W.cell? ⟨b, 5, none⟩ = some (.int .u64 S) := hS.cell 5; try go_simp))
    clear hK K
    clear d2 d5
    have f0 := r5d.frozen 0
    have c0 : w5.cell? ⟨w.heap.size, 0, none⟩ = some (.bool false) := r5d.cell 0
    have c1 : w5.cell? ⟨w.heap.size, 1, none⟩ = some (.int .i64 0) := r5d.cell 1
    have c2 : w5.cell? ⟨w.heap.size, 2, none⟩ = some (.int .u64 0) := r5d.cell 2
    have c3 : w5.cell? ⟨w.heap.size, 3, none⟩ = some (.bool false) := r5d.cell 3
    have f1 := r5d.frozen 1
    have f2 := r5d.frozen 2
    have f3 := r5d.frozen 3
    have r6 := (((r5d.set 0 (.bool false)).set 1 (.int .i64 P)).set 2 (.int .u64 S)).set 3 (.bool true)
    refine flo_alone _ rfl ?_
    go_wp2_with fail
    have h6 := ((((h5d.far (p := ⟨w.heap.size, 0, none⟩) (Ne.symm hne) (.bool false)).far (p := ⟨w.heap.size, 1, none⟩) (Ne.symm hne) (.int .i64 P)).far (p := ⟨w.heap.size, 2, none⟩) (Ne.symm hne) (.int .u64 S)).far (p := ⟨w.heap.size, 3, none⟩) (Ne.symm hne) (.bool true))
    have T6 := (((T5d.setCell (p := ⟨w.heap.size, 0, none⟩) (by simp) (.bool false)).setCell (p := ⟨w.heap.size, 1, none⟩) (by simp) (.int .i64 P)).setCell (p := ⟨w.heap.size, 2, none⟩) (by simp) (.int .u64 S)).setCell (p := ⟨w.heap.size, 3, none⟩) (by simp) (.bool true)
    refine ⟨_, fun _ h => h, h6, ?_⟩
    refine flo_end ?_
    go_wp2_with fail
    refine bodyPost_ret (res_one rfl (.cell w.heap.size _ _ _ rfl r6 Try.underlying77 rfl (by kernel_rfl) .nil)) rfl ?_
    exact ⟨rfl, h6, T6⟩
  case false =>
    go_wp2_with fail
    have hne : w.heap.size ≠ b := by omega
    have h5d := h4.drew
    have T5d := T4.drew
    have r5d := r4.drew
    clear h4 r4 T4
    go_wp2_with fail
    refine wp_region_flo [(0, true), (1, true), (2, true), (3, true), (4, true), (5, true), (6, true), (7, true), (8, true), (9, true), (10, false)] (fun W => Blk W b #[.int .i64 N, .int .i64 I, .int .i64 P, .int .i64 R, .int .i64 B, .int .u64 S] 159) (by kernel_rfl) rfl (by kernel_rfl) (by intro c d v a w h; cases d <;> first | (simpa [Exit.then, Exit.inBlock, Act.put] using h) | exact h) (h5d) ?_
    generalize w4.drew = w5 at *
    have d2 : w5.cell? ⟨b, 2, none⟩ = some (.int .i64 P) := h5d.cell 2
    have d5 : w5.cell? ⟨b, 5, none⟩ = some (.int .u64 S) := h5d.cell 5
    refine flo_read _ rfl (fun K hK => ?_)
    go_simp
    first | (refine hK _ ?_) | (refine ⟨fun W hS => ?_, hK _ ?_⟩; · (have x2 : W.cell? ⟨b, 2, none⟩ = some (.int .i64 P) := hS.cell 2; have x5 : W.cell? ⟨b, 5, none⟩ = some (.int .u64 S) := hS.cell 5; try go_simp))
    clear hK K
    refine flo_read _ rfl (fun K hK => ?_)
    go_simp
    first | (refine hK _ ?_) | (refine ⟨fun W hS => ?_, hK _ ?_⟩; · (have x2 : W.cell? ⟨b, 2, none⟩ = some (.int .i64 P) := hS.cell 2; have x5 : W.cell? ⟨b, 5, none⟩ = some (.int .u64 S) := hS.cell 5; try go_simp))
    clear hK K
    refine flo_read _ rfl (fun K hK => ?_)
    go_simp
    first | (refine hK _ ?_) | (refine ⟨fun W hS => ?_, hK _ ?_⟩; · (have x2 : W.cell? ⟨b, 2, none⟩ = some (.int .i64 P) := hS.cell 2; have x5 : W.cell? ⟨b, 5, none⟩ = some (.int .u64 S) := hS.cell 5; try go_simp))
    clear hK K
    refine flo_read _ rfl (fun K hK => ?_)
    go_simp
    first | (refine hK _ ?_) | (refine ⟨fun W hS => ?_, hK _ ?_⟩; · (have x2 : W.cell? ⟨b, 2, none⟩ = some (.int .i64 P) := hS.cell 2; have x5 : W.cell? ⟨b, 5, none⟩ = some (.int .u64 S) := hS.cell 5; try go_simp))
    clear hK K
    refine flo_read _ rfl (fun K hK => ?_)
    go_simp
    first | (refine hK _ ?_) | (refine ⟨fun W hS => ?_, hK _ ?_⟩; · (have x2 : W.cell? ⟨b, 2, none⟩ = some (.int .i64 P) := hS.cell 2; have x5 : W.cell? ⟨b, 5, none⟩ = some (.int .u64 S) := hS.cell 5; try go_simp))
    clear hK K
    refine flo_read _ rfl (fun K hK => ?_)
    go_simp
    first | (refine hK _ ?_) | (refine ⟨fun W hS => ?_, hK _ ?_⟩; · (have x2 : W.cell? ⟨b, 2, none⟩ = some (.int .i64 P) := hS.cell 2; have x5 : W.cell? ⟨b, 5, none⟩ = some (.int .u64 S) := hS.cell 5; try go_simp))
    clear hK K
    refine flo_read _ rfl (fun K hK => ?_)
    go_simp
    first | (refine hK _ ?_) | (refine ⟨fun W hS => ?_, hK _ ?_⟩; · (have x2 : W.cell? ⟨b, 2, none⟩ = some (.int .i64 P) := hS.cell 2; have x5 : W.cell? ⟨b, 5, none⟩ = some (.int .u64 S) := hS.cell 5; try go_simp))
    clear hK K
    refine flo_read _ rfl (fun K hK => ?_)
    go_simp
    first | (refine hK _ ?_) | (refine ⟨fun W hS => ?_, hK _ ?_⟩; · (have x2 : W.cell? ⟨b, 2, none⟩ = some (.int .i64 P) := hS.cell 2; have x5 : W.cell? ⟨b, 5, none⟩ = some (.int .u64 S) := hS.cell 5; try go_simp))
    clear hK K
    refine flo_read _ rfl (fun K hK => ?_)
    go_simp
    first | (refine hK _ ?_) | (refine ⟨fun W hS => ?_, hK _ ?_⟩; · (have x2 : W.cell? ⟨b, 2, none⟩ = some (.int .i64 P) := hS.cell 2; have x5 : W.cell? ⟨b, 5, none⟩ = some (.int .u64 S) := hS.cell 5; try go_simp))
    clear hK K
    refine flo_read _ rfl (fun K hK => ?_)
    go_simp
    first | (refine hK _ ?_) | (refine ⟨fun W hS => ?_, hK _ ?_⟩; · (have x2 : W.cell? ⟨b, 2, none⟩ = some (.int .i64 P) := hS.cell 2; have x5 : W.cell? ⟨b, 5, none⟩ = some (.int .u64 S) := hS.cell 5; try go_simp))
    clear hK K
    clear d2 d5
    have f0 := r5d.frozen 0
    have c0 : w5.cell? ⟨w.heap.size, 0, none⟩ = some (.bool false) := r5d.cell 0
    have c1 : w5.cell? ⟨w.heap.size, 1, none⟩ = some (.int .i64 0) := r5d.cell 1
    have c2 : w5.cell? ⟨w.heap.size, 2, none⟩ = some (.int .u64 0) := r5d.cell 2
    have c3 : w5.cell? ⟨w.heap.size, 3, none⟩ = some (.bool false) := r5d.cell 3
    have f1 := r5d.frozen 1
    have f2 := r5d.frozen 2
    have f3 := r5d.frozen 3
    have r6 := (((r5d.set 0 (.bool false)).set 1 (.int .i64 P)).set 2 (.int .u64 S)).set 3 (.bool false)
    refine flo_alone _ rfl ?_
    go_wp2_with fail
    have h6 := ((((h5d.far (p := ⟨w.heap.size, 0, none⟩) (Ne.symm hne) (.bool false)).far (p := ⟨w.heap.size, 1, none⟩) (Ne.symm hne) (.int .i64 P)).far (p := ⟨w.heap.size, 2, none⟩) (Ne.symm hne) (.int .u64 S)).far (p := ⟨w.heap.size, 3, none⟩) (Ne.symm hne) (.bool false))
    have T6 := (((T5d.setCell (p := ⟨w.heap.size, 0, none⟩) (by simp) (.bool false)).setCell (p := ⟨w.heap.size, 1, none⟩) (by simp) (.int .i64 P)).setCell (p := ⟨w.heap.size, 2, none⟩) (by simp) (.int .u64 S)).setCell (p := ⟨w.heap.size, 3, none⟩) (by simp) (.bool false)
    refine ⟨_, fun _ h => h, h6, ?_⟩
    refine flo_end ?_
    go_wp2_with fail
    refine bodyPost_ret (res_one rfl (.cell w.heap.size _ _ _ rfl r6 Try.underlying77 rfl (by kernel_rfl) .nil)) rfl ?_
    exact ⟨rfl, h6, T6⟩
end Go.Proofs.Ythnegmpdadkkcaa.El
