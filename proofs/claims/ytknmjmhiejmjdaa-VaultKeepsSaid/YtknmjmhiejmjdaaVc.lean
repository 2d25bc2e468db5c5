/- The walks of vault's State, Records, bytes, read, and the document's Rises, Last, Bytes; the law's Of. -/
import Derived.Test.YtknmjmhiejmjdaaVb
set_option linter.unusedVariables false
set_option linter.unusedSimpArgs false
set_option maxRecDepth 100000
namespace Go.Proofs.Ytknmjmhiejmjdaa.Vc
open Go.RowKit Go.MapKept Go.ChangeShapes Go.WideShapes Hm Hs Hr Hf Hg Hv Ho Dk Dr Kw Kr Va Vb
set_option maxHeartbeats 2000000 in
theorem drises_is (w : World) (a b : V4) : Calls Try.prog 20 #[.agg #[.int .i64 a.p, .int .i64 a.g, .int .i64 a.h, .int .i64 a.r], .agg #[.int .i64 b.p, .int .i64 b.g, .int .i64 b.h, .int .i64 b.r]] w fun e w' => e = .returned (.bool (a.rises b)) ∧ Turns [] w w' := by
  obtain ⟨p, g, h, r⟩ := a
  obtain ⟨p', g', h', r'⟩ := b
  have T0 := ((Turns.refl [] w).alloc (.cells #[.int .i64 p, .int .i64 g, .int .i64 h, .int .i64 r] 47)).alloc (.cells #[.int .i64 p', .int .i64 g', .int .i64 h', .int .i64 r'] 47)
  obtain ⟨R, hR⟩ : ∃ R, (⟨p, g, h, r⟩ : V4).rises ⟨p', g', h', r'⟩ = R := ⟨_, rfl⟩
  rw [hR]
  have hR' : Hid _ := hR
  clear hR
  dsimp only
  by_cases h1 : p' ≥ p
  · have g1 := decide_eq_true h1
    by_cases h2 : r' ≥ r
    · have g2 := decide_eq_true h2
      by_cases h3 : g' > g
      · have g3 := decide_eq_true h3
        go_enter Try.func20, Try.ntmps20
        go_wp2_with fail
        go_ret
        exact ⟨by rw [← hR'.out, ris_yes (by dsimp only; omega)]; rfl, T0⟩
      · have g3 := decide_eq_false h3
        by_cases h4 : g' = g
        · subst h4
          by_cases h5 : h' ≥ h
          · have g5 := decide_eq_true h5
            go_enter Try.func20, Try.ntmps20
            go_wp2_with fail
            go_ret
            exact ⟨by rw [← hR'.out, ris_yes (by dsimp only; omega)]; rfl, T0⟩
          · have g5 := decide_eq_false h5
            go_enter Try.func20, Try.ntmps20
            go_wp2_with fail
            go_ret
            exact ⟨by rw [← hR'.out, ris_no (by dsimp only; omega)]; rfl, T0⟩
        · have g4 : (g' == g) = false := by simpa using h4
          go_enter Try.func20, Try.ntmps20
          go_wp2_with fail
          go_ret
          exact ⟨by rw [← hR'.out, ris_no (by dsimp only; omega)]; rfl, T0⟩
    · have g2 := decide_eq_false h2
      go_enter Try.func20, Try.ntmps20
      go_wp2_with fail
      go_ret
      exact ⟨by rw [← hR'.out, ris_no (by dsimp only; omega)]; rfl, T0⟩
  · have g1 := decide_eq_false h1
    go_enter Try.func20, Try.ntmps20
    go_wp2_with fail
    go_ret
    exact ⟨by rw [← hR'.out, ris_no (by dsimp only; omega)]; rfl, T0⟩
/-- a vault in memory: its block, its disk's, its state, its records -/
def IsV (w : World) (b d : Nat) (s : V4) (n : Int) : Prop := Blk w b #[.int .i64 s.p, .int .i64 s.g, .int .i64 s.h, .int .i64 s.r, .pointer (some ⟨d, 0, none⟩), .int .i64 n] 69
/-- the document's -/
structure IsM (w : World) (b d : Nat) (lv : Value) (l : List V4) : Prop where
  blk : Blk w b #[.pointer (some ⟨d, 0, none⟩), lv] 52
  own : OwnS 47 4 w lv (l.map V4.cells)
theorem IsM.turns {w w' : World} {b d : Nat} {lv : Value} {l : List V4} {F : List Nat} (h : IsM w b d lv l) (t : Turns F w w') (hb : b ∉ F) (hl : ∀ k, lv.ownBlock = some k → k ∉ F) : IsM w' b d lv l := ⟨h.blk.turns t hb, h.own.turns t hl⟩
theorem state_nil (w : World) : Calls Try.prog 21 #[.pointer none] w fun e w' => e = .returned (.agg #[.int .i64 0, .int .i64 0, .int .i64 0, .int .i64 0]) ∧ Turns [] w w' := by
  have T0 := (Turns.refl [] w).alloc (.cells #[.int .i64 0, .int .i64 0, .int .i64 0, .int .i64 0] 25)
  have hBlk := Blk.new w #[.int .i64 0, .int .i64 0, .int .i64 0, .int .i64 0] 25
  go_enter Try.func21, Try.ntmps21
  go_wp2_with fail
  refine bodyPost_ret (res_one rfl (.cell w.heap.size _ _ _ rfl hBlk Try.underlying25 rfl (by kernel_rfl) .nil)) rfl ?_
  exact ⟨rfl, T0⟩
theorem state_is (w : World) (b d : Nat) (s : V4) (n : Int) (h : IsV w b d s n) : Calls Try.prog 21 #[.pointer (some ⟨b, 0, none⟩)] w fun e w' => e = .returned (.agg #[.int .i64 s.p, .int .i64 s.g, .int .i64 s.h, .int .i64 s.r]) ∧ Turns [] w w' := by
  have c0 : ∀ o, (w.alloc o).cell? ⟨b, 0, none⟩ = some _ := fun o => (Blk.alloc h o).cell 0
  have c1 : ∀ o, (w.alloc o).cell? ⟨b, 1, none⟩ = some _ := fun o => (Blk.alloc h o).cell 1
  have c2 : ∀ o, (w.alloc o).cell? ⟨b, 2, none⟩ = some _ := fun o => (Blk.alloc h o).cell 2
  have c3 : ∀ o, (w.alloc o).cell? ⟨b, 3, none⟩ = some _ := fun o => (Blk.alloc h o).cell 3
  have T0 := (Turns.refl [] w).alloc (.cells #[.int .i64 s.p, .int .i64 s.g, .int .i64 s.h, .int .i64 s.r] 25)
  have hBlk := Blk.new w #[.int .i64 s.p, .int .i64 s.g, .int .i64 s.h, .int .i64 s.r] 25
  go_enter Try.func21, Try.ntmps21
  go_wp2_with fail
  refine bodyPost_ret (res_one rfl (.cell w.heap.size _ _ _ rfl hBlk Try.underlying25 rfl (by kernel_rfl) .nil)) rfl ?_
  exact ⟨rfl, T0⟩
theorem records_nil (w : World) : Calls Try.prog 22 #[.pointer none] w fun e w' => e = .returned (.int .i64 0) ∧ Turns [] w w' := by
  go_enter Try.func22, Try.ntmps22
  go_wp2_with fail
  go_ret
  exact ⟨rfl, Turns.refl _ _⟩
theorem records_is (w : World) (b d : Nat) (s : V4) (n : Int) (h : IsV w b d s n) : Calls Try.prog 22 #[.pointer (some ⟨b, 0, none⟩)] w fun e w' => e = .returned (.int .i64 n) ∧ Turns [] w w' := by
  have c5 : w.cell? ⟨b, 5, none⟩ = some _ := Blk.cell h 5
  go_enter Try.func22, Try.ntmps22
  go_wp2_with fail
  go_ret
  exact ⟨rfl, Turns.refl _ _⟩
theorem of_is (w : World) (s : V4) : Calls Try.prog 13 #[.agg #[.int .i64 s.p, .int .i64 s.g, .int .i64 s.h, .int .i64 s.r]] w fun e w' => e = .returned (.agg #[.int .i64 s.p, .int .i64 s.g, .int .i64 s.h, .int .i64 s.r]) ∧ Turns [] w w' := by
  have T0 := ((Turns.refl [] w).alloc (.cells #[.int .i64 s.p, .int .i64 s.g, .int .i64 s.h, .int .i64 s.r] 25)).alloc (.cells #[.int .i64 s.p, .int .i64 s.g, .int .i64 s.h, .int .i64 s.r] 47)
  have hBlk := Blk.new (w.alloc (.cells #[.int .i64 s.p, .int .i64 s.g, .int .i64 s.h, .int .i64 s.r] 25)) #[.int .i64 s.p, .int .i64 s.g, .int .i64 s.h, .int .i64 s.r] 47
  rw [World.size_alloc] at hBlk
  go_enter Try.func13, Try.ntmps13
  go_wp2_with fail
  refine bodyPost_ret (res_one rfl (.cell (w.heap.size + 1) _ _ _ rfl hBlk Try.underlying47 rfl (by kernel_rfl) .nil)) rfl ?_
  exact ⟨rfl, T0⟩
/-- the last one -/
def lastV (l : List V4) : V4 := l.getLast?.getD z4
theorem last_is (w : World) (b d : Nat) (lv : Value) (l : List V4) (h : IsM w b d lv l) (hl : l.length ≤ 1000000) : Calls Try.prog 31 #[.pointer (some ⟨b, 0, none⟩)] w fun e w' => e = .returned (.agg #[.int .i64 (lastV l).p, .int .i64 (lastV l).g, .int .i64 (lastV l).h, .int .i64 (lastV l).r]) ∧ Turns [] w w' := by
  have c1 : ∀ o, (w.alloc o).cell? ⟨b, 1, none⟩ = some _ := fun o => (h.blk.alloc o).cell 1
  have c1d : ∀ o, (w.alloc o).drew.cell? ⟨b, 1, none⟩ = some _ := fun o => (h.blk.alloc o).drew.cell 1
  obtain ⟨A, c, rfl, _⟩ := h.own.form
  have hrd := h.own.reads
  simp only [List.length_map] at *
  obtain ⟨L, hL⟩ : ∃ L, lastV l = L := ⟨_, rfl⟩
  rw [hL]
  by_cases h0 : l = []
  · subst h0
    obtain rfl : L = z4 := hL.symm
    clear hL hrd
    have T0 := (Turns.refl [] w).alloc (.cells #[.int .i64 0, .int .i64 0, .int .i64 0, .int .i64 0] 47)
    have hBlk := Blk.new w #[.int .i64 0, .int .i64 0, .int .i64 0, .int .i64 0] 47
    go_enter Try.func31, Try.ntmps31
    go_wp2_with fail
    refine bodyPost_ret (res_one rfl (.cell w.heap.size _ _ _ rfl hBlk Try.underlying47 rfl (by kernel_rfl) .nil)) rfl ?_
    exact ⟨rfl, T0⟩
  · have hpos : 0 < l.length := List.length_pos_iff.2 h0
    have hg : ((l.length : Int) == 0) = false := by simp; omega
    obtain ⟨m, hm⟩ : ∃ m, l.length = m + 1 := ⟨l.length - 1, by omega⟩
    have hat : l[m]? = some L := by
      rw [← hL]; unfold lastV; rw [List.getLast?_eq_getElem?, hm, Nat.add_sub_cancel, List.getElem?_eq_getElem (by omega)]; rfl
    obtain ⟨ad, c', hv, _, hcell⟩ := hrd.at_ (j := m) (r := L.cells) (by rw [List.getElem?_map, hat]; rfl)
    injection hv with e1 e2 e3
    subst e1 e3
    have i0 : ∀ o, (w.alloc o).drew.cell? (ad.add (m * 4 + 0)) = some (.int .i64 L.p) := fun o => ((Turns.refl [] w).alloc o).drew.old (hcell 0 _ rfl)
    have i1 : ∀ o, (w.alloc o).drew.cell? (ad.add (m * 4 + 1)) = some (.int .i64 L.g) := fun o => ((Turns.refl [] w).alloc o).drew.old (hcell 1 _ rfl)
    have i2 : ∀ o, (w.alloc o).drew.cell? (ad.add (m * 4 + 2)) = some (.int .i64 L.h) := fun o => ((Turns.refl [] w).alloc o).drew.old (hcell 2 _ rfl)
    have i3 : ∀ o, (w.alloc o).drew.cell? (ad.add (m * 4 + 3)) = some (.int .i64 L.r) := fun o => ((Turns.refl [] w).alloc o).drew.old (hcell 3 _ rfl)
    rw [Nat.add_zero] at i0
    rw [add_field _ _ _ (by omega)] at i1 i2 i3
    have hsub : IntKind.i64.wrap (m : Int) = (m : Int) := IntWalk.i64_in _ (by omega)
    have hlt1 : (m : Int) < (m : Int) + 1 := by omega
    have T0 := (Turns.refl [] w).alloc (.cells #[.int .i64 0, .int .i64 0, .int .i64 0, .int .i64 0] 47)
    clear hL hrd hat hcell h
    go_enter Try.func31, Try.ntmps31
    go_wp2_with fail
    refine wp_region_flo2 [(0, true, []), (1, true, []), (2, true, []), (3, true, []), (4, true, []), (5, true, []), (6, true, []), (7, true, []), (8, true, []), (9, true, []), (10, true, []), (11, true, []), (12, false, [])] (fun _ _ => True) (by kernel_rfl) rfl (by kernel_rfl) (by intro c d v a w h; cases d <;> first | (simpa [Exit.then, Exit.inBlock, Act.put] using h) | exact h) ?_
    have hBlk := (Blk.new w #[.int .i64 0, .int .i64 0, .int .i64 0, .int .i64 0] 47).drew
    have T1 := T0.drew
    replace i0 := i0 (.cells #[.int .i64 0, .int .i64 0, .int .i64 0, .int .i64 0] 47)
    replace i1 := i1 (.cells #[.int .i64 0, .int .i64 0, .int .i64 0, .int .i64 0] 47)
    replace i2 := i2 (.cells #[.int .i64 0, .int .i64 0, .int .i64 0, .int .i64 0] 47)
    replace i3 := i3 (.cells #[.int .i64 0, .int .i64 0, .int .i64 0, .int .i64 0] 47)
    replace c1d := c1d (.cells #[.int .i64 0, .int .i64 0, .int .i64 0, .int .i64 0] 47)
    clear T0 c1
    generalize (w.alloc (.cells #[.int .i64 0, .int .i64 0, .int .i64 0, .int .i64 0] 47)).drew = w1 at *
    have r0 : w1.cell? ⟨w.heap.size, 0, none⟩ = some _ := hBlk.cell 0
    have r1 : w1.cell? ⟨w.heap.size, 1, none⟩ = some _ := hBlk.cell 1
    have r2 : w1.cell? ⟨w.heap.size, 2, none⟩ = some _ := hBlk.cell 2
    have r3 : w1.cell? ⟨w.heap.size, 3, none⟩ = some _ := hBlk.cell 3
    have f0 := hBlk.frozen 0
    have f1 := hBlk.frozen 1
    have f2 := hBlk.frozen 2
    have f3 := hBlk.frozen 3
    first
      | (refine flo2_read _ rfl (fun _ => True) trivial (fun _ _ _ _ => trivial) (fun K hK => ?_); go_simp; first | (refine hK _ ?_) | (refine ⟨fun W _ => ?_, hK _ ?_⟩; · (go_simp)) | (refine ⟨fun W => ?_, hK _ ?_⟩; · (go_simp)))
      | (refine flo2_read _ rfl (fun W => W = _) rfl (by simp) (fun K hK => ?_); go_simp; first | (refine hK _ ?_) | (refine ⟨fun W hS => ?_, hK _ ?_⟩; · (subst hS; go_simp)) | (refine ⟨?_, hK _ ?_⟩; · (go_simp)))
    clear hK K
    first
      | (refine flo2_read _ rfl (fun _ => True) trivial (fun _ _ _ _ => trivial) (fun K hK => ?_); go_simp; first | (refine hK _ ?_) | (refine ⟨fun W _ => ?_, hK _ ?_⟩; · (go_simp)) | (refine ⟨fun W => ?_, hK _ ?_⟩; · (go_simp)))
      | (refine flo2_read _ rfl (fun W => W = _) rfl (by simp) (fun K hK => ?_); go_simp; first | (refine hK _ ?_) | (refine ⟨fun W hS => ?_, hK _ ?_⟩; · (subst hS; go_simp)) | (refine ⟨?_, hK _ ?_⟩; · (go_simp)))
    clear hK K
    first
      | (refine flo2_read _ rfl (fun _ => True) trivial (fun _ _ _ _ => trivial) (fun K hK => ?_); go_simp; first | (refine hK _ ?_) | (refine ⟨fun W _ => ?_, hK _ ?_⟩; · (go_simp)) | (refine ⟨fun W => ?_, hK _ ?_⟩; · (go_simp)))
      | (refine flo2_read _ rfl (fun W => W = _) rfl (by simp) (fun K hK => ?_); go_simp; first | (refine hK _ ?_) | (refine ⟨fun W hS => ?_, hK _ ?_⟩; · (subst hS; go_simp)) | (refine ⟨?_, hK _ ?_⟩; · (go_simp)))
    clear hK K
    first
      | (refine flo2_read _ rfl (fun _ => True) trivial (fun _ _ _ _ => trivial) (fun K hK => ?_); go_simp; first | (refine hK _ ?_) | (refine ⟨fun W _ => ?_, hK _ ?_⟩; · (go_simp)) | (refine ⟨fun W => ?_, hK _ ?_⟩; · (go_simp)))
      | (refine flo2_read _ rfl (fun W => W = _) rfl (by simp) (fun K hK => ?_); go_simp; first | (refine hK _ ?_) | (refine ⟨fun W hS => ?_, hK _ ?_⟩; · (subst hS; go_simp)) | (refine ⟨?_, hK _ ?_⟩; · (go_simp)))
    clear hK K
    first
      | (refine flo2_read _ rfl (fun _ => True) trivial (fun _ _ _ _ => trivial) (fun K hK => ?_); go_simp; first | (refine hK _ ?_) | (refine ⟨fun W _ => ?_, hK _ ?_⟩; · (go_simp)) | (refine ⟨fun W => ?_, hK _ ?_⟩; · (go_simp)))
      | (refine flo2_read _ rfl (fun W => W = _) rfl (by simp) (fun K hK => ?_); go_simp; first | (refine hK _ ?_) | (refine ⟨fun W hS => ?_, hK _ ?_⟩; · (subst hS; go_simp)) | (refine ⟨?_, hK _ ?_⟩; · (go_simp)))
    clear hK K
    first
      | (refine flo2_read _ rfl (fun _ => True) trivial (fun _ _ _ _ => trivial) (fun K hK => ?_); go_simp; first | (refine hK _ ?_) | (refine ⟨fun W _ => ?_, hK _ ?_⟩; · (go_simp)) | (refine ⟨fun W => ?_, hK _ ?_⟩; · (go_simp)))
      | (refine flo2_read _ rfl (fun W => W = _) rfl (by simp) (fun K hK => ?_); go_simp; first | (refine hK _ ?_) | (refine ⟨fun W hS => ?_, hK _ ?_⟩; · (subst hS; go_simp)) | (refine ⟨?_, hK _ ?_⟩; · (go_simp)))
    clear hK K
    first
      | (refine flo2_read _ rfl (fun _ => True) trivial (fun _ _ _ _ => trivial) (fun K hK => ?_); go_simp; first | (refine hK _ ?_) | (refine ⟨fun W _ => ?_, hK _ ?_⟩; · (go_simp)) | (refine ⟨fun W => ?_, hK _ ?_⟩; · (go_simp)))
      | (refine flo2_read _ rfl (fun W => W = _) rfl (by simp) (fun K hK => ?_); go_simp; first | (refine hK _ ?_) | (refine ⟨fun W hS => ?_, hK _ ?_⟩; · (subst hS; go_simp)) | (refine ⟨?_, hK _ ?_⟩; · (go_simp)))
    clear hK K
    first
      | (refine flo2_read _ rfl (fun _ => True) trivial (fun _ _ _ _ => trivial) (fun K hK => ?_); go_simp; first | (refine hK _ ?_) | (refine ⟨fun W _ => ?_, hK _ ?_⟩; · (go_simp)) | (refine ⟨fun W => ?_, hK _ ?_⟩; · (go_simp)))
      | (refine flo2_read _ rfl (fun W => W = _) rfl (by simp) (fun K hK => ?_); go_simp; first | (refine hK _ ?_) | (refine ⟨fun W hS => ?_, hK _ ?_⟩; · (subst hS; go_simp)) | (refine ⟨?_, hK _ ?_⟩; · (go_simp)))
    clear hK K
    first
      | (refine flo2_read _ rfl (fun _ => True) trivial (fun _ _ _ _ => trivial) (fun K hK => ?_); go_simp; first | (refine hK _ ?_) | (refine ⟨fun W _ => ?_, hK _ ?_⟩; · (go_simp)) | (refine ⟨fun W => ?_, hK _ ?_⟩; · (go_simp)))
      | (refine flo2_read _ rfl (fun W => W = _) rfl (by simp) (fun K hK => ?_); go_simp; first | (refine hK _ ?_) | (refine ⟨fun W hS => ?_, hK _ ?_⟩; · (subst hS; go_simp)) | (refine ⟨?_, hK _ ?_⟩; · (go_simp)))
    clear hK K
    first
      | (refine flo2_read _ rfl (fun _ => True) trivial (fun _ _ _ _ => trivial) (fun K hK => ?_); go_simp; first | (refine hK _ ?_) | (refine ⟨fun W _ => ?_, hK _ ?_⟩; · (go_simp)) | (refine ⟨fun W => ?_, hK _ ?_⟩; · (go_simp)))
      | (refine flo2_read _ rfl (fun W => W = _) rfl (by simp) (fun K hK => ?_); go_simp; first | (refine hK _ ?_) | (refine ⟨fun W hS => ?_, hK _ ?_⟩; · (subst hS; go_simp)) | (refine ⟨?_, hK _ ?_⟩; · (go_simp)))
    clear hK K
    first
      | (refine flo2_read _ rfl (fun _ => True) trivial (fun _ _ _ _ => trivial) (fun K hK => ?_); go_simp; first | (refine hK _ ?_) | (refine ⟨fun W _ => ?_, hK _ ?_⟩; · (go_simp)) | (refine ⟨fun W => ?_, hK _ ?_⟩; · (go_simp)))
      | (refine flo2_read _ rfl (fun W => W = _) rfl (by simp) (fun K hK => ?_); go_simp; first | (refine hK _ ?_) | (refine ⟨fun W hS => ?_, hK _ ?_⟩; · (subst hS; go_simp)) | (refine ⟨?_, hK _ ?_⟩; · (go_simp)))
    clear hK K
    first
      | (refine flo2_read _ rfl (fun _ => True) trivial (fun _ _ _ _ => trivial) (fun K hK => ?_); go_simp; first | (refine hK _ ?_) | (refine ⟨fun W _ => ?_, hK _ ?_⟩; · (go_simp)) | (refine ⟨fun W => ?_, hK _ ?_⟩; · (go_simp)))
      | (refine flo2_read _ rfl (fun W => W = _) rfl (by simp) (fun K hK => ?_); go_simp; first | (refine hK _ ?_) | (refine ⟨fun W hS => ?_, hK _ ?_⟩; · (subst hS; go_simp)) | (refine ⟨?_, hK _ ?_⟩; · (go_simp)))
    clear hK K
    have hB2 := (((hBlk.set 0 (.int .i64 L.p)).set 1 (.int .i64 L.g)).set 2 (.int .i64 L.h)).set 3 (.int .i64 L.r)
    have T2 := (((T1.setCell (p := ⟨w.heap.size, 0, none⟩) (by simp) (.int .i64 L.p)).setCell (p := ⟨w.heap.size, 1, none⟩) (by simp) (.int .i64 L.g)).setCell (p := ⟨w.heap.size, 2, none⟩) (by simp) (.int .i64 L.h)).setCell (p := ⟨w.heap.size, 3, none⟩) (by simp) (.int .i64 L.r)
    refine flo2_alone _ rfl ?_
    go_wp2_with fail
    refine ⟨trivial, _, fun _ _ h => h, ?_⟩
    refine flo2_end ?_
    go_wp2_with fail
    refine bodyPost_ret (res_one rfl (.cell w.heap.size _ _ _ rfl hB2 Try.underlying47 rfl (by kernel_rfl) .nil)) rfl ?_
    exact ⟨rfl, T2⟩
end Go.Proofs.Ytknmjmhiejmjdaa.Vc
