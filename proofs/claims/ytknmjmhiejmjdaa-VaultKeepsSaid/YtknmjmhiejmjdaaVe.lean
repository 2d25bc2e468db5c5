/- The walk of vault's read. -/
import Derived.Test.YtknmjmhiejmjdaaVd
set_option linter.unusedVariables false
set_option linter.unusedSimpArgs false
set_option maxRecDepth 100000
namespace Go.Proofs.Ytknmjmhiejmjdaa.Ve
open Go.RowKit Go.MapKept Go.ChangeShapes Go.WideShapes Hm Hs Hr Hb Hf Hg Hv Ho Kw Kn Kr Ks Va Vb Vc Vd
theorem upto_len (s : St) (m : Int) : (s.upto m).2.bytes.length ≤ s.bytes.length := by
  have := Kt.bits_len s
  unfold St.upto
  split
  · exact this
  · split <;> exact this
/-- the numbers and the readers on the way -/
structure Q4 (l : List Int) (x1 x2 x3 x4 : Int) (s1 s2 s3 s4 : St) : Prop where
  e1 : (⟨l, false⟩ : St).upto 4611686018427387904 = (x1, s1)
  e2 : s1.upto 4611686018427387904 = (x2, s2)
  e3 : s2.upto 4611686018427387904 = (x3, s3)
  e4 : s3.upto 4611686018427387904 = (x4, s4)
  l1 : s1.bytes.length ≤ l.length
  l2 : s2.bytes.length ≤ l.length
  l3 : s3.bytes.length ≤ l.length
  q : quad ⟨l, false⟩ = (⟨x1, x2, x3, x4⟩, s4)
theorem q4_of (l : List Int) : ∃ x1 x2 x3 x4 s1 s2 s3 s4, Q4 l x1 x2 x3 x4 s1 s2 s3 s4 := by
  refine ⟨_, _, _, _, _, _, _, _, ⟨rfl, rfl, rfl, rfl, ?_, ?_, ?_, rfl⟩⟩
  · exact upto_len _ _
  · exact Nat.le_trans (upto_len _ _) (upto_len _ _)
  · exact Nat.le_trans (upto_len _ _) (Nat.le_trans (upto_len _ _) (upto_len _ _))
set_option maxHeartbeats 2000000 in
theorem vread_is (w : World) (sv : Value) (l : List Int) (hs : RdS 1 w sv (bys l)) (hl : l.length = 32) (hb : Byt l) : Calls Try.prog 26 #[sv] w
    fun e w' => ∃ s : V4, e = .returned (.tuple #[.agg #[.int .i64 s.p, .int .i64 s.g, .int .i64 s.h, .int .i64 s.r], .bool (decV l).ok]) ∧ ((decV l).ok = true → s = decV l) ∧ Turns [] w w' := by
  obtain ⟨x1, x2, x3, x4, s1, s2, s3, s4, hQ⟩ := q4_of l
  have hq := quad_is (l := l) (by omega) hb
  rw [hQ.q] at hq
  have T0 := (Turns.refl [] w).alloc (.cells #[.int .i64 0, .int .i64 0, .int .i64 0, .int .i64 0] 25)
  have B0 := Blk.new w #[.int .i64 0, .int .i64 0, .int .i64 0, .int .i64 0] 25
  have hs0 := hs.mv (fun a u hu => T0.old hu)
  have hbh : Hid _ := hb
  have hsh : Hid _ := hs0
  have hQh : Hid _ := hQ
  have hqh : Hid _ := hq
  have l0h : Hid (l.length = 32) := hl
  clear hs hs0 hQ hq hb
  obtain ⟨ok, hok⟩ : ∃ ok, (decV l).ok = ok := ⟨_, rfl⟩
  rw [hok]
  have hokh : Hid _ := hok
  clear hok hl
  go_enter Try.func26, Try.ntmps26
  go_wp2_with fail
  go_at_call 40
  refine Calls.mono (Kt.read_is _ sv l hsh.out (by have := l0h.out; omega) hbh.out) ?_
  rintro e w1 ⟨b, own, rfl, h1, t1, hb1, ho1⟩
  have B1 := B0.turns t1 (by simp)
  have T1 := T0.trans t1
  have hb1' : w.heap.size < b := by simp at hb1; omega
  clear T0 B0 t1 hsh
  have N1 := Kt.num_is w1 b own _ h1 (by have := l0h.out; dsimp only; omega)
  rw [hQh.out.e1] at N1
  have N1h : Hid _ := N1
  clear N1 h1
  go_wp2_with fail
  go_at_call 41
  refine Calls.mono (N1h.out) ?_
  rintro e w2 ⟨rfl, h2, t2⟩
  have B2 := B1.turns t2 (by simp; omega)
  have T2 := T1.then t2 (by simp; omega)
  have N2 := Kt.num_is w2 b own _ h2 (by have := l0h.out; have := hQh.out.l1; omega)
  rw [hQh.out.e2] at N2
  have N2h : Hid _ := N2
  clear N2 h2 B1 T1 t2 N1h
  go_wp2_with fail
  go_at_call 41
  refine Calls.mono (N2h.out) ?_
  rintro e w3 ⟨rfl, h3, t3⟩
  have B3 := B2.turns t3 (by simp; omega)
  have T3 := T2.then t3 (by simp; omega)
  have N3 := Kt.num_is w3 b own _ h3 (by have := l0h.out; have := hQh.out.l2; omega)
  rw [hQh.out.e3] at N3
  have N3h : Hid _ := N3
  clear N3 h3 B2 T2 t3 N2h
  go_wp2_with fail
  go_at_call 41
  refine Calls.mono (N3h.out) ?_
  rintro e w4 ⟨rfl, h4, t4⟩
  have B4 := B3.turns t4 (by simp; omega)
  have T4 := T3.then t4 (by simp; omega)
  have N4 := Kt.num_is w4 b own _ h4 (by have := l0h.out; have := hQh.out.l3; omega)
  rw [hQh.out.e4] at N4
  have N4h : Hid _ := N4
  clear N4 h4 B3 T3 t4 N3h
  go_wp2_with fail
  go_at_call 41
  refine Calls.mono (N4h.out) ?_
  rintro e w5 ⟨rfl, h5, t5⟩
  have B5 := B4.turns t5 (by simp; omega)
  have T5 := T4.then t5 (by simp; omega)
  clear B4 T4 t5 N4h
  have T6 := (T5.alloc (.cells #[.int .i64 x1, .int .i64 x2, .int .i64 x3, .int .i64 x4] 25)).drew
  have B6 := (B5.alloc (.cells #[.int .i64 x1, .int .i64 x2, .int .i64 x3, .int .i64 x4] 25)).drew
  have S6 := (Blk.new w5 #[.int .i64 x1, .int .i64 x2, .int .i64 x3, .int .i64 x4] 25).drew
  have h6 := h5.turns ((Turns.refl [] w5).alloc (.cells #[.int .i64 x1, .int .i64 x2, .int .i64 x3, .int .i64 x4] 25)).drew (by simp) (by simp)
  have hws : w.heap.size < w5.heap.size := B5.lt
  clear T5 B5 h5
  have D6 := Kt.rdone_is _ b own _ h6
  obtain ⟨dn, hdn⟩ : ∃ dn, s4.done = dn := ⟨_, rfl⟩
  rw [hdn] at D6
  have D6h : Hid _ := D6
  clear D6
  go_wp2_with fail
  refine wp_region_flo2 [(0, true, [2, 6]), (1, true, [6, 8]), (2, false, []), (3, true, [6, 8]), (4, true, [8]), (5, true, [8]), (6, false, []), (7, true, [8]), (8, false, []), (9, true, [])] (fun j W => Blk W w5.heap.size #[.int .i64 x1, .int .i64 x2, .int .i64 x3, .int .i64 x4] 25) (by kernel_rfl) rfl (by kernel_rfl) (by intro c d v a w h; cases d <;> first | (simpa [Exit.then, Exit.inBlock, Act.put] using h) | exact h) ?_
  generalize (w5.alloc (.cells #[.int .i64 x1, .int .i64 x2, .int .i64 x3, .int .i64 x4] 25)).drew = w6 at *
  have c0 : w6.cell? ⟨w5.heap.size, 0, none⟩ = some (.int .i64 x1) := S6.cell 0
  have c1 : w6.cell? ⟨w5.heap.size, 1, none⟩ = some (.int .i64 x2) := S6.cell 1
  have c2 : w6.cell? ⟨w5.heap.size, 2, none⟩ = some (.int .i64 x3) := S6.cell 2
  have c3 : w6.cell? ⟨w5.heap.size, 3, none⟩ = some (.int .i64 x4) := S6.cell 3
  refine flo2_read _ rfl (fun W => Blk W w5.heap.size #[.int .i64 x1, .int .i64 x2, .int .i64 x3, .int .i64 x4] 25) (S6) (fun j hj W k => k) (fun K hK => ?_)
  go_simp
  first | (refine hK _ ?_) | (refine ⟨fun W hS => ?_, hK _ ?_⟩; · (have y0 : W.cell? ⟨w5.heap.size, 0, none⟩ = some (.int .i64 x1) := hS.cell 0; have y1 : W.cell? ⟨w5.heap.size, 1, none⟩ = some (.int .i64 x2) := hS.cell 1; have y2 : W.cell? ⟨w5.heap.size, 2, none⟩ = some (.int .i64 x3) := hS.cell 2; have y3 : W.cell? ⟨w5.heap.size, 3, none⟩ = some (.int .i64 x4) := hS.cell 3; try go_simp))
  clear hK K
  first
    | (refine flo2_read _ rfl (fun _ => True) trivial (fun _ _ _ _ => trivial) (fun K hK => ?_); go_simp; first | (refine hK _ ?_) | (refine ⟨fun W _ => ?_, hK _ ?_⟩; · (go_simp)) | (refine ⟨fun W => ?_, hK _ ?_⟩; · (go_simp)))
    | (refine flo2_read _ rfl (fun W => W = _) rfl (by simp) (fun K hK => ?_); go_simp; first | (refine hK _ ?_) | (refine ⟨fun W hS => ?_, hK _ ?_⟩; · (subst hS; go_simp)) | (refine ⟨?_, hK _ ?_⟩; · (go_simp)))
  clear hK K
  refine flo2_alone _ rfl ?_
  go_wp2_with fail
  go_at_call 42
  refine Calls.mono (D6h.out) ?_
  rintro e w7 ⟨rfl, t7⟩
  go_wp2_with fail
  refine ⟨S6.turns t7 (by simp), _, fun _ _ h => h, ?_⟩
  have S7 := S6.turns t7 (by simp)
  have B7 := B6.turns t7 (by simp)
  have T7 := T6.trans t7
  clear S6 B6 T6 t7 D6h c0 c1 c2 c3 h6
  have d0 : w7.cell? ⟨w5.heap.size, 0, none⟩ = some (.int .i64 x1) := S7.cell 0
  have d1 : w7.cell? ⟨w5.heap.size, 1, none⟩ = some (.int .i64 x2) := S7.cell 1
  have d2 : w7.cell? ⟨w5.heap.size, 2, none⟩ = some (.int .i64 x3) := S7.cell 2
  have d3 : w7.cell? ⟨w5.heap.size, 3, none⟩ = some (.int .i64 x4) := S7.cell 3
  by_cases h0 : dn = 0
  · subst h0
    have hR := right_is w7 ⟨x1, x2, x3, x4⟩
    have hRok : (⟨x1, x2, x3, x4⟩ : V4).ok = ok ∧ (ok = true → (⟨x1, x2, x3, x4⟩ : V4) = decV l) := by
      rcases hqh.out with h | ⟨h, _⟩
      · injection h with ha hb
        rw [ha]
        exact ⟨hokh.out, fun _ => rfl⟩
      · rw [Kt.done_1 h] at hdn
        cases hdn
    rw [hRok.1] at hR
    have hRh : Hid _ := hR
    have hRokh : Hid _ := hRok
    clear hR hRok hdn
    first
      | (refine flo2_read _ rfl (fun _ => True) trivial (fun _ _ _ _ => trivial) (fun K hK => ?_); go_simp; first | (refine hK _ ?_) | (refine ⟨fun W _ => ?_, hK _ ?_⟩; · (go_simp)) | (refine ⟨fun W => ?_, hK _ ?_⟩; · (go_simp)))
      | (refine flo2_read _ rfl (fun W => W = _) rfl (by simp) (fun K hK => ?_); go_simp; first | (refine hK _ ?_) | (refine ⟨fun W hS => ?_, hK _ ?_⟩; · (subst hS; go_simp)) | (refine ⟨?_, hK _ ?_⟩; · (go_simp)))
    clear hK K
    first
      | (refine flo2_read _ rfl (fun _ => True) trivial (fun _ _ _ _ => trivial) (fun K hK => ?_); go_simp; first | (refine hK _ ?_) | (refine ⟨fun W _ => ?_, hK _ ?_⟩; · (go_simp)) | (refine ⟨fun W => ?_, hK _ ?_⟩; · (go_simp)))
      | (refine flo2_read _ rfl (fun W => W = _) rfl (by simp) (fun K hK => ?_); go_simp; first | (refine hK _ ?_) | (refine ⟨fun W hS => ?_, hK _ ?_⟩; · (subst hS; go_simp)) | (refine ⟨?_, hK _ ?_⟩; · (go_simp)))
    clear hK K
    refine flo2_read _ rfl (fun W => Blk W w5.heap.size #[.int .i64 x1, .int .i64 x2, .int .i64 x3, .int .i64 x4] 25) (S7) (fun j hj W k => k) (fun K hK => ?_)
    go_simp
    first | (refine hK _ ?_) | (refine ⟨fun W hS => ?_, hK _ ?_⟩; · (have y0 : W.cell? ⟨w5.heap.size, 0, none⟩ = some (.int .i64 x1) := hS.cell 0; have y1 : W.cell? ⟨w5.heap.size, 1, none⟩ = some (.int .i64 x2) := hS.cell 1; have y2 : W.cell? ⟨w5.heap.size, 2, none⟩ = some (.int .i64 x3) := hS.cell 2; have y3 : W.cell? ⟨w5.heap.size, 3, none⟩ = some (.int .i64 x4) := hS.cell 3; try go_simp))
    clear hK K
    refine flo2_alone _ rfl ?_
    go_wp2_with fail
    go_at_call 33
    refine Calls.mono (hRh.out) ?_
    rintro e w8 ⟨rfl, t8⟩
    go_wp2_with fail
    refine ⟨S7.turns t8 (by simp), _, fun _ _ h => h, ?_⟩
    have S8 := S7.turns t8 (by simp)
    have B8 := B7.turns t8 (by simp)
    have T8 := T7.trans t8
    clear S7 B7 T7 t8 hRh d0 d1 d2 d3
    first
      | (refine flo2_read _ rfl (fun _ => True) trivial (fun _ _ _ _ => trivial) (fun K hK => ?_); go_simp; first | (refine hK _ ?_) | (refine ⟨fun W _ => ?_, hK _ ?_⟩; · (go_simp)) | (refine ⟨fun W => ?_, hK _ ?_⟩; · (go_simp)))
      | (refine flo2_read _ rfl (fun W => W = _) rfl (by simp) (fun K hK => ?_); go_simp; first | (refine hK _ ?_) | (refine ⟨fun W hS => ?_, hK _ ?_⟩; · (subst hS; go_simp)) | (refine ⟨?_, hK _ ?_⟩; · (go_simp)))
    clear hK K
    have f0 := B8.frozen 0
    have f1 := B8.frozen 1
    have f2 := B8.frozen 2
    have f3 := B8.frozen 3
    have c0 : w8.cell? ⟨w.heap.size, 0, none⟩ = some _ := B8.cell 0
    have c1 : w8.cell? ⟨w.heap.size, 1, none⟩ = some _ := B8.cell 1
    have c2 : w8.cell? ⟨w.heap.size, 2, none⟩ = some _ := B8.cell 2
    have c3 : w8.cell? ⟨w.heap.size, 3, none⟩ = some _ := B8.cell 3
    have B9 := (((B8.set 0 (.int .i64 x1)).set 1 (.int .i64 x2)).set 2 (.int .i64 x3)).set 3 (.int .i64 x4)
    have T9 := (((T8.setCell (p := ⟨w.heap.size, 0, none⟩) (by simp) (.int .i64 x1)).setCell (p := ⟨w.heap.size, 1, none⟩) (by simp) (.int .i64 x2)).setCell (p := ⟨w.heap.size, 2, none⟩) (by simp) (.int .i64 x3)).setCell (p := ⟨w.heap.size, 3, none⟩) (by simp) (.int .i64 x4)
    have S9 := (((S8.far (p := ⟨w.heap.size, 0, none⟩) (by simp; omega) (.int .i64 x1)).far (p := ⟨w.heap.size, 1, none⟩) (by simp; omega) (.int .i64 x2)).far (p := ⟨w.heap.size, 2, none⟩) (by simp; omega) (.int .i64 x3)).far (p := ⟨w.heap.size, 3, none⟩) (by simp; omega) (.int .i64 x4)
    refine flo2_alone _ rfl ?_
    go_wp2_with fail
    refine ⟨S9, _, fun _ _ h => h, ?_⟩
    first
      | (refine flo2_read _ rfl (fun _ => True) trivial (fun _ _ _ _ => trivial) (fun K hK => ?_); go_simp; first | (refine hK _ ?_) | (refine ⟨fun W _ => ?_, hK _ ?_⟩; · (go_simp)) | (refine ⟨fun W => ?_, hK _ ?_⟩; · (go_simp)))
      | (refine flo2_read _ rfl (fun W => W = _) rfl (by simp) (fun K hK => ?_); go_simp; first | (refine hK _ ?_) | (refine ⟨fun W hS => ?_, hK _ ?_⟩; · (subst hS; go_simp)) | (refine ⟨?_, hK _ ?_⟩; · (go_simp)))
    clear hK K
    refine flo2_end ?_
    go_wp2_with fail
    refine bodyPost_ret (res_list (rs := [.cell 2 25, .tmp 3]) rfl (by simp) (.cell w.heap.size _ _ _ rfl B9 Try.underlying25 rfl (by kernel_rfl) (.tmp .nil))) rfl ?_
    exact ⟨⟨x1, x2, x3, x4⟩, rfl, hRokh.out.2, T9⟩
  · have g0 : (dn == 0) = false := by simpa using h0
    have hRok : ok = false := by
      rcases hqh.out with h | ⟨_, h⟩
      · exfalso
        injection h with ha hb
        apply h0
        rw [← hdn, hb]
        exact Kt.done_3 rfl (by rw [List.length_drop]; have := l0h.out; omega)
      · rw [← hokh.out, h]
    subst hRok
    clear hdn
    first
      | (refine flo2_read _ rfl (fun _ => True) trivial (fun _ _ _ _ => trivial) (fun K hK => ?_); go_simp; first | (refine hK _ ?_) | (refine ⟨fun W _ => ?_, hK _ ?_⟩; · (go_simp)) | (refine ⟨fun W => ?_, hK _ ?_⟩; · (go_simp)))
      | (refine flo2_read _ rfl (fun W => W = _) rfl (by simp) (fun K hK => ?_); go_simp; first | (refine hK _ ?_) | (refine ⟨fun W hS => ?_, hK _ ?_⟩; · (subst hS; go_simp)) | (refine ⟨?_, hK _ ?_⟩; · (go_simp)))
    clear hK K
    first
      | (refine flo2_read _ rfl (fun _ => True) trivial (fun _ _ _ _ => trivial) (fun K hK => ?_); go_simp; first | (refine hK _ ?_) | (refine ⟨fun W _ => ?_, hK _ ?_⟩; · (go_simp)) | (refine ⟨fun W => ?_, hK _ ?_⟩; · (go_simp)))
      | (refine flo2_read _ rfl (fun W => W = _) rfl (by simp) (fun K hK => ?_); go_simp; first | (refine hK _ ?_) | (refine ⟨fun W hS => ?_, hK _ ?_⟩; · (subst hS; go_simp)) | (refine ⟨?_, hK _ ?_⟩; · (go_simp)))
    clear hK K
    first
      | (refine flo2_read _ rfl (fun _ => True) trivial (fun _ _ _ _ => trivial) (fun K hK => ?_); go_simp; first | (refine hK _ ?_) | (refine ⟨fun W _ => ?_, hK _ ?_⟩; · (go_simp)) | (refine ⟨fun W => ?_, hK _ ?_⟩; · (go_simp)))
      | (refine flo2_read _ rfl (fun W => W = _) rfl (by simp) (fun K hK => ?_); go_simp; first | (refine hK _ ?_) | (refine ⟨fun W hS => ?_, hK _ ?_⟩; · (subst hS; go_simp)) | (refine ⟨?_, hK _ ?_⟩; · (go_simp)))
    clear hK K
    refine flo2_alone _ rfl ?_
    go_wp2_with fail
    refine ⟨S7, _, fun _ _ h => h, ?_⟩
    have S8 := S7
    have B8 := B7
    have T8 := T7
    clear S7 B7 T7 d0 d1 d2 d3
    first
      | (refine flo2_read _ rfl (fun _ => True) trivial (fun _ _ _ _ => trivial) (fun K hK => ?_); go_simp; first | (refine hK _ ?_) | (refine ⟨fun W _ => ?_, hK _ ?_⟩; · (go_simp)) | (refine ⟨fun W => ?_, hK _ ?_⟩; · (go_simp)))
      | (refine flo2_read _ rfl (fun W => W = _) rfl (by simp) (fun K hK => ?_); go_simp; first | (refine hK _ ?_) | (refine ⟨fun W hS => ?_, hK _ ?_⟩; · (subst hS; go_simp)) | (refine ⟨?_, hK _ ?_⟩; · (go_simp)))
    clear hK K
    have f0 := B8.frozen 0
    have f1 := B8.frozen 1
    have f2 := B8.frozen 2
    have f3 := B8.frozen 3
    have c0 : w7.cell? ⟨w.heap.size, 0, none⟩ = some _ := B8.cell 0
    have c1 : w7.cell? ⟨w.heap.size, 1, none⟩ = some _ := B8.cell 1
    have c2 : w7.cell? ⟨w.heap.size, 2, none⟩ = some _ := B8.cell 2
    have c3 : w7.cell? ⟨w.heap.size, 3, none⟩ = some _ := B8.cell 3
    have B9 := (((B8.set 0 (.int .i64 x1)).set 1 (.int .i64 x2)).set 2 (.int .i64 x3)).set 3 (.int .i64 x4)
    have T9 := (((T8.setCell (p := ⟨w.heap.size, 0, none⟩) (by simp) (.int .i64 x1)).setCell (p := ⟨w.heap.size, 1, none⟩) (by simp) (.int .i64 x2)).setCell (p := ⟨w.heap.size, 2, none⟩) (by simp) (.int .i64 x3)).setCell (p := ⟨w.heap.size, 3, none⟩) (by simp) (.int .i64 x4)
    have S9 := (((S8.far (p := ⟨w.heap.size, 0, none⟩) (by simp; omega) (.int .i64 x1)).far (p := ⟨w.heap.size, 1, none⟩) (by simp; omega) (.int .i64 x2)).far (p := ⟨w.heap.size, 2, none⟩) (by simp; omega) (.int .i64 x3)).far (p := ⟨w.heap.size, 3, none⟩) (by simp; omega) (.int .i64 x4)
    refine flo2_alone _ rfl ?_
    go_wp2_with fail
    refine ⟨S9, _, fun _ _ h => h, ?_⟩
    first
      | (refine flo2_read _ rfl (fun _ => True) trivial (fun _ _ _ _ => trivial) (fun K hK => ?_); go_simp; first | (refine hK _ ?_) | (refine ⟨fun W _ => ?_, hK _ ?_⟩; · (go_simp)) | (refine ⟨fun W => ?_, hK _ ?_⟩; · (go_simp)))
      | (refine flo2_read _ rfl (fun W => W = _) rfl (by simp) (fun K hK => ?_); go_simp; first | (refine hK _ ?_) | (refine ⟨fun W hS => ?_, hK _ ?_⟩; · (subst hS; go_simp)) | (refine ⟨?_, hK _ ?_⟩; · (go_simp)))
    clear hK K
    refine flo2_end ?_
    go_wp2_with fail
    refine bodyPost_ret (res_list (rs := [.cell 2 25, .tmp 3]) rfl (by simp) (.cell w.heap.size _ _ _ rfl B9 Try.underlying25 rfl (by kernel_rfl) (.tmp .nil))) rfl ?_
    exact ⟨⟨x1, x2, x3, x4⟩, rfl, by simp, T9⟩
end Go.Proofs.Ytknmjmhiejmjdaa.Ve
