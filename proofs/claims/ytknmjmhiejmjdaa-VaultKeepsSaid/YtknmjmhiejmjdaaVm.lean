/- The walks of annonalaw07's same and puts. -/
import Derived.Test.YtknmjmhiejmjdaaVl
set_option linter.unusedVariables false
set_option linter.unusedSimpArgs false
set_option maxRecDepth 100000
namespace Go.Proofs.Ytknmjmhiejmjdaa.Vm
open Go.RowKit Go.MapKept Go.ChangeShapes Go.WideShapes Hm Hs Hr Hb Hf Hg Hv Ho Hx Dk Dr Kw Kn Kr Ks Va Vb Vc Vd Ve Vf Vs Vg Vi Vj Vl
theorem puts_is (w : World) (kind : Int) (s : V4) (keep : Int) (hk : 0 ≤ kind ∧ kind ≤ 255) : Calls Try.prog 10 #[.agg #[.int .u8 kind, .int .i64 s.p, .int .i64 s.g, .int .i64 s.h, .int .i64 s.r, .int .i64 keep]] w
    fun e w' => e = .returned (.int .i64 (if kind % 6 ≤ 2 then 1 else if kind % 6 = 5 then max (min keep 70) 0 else 0)) ∧ Turns [] w w' := by
  have T0 := (Turns.refl [] w).alloc (.cells #[.int .u8 kind, .int .i64 s.p, .int .i64 s.g, .int .i64 s.h, .int .i64 s.r, .int .i64 keep] 44)
  obtain ⟨q, hq⟩ : ∃ q, kind % 6 = q := ⟨_, rfl⟩
  rw [hq]
  have hmod : Int.tmod kind 6 = q := by rw [← hq]; exact Int.tmod_eq_emod_of_nonneg (by omega)
  have hqb : 0 ≤ q ∧ q ≤ 5 := by omega
  clear hq
  rcases (by omega : q = 0 ∨ q = 1 ∨ q = 2 ∨ q = 3 ∨ q = 4 ∨ q = 5) with rfl | rfl | rfl | rfl | rfl | rfl
  all_goals
    go_enter Try.func10, Try.ntmps10
    go_wp2_with fail
    go_ret
    exact ⟨rfl, T0⟩
/-- both vaults and both disks, alike -/
abbrev fr (vb d : Nat) (fv : Value) (mb d' : Nat) (lv : Value) (L : List V4) (sv lw : Value) (safe loose : List Int) (room room' : Int) : List Th :=
  [tV vb d (lastV L) L.length, tDk d fv (safe ++ loose) safe.length room, tM mb d' lv L, tDr d' sv lw safe loose room']
set_option maxHeartbeats 4000000 in
theorem same_is (w : World) (vb d : Nat) (fv : Value) (mb d' : Nat) (lv : Value) (L : List V4) (sv lw : Value) (safe loose : List Int) (room room' : Int) (h : Got (fr vb d fv mb d' lv L sv lw safe loose room room') w) (hl : (safe ++ loose).length ≤ 1000000) (hn : L.length ≤ 1000000) :
    Calls Try.prog 18 #[.pointer (some ⟨vb, 0, none⟩), .pointer (some ⟨d, 0, none⟩), .pointer (some ⟨mb, 0, none⟩)] w fun e w' => e = .returned (.bool true) ∧ Turns [] w w' := by
  have hM : IsM w mb d' lv L := h.at_ 2 rfl
  have hD : IsDisk w d fv (safe ++ loose) safe.length room := h.at_ 1 rfl
  have hR : IsR w d' sv lw safe loose room' := h.at_ 3 rfl
  have hV : IsV w vb d (lastV L) L.length := h.blk 0 rfl
  have hl0 : safe.length + loose.length ≤ 1000000 := by rw [List.length_append] at hl; exact hl
  obtain ⟨A0, c0', rfl, _⟩ := hM.own.form
  obtain ⟨A1, c1', rfl, _⟩ := hR.so.form
  simp only [List.length_map, bys_len] at hM hR
  have td : Turns [] w w.drew := (Turns.refl _ _).drew
  replace hM := hM.turns td (by simp) (by simp)
  replace hD := hD.turns td (by simp)
  replace hR := hR.turns td (by simp)
  replace hV := Blk.turns hV td (by simp)
  have hLs := fun w (h : IsM w mb d' (.slice A0 L.length c0') L) => last_is w mb d' (.slice A0 L.length c0') L h hn
  have hSt := fun w (h : IsV w vb d (lastV L) L.length) => state_is w vb d (lastV L) L.length h
  have hRc := fun w (h : IsV w vb d (lastV L) L.length) => records_is w vb d (lastV L) L.length h
  generalize hx : lastV L = x at hLs hSt hRc hV
  have hLsh : Hid _ := hLs
  have hSth : Hid _ := hSt
  have hRch : Hid _ := hRc
  have hlh : Hid ((safe ++ loose).length ≤ 1000000) := hl
  have hl0h : Hid (safe.length + loose.length ≤ 1000000) := hl0
  have hcv : Hid (∀ (W : World) (v : Value) (l : List Int), OwnS 5 1 W v (bys l) → (convert 39 9 v).run Try.prog W = .ok (.string (strB l)) W) := Lib.hid (fun W v l h => RdS.str (P := Try.prog) (dst := 9) h.reads Try.underlying39 Try.underlying5 Try.underlying9)
  clear hLs hSt hRc hx h hl hn hl0
  go_enter Try.func18, Try.ntmps18
  go_wp2_with fail
  refine wp_region_flo [(0, true), (3, true), (1, false), (2, false), (4, false), (5, true), (6, true), (7, true), (9, true), (10, true), (11, true), (12, true), (13, true), (8, false), (14, true), (15, true), (16, true), (17, true), (20, true), (21, true), (22, true), (23, true), (18, false), (19, true), (24, false), (25, true), (26, true), (27, true), (28, true), (29, true), (31, true), (32, true), (33, true), (34, true), (35, true), (36, true), (37, true), (38, true), (30, false), (39, true), (40, true), (41, true)] (fun W => Turns [] w.drew W) (by kernel_rfl) rfl (by kernel_rfl) (by intro c d v a w h; cases d <;> first | (simpa [Exit.then, Exit.inBlock, Act.put] using h) | exact h) (Turns.refl _ _) ?_
  generalize w.drew = w0 at *
  refine flo_read _ rfl (fun K hK => ?_)
  go_simp
  first | (refine hK _ ?_) | (refine ⟨fun W hS => ?_, hK _ ?_⟩; · (skip; try go_simp))
  clear hK K
  refine flo_read _ rfl (fun K hK => ?_)
  go_simp
  first | (refine hK _ ?_) | (refine ⟨fun W hS => ?_, hK _ ?_⟩; · (skip; try go_simp))
  clear hK K
  refine flo_alone _ rfl ?_
  go_wp2_with fail
  go_at_call 21
  refine Calls.mono (hSth.out _ hV) ?_
  rintro e w1 ⟨rfl, t1⟩
  go_wp2_with fail
  refine ⟨fun W => Turns [] w1 W, fun W h => t1.trans h, Turns.refl _ _, ?_⟩
  refine flo_alone _ rfl ?_
  go_wp2_with fail
  go_at_call 13
  refine Calls.mono (of_is w1 x) ?_
  rintro e w2 ⟨rfl, t2⟩
  go_wp2_with fail
  refine ⟨fun W => Turns [] w2 W, fun W h => t2.trans h, Turns.refl _ _, ?_⟩
  replace hM := (hM.turns t1 (by simp) (by simp)).turns t2 (by simp) (by simp)
  refine flo_alone _ rfl ?_
  go_wp2_with fail
  go_at_call 31
  refine Calls.mono (hLsh.out _ hM) ?_
  rintro e w3 ⟨rfl, t3⟩
  go_wp2_with fail
  refine ⟨fun W => Turns [] w3 W, fun W h => t3.trans h, Turns.refl _ _, ?_⟩
  replace hM := hM.turns t3 (by simp) (by simp)
  replace hD := ((hD.turns t1 (by simp)).turns t2 (by simp)).turns t3 (by simp)
  replace hR := ((hR.turns t1 (by simp)).turns t2 (by simp)).turns t3 (by simp)
  replace hV := Blk.turns (Blk.turns (Blk.turns hV t1 (by simp)) t2 (by simp)) t3 (by simp)
  have td3 := ((td.trans t1).trans t2).trans t3
  clear t1 t2 t3 td
  have c1 : World.cell? (w3) ⟨mb, 1, none⟩ = some _ := (hM.blk).cell 1
  refine flo_read _ rfl (fun K hK => ?_)
  go_simp
  first | (refine hK _ ?_) | (refine ⟨fun W hS => ?_, hK _ ?_⟩; · (have x1 := hS.old c1; try go_simp))
  clear hK K
  refine flo_read _ rfl (fun K hK => ?_)
  go_simp
  first | (refine hK _ ?_) | (refine ⟨fun W hS => ?_, hK _ ?_⟩; · (have x1 := hS.old c1; try go_simp))
  clear hK K
  refine flo_read _ rfl (fun K hK => ?_)
  go_simp
  first | (refine hK _ ?_) | (refine ⟨fun W hS => ?_, hK _ ?_⟩; · (have x1 := hS.old c1; try go_simp))
  clear hK K
  refine flo_read _ rfl (fun K hK => ?_)
  go_simp
  first | (refine hK _ ?_) | (refine ⟨fun W hS => ?_, hK _ ?_⟩; · (have x1 := hS.old c1; try go_simp))
  clear hK K
  refine flo_read _ rfl (fun K hK => ?_)
  go_simp
  first | (refine hK _ ?_) | (refine ⟨fun W hS => ?_, hK _ ?_⟩; · (have x1 := hS.old c1; try go_simp))
  clear hK K
  refine flo_read _ rfl (fun K hK => ?_)
  go_simp
  first | (refine hK _ ?_) | (refine ⟨fun W hS => ?_, hK _ ?_⟩; · (have x1 := hS.old c1; try go_simp))
  clear hK K
  refine flo_read _ rfl (fun K hK => ?_)
  go_simp
  first | (refine hK _ ?_) | (refine ⟨fun W hS => ?_, hK _ ?_⟩; · (have x1 := hS.old c1; try go_simp))
  clear hK K
  refine flo_read _ rfl (fun K hK => ?_)
  go_simp
  first | (refine hK _ ?_) | (refine ⟨fun W hS => ?_, hK _ ?_⟩; · (have x1 := hS.old c1; try go_simp))
  clear hK K
  clear c1
  refine flo_alone _ rfl ?_
  go_wp2_with fail
  go_at_call 22
  refine Calls.mono (hRch.out _ hV) ?_
  rintro e w4 ⟨rfl, t4⟩
  go_wp2_with fail
  refine ⟨fun W => Turns [] w4 W, fun W h => t4.trans h, Turns.refl _ _, ?_⟩
  replace hM := hM.turns t4 (by simp) (by simp)
  replace hD := hD.turns t4 (by simp)
  replace hR := hR.turns t4 (by simp)
  have td4 := td3.trans t4
  clear t4 td3
  have c0 : World.cell? (w4) ⟨mb, 0, none⟩ = some _ := (hM.blk).cell 0
  refine flo_read _ rfl (fun K hK => ?_)
  go_simp
  first | (refine hK _ ?_) | (refine ⟨fun W hS => ?_, hK _ ?_⟩; · (have x1 := hS.old c0; try go_simp))
  clear hK K
  refine flo_read _ rfl (fun K hK => ?_)
  go_simp
  first | (refine hK _ ?_) | (refine ⟨fun W hS => ?_, hK _ ?_⟩; · (have x1 := hS.old c0; try go_simp))
  clear hK K
  refine flo_read _ rfl (fun K hK => ?_)
  go_simp
  first | (refine hK _ ?_) | (refine ⟨fun W hS => ?_, hK _ ?_⟩; · (have x1 := hS.old c0; try go_simp))
  clear hK K
  refine flo_read _ rfl (fun K hK => ?_)
  go_simp
  first | (refine hK _ ?_) | (refine ⟨fun W hS => ?_, hK _ ?_⟩; · (have x1 := hS.old c0; try go_simp))
  clear hK K
  refine flo_read _ rfl (fun K hK => ?_)
  go_simp
  first | (refine hK _ ?_) | (refine ⟨fun W hS => ?_, hK _ ?_⟩; · (have x1 := hS.old c0; try go_simp))
  clear hK K
  refine flo_read _ rfl (fun K hK => ?_)
  go_simp
  first | (refine hK _ ?_) | (refine ⟨fun W hS => ?_, hK _ ?_⟩; · (have x1 := hS.old c0; try go_simp))
  clear hK K
  refine flo_read _ rfl (fun K hK => ?_)
  go_simp
  first | (refine hK _ ?_) | (refine ⟨fun W hS => ?_, hK _ ?_⟩; · (have x1 := hS.old c0; try go_simp))
  clear hK K
  refine flo_read _ rfl (fun K hK => ?_)
  go_simp
  first | (refine hK _ ?_) | (refine ⟨fun W hS => ?_, hK _ ?_⟩; · (have x1 := hS.old c0; try go_simp))
  clear hK K
  clear c0
  refine flo_alone _ rfl ?_
  go_wp2_with fail
  go_at_call 24
  refine Calls.mono (file_is _ d fv _ _ _ hD (by have := hlh.out; omega)) ?_
  rintro e w5 ⟨v5, rfl, o5, t5, f5⟩
  go_wp2_with fail
  refine ⟨fun W => Turns [] w5 W, fun W h => t5.trans h, Turns.refl _ _, ?_⟩
  replace hM := hM.turns t5 (by simp) (by simp)
  replace hD := hD.turns t5 (by simp)
  replace hR := hR.turns t5 (by simp)
  have td5 := td4.trans t5
  clear t5 td4
  have cv5 := hcv.out _ _ _ o5
  refine flo_read _ rfl (fun K hK => ?_)
  go_simp
  first | (refine hK _ ?_) | (refine ⟨fun W hS => ?_, hK _ ?_⟩; · (have cvW := hcv.out _ _ _ (o5.turns hS (by simp)); try go_simp))
  clear hK K
  clear cv5
  refine flo_alone _ rfl ?_
  go_wp2_with fail
  go_at_call 28
  refine Calls.mono (rfile_is _ d' _ _ _ _ _ hR (by have := hl0h.out; omega)) ?_
  rintro e w6 ⟨v6, rfl, o6, t6, f6⟩
  go_wp2_with fail
  refine ⟨fun W => Turns [] w6 W, fun W h => t6.trans h, Turns.refl _ _, ?_⟩
  replace hM := hM.turns t6 (by simp) (by simp)
  replace hD := hD.turns t6 (by simp)
  replace hR := hR.turns t6 (by simp)
  have td6 := td5.trans t6
  clear t6 td5
  have cv6 := hcv.out _ _ _ o6
  have c0 : World.cell? (w6) ⟨mb, 0, none⟩ = some _ := (hM.blk).cell 0
  have d1 : World.cell? (w6) ⟨d', 1, none⟩ = some _ := (hR.blk).cell 1
  refine flo_read _ rfl (fun K hK => ?_)
  go_simp
  first | (refine hK _ ?_) | (refine ⟨fun W hS => ?_, hK _ ?_⟩; · (have cvW := hcv.out _ _ _ (o6.turns hS (by simp)); have x0 := hS.old c0; have y1 := hS.old d1; try go_simp))
  clear hK K
  refine flo_read _ rfl (fun K hK => ?_)
  go_simp
  first | (refine hK _ ?_) | (refine ⟨fun W hS => ?_, hK _ ?_⟩; · (have cvW := hcv.out _ _ _ (o6.turns hS (by simp)); have x0 := hS.old c0; have y1 := hS.old d1; try go_simp))
  clear hK K
  refine flo_read _ rfl (fun K hK => ?_)
  go_simp
  first | (refine hK _ ?_) | (refine ⟨fun W hS => ?_, hK _ ?_⟩; · (have cvW := hcv.out _ _ _ (o6.turns hS (by simp)); have x0 := hS.old c0; have y1 := hS.old d1; try go_simp))
  clear hK K
  refine flo_read _ rfl (fun K hK => ?_)
  go_simp
  first | (refine hK _ ?_) | (refine ⟨fun W hS => ?_, hK _ ?_⟩; · (have cvW := hcv.out _ _ _ (o6.turns hS (by simp)); have x0 := hS.old c0; have y1 := hS.old d1; try go_simp))
  clear hK K
  refine flo_read _ rfl (fun K hK => ?_)
  go_simp
  first | (refine hK _ ?_) | (refine ⟨fun W hS => ?_, hK _ ?_⟩; · (have cvW := hcv.out _ _ _ (o6.turns hS (by simp)); have x0 := hS.old c0; have y1 := hS.old d1; try go_simp))
  clear hK K
  refine flo_read _ rfl (fun K hK => ?_)
  go_simp
  first | (refine hK _ ?_) | (refine ⟨fun W hS => ?_, hK _ ?_⟩; · (have cvW := hcv.out _ _ _ (o6.turns hS (by simp)); have x0 := hS.old c0; have y1 := hS.old d1; try go_simp))
  clear hK K
  refine flo_read _ rfl (fun K hK => ?_)
  go_simp
  first | (refine hK _ ?_) | (refine ⟨fun W hS => ?_, hK _ ?_⟩; · (have cvW := hcv.out _ _ _ (o6.turns hS (by simp)); have x0 := hS.old c0; have y1 := hS.old d1; try go_simp))
  clear hK K
  refine flo_read _ rfl (fun K hK => ?_)
  go_simp
  first | (refine hK _ ?_) | (refine ⟨fun W hS => ?_, hK _ ?_⟩; · (have cvW := hcv.out _ _ _ (o6.turns hS (by simp)); have x0 := hS.old c0; have y1 := hS.old d1; try go_simp))
  clear hK K
  refine flo_read _ rfl (fun K hK => ?_)
  go_simp
  first | (refine hK _ ?_) | (refine ⟨fun W hS => ?_, hK _ ?_⟩; · (have cvW := hcv.out _ _ _ (o6.turns hS (by simp)); have x0 := hS.old c0; have y1 := hS.old d1; try go_simp))
  clear hK K
  refine flo_read _ rfl (fun K hK => ?_)
  go_simp
  first | (refine hK _ ?_) | (refine ⟨fun W hS => ?_, hK _ ?_⟩; · (have cvW := hcv.out _ _ _ (o6.turns hS (by simp)); have x0 := hS.old c0; have y1 := hS.old d1; try go_simp))
  clear hK K
  refine flo_read _ rfl (fun K hK => ?_)
  go_simp
  first | (refine hK _ ?_) | (refine ⟨fun W hS => ?_, hK _ ?_⟩; · (have cvW := hcv.out _ _ _ (o6.turns hS (by simp)); have x0 := hS.old c0; have y1 := hS.old d1; try go_simp))
  clear hK K
  refine flo_read _ rfl (fun K hK => ?_)
  go_simp
  first | (refine hK _ ?_) | (refine ⟨fun W hS => ?_, hK _ ?_⟩; · (have cvW := hcv.out _ _ _ (o6.turns hS (by simp)); have x0 := hS.old c0; have y1 := hS.old d1; try go_simp))
  clear hK K
  refine flo_read _ rfl (fun K hK => ?_)
  go_simp
  first | (refine hK _ ?_) | (refine ⟨fun W hS => ?_, hK _ ?_⟩; · (have cvW := hcv.out _ _ _ (o6.turns hS (by simp)); have x0 := hS.old c0; have y1 := hS.old d1; try go_simp))
  clear hK K
  clear cv6 c0 d1
  refine flo_alone _ rfl ?_
  go_wp2_with fail
  go_at_call 25
  refine Calls.mono (safe_is _ d fv _ _ _ hD) ?_
  rintro e w7 ⟨rfl, t7⟩
  go_wp2_with fail
  refine ⟨fun W => Turns [] w7 W, fun W h => t7.trans h, Turns.refl _ _, ?_⟩
  refine flo_read _ rfl (fun K hK => ?_)
  go_simp
  first | (refine hK _ ?_) | (refine ⟨fun W hS => ?_, hK _ ?_⟩; · (skip; try go_simp))
  clear hK K
  refine flo_read _ rfl (fun K hK => ?_)
  go_simp
  first | (refine hK _ ?_) | (refine ⟨fun W hS => ?_, hK _ ?_⟩; · (skip; try go_simp))
  clear hK K
  refine flo_read _ rfl (fun K hK => ?_)
  go_simp
  first | (refine hK _ ?_) | (refine ⟨fun W hS => ?_, hK _ ?_⟩; · (skip; try go_simp))
  clear hK K
  refine flo_end ?_
  have td7 := td6.trans t7
  go_wp2_with fail
  go_ret
  exact ⟨rfl, td7⟩
end Go.Proofs.Ytknmjmhiejmjdaa.Vm
