/- The walks of Sync of vault and of the document's. -/
import Derived.Test.YtknmjmhiejmjdaaVj
set_option linter.unusedVariables false
set_option linter.unusedSimpArgs false
set_option maxRecDepth 100000
namespace Go.Proofs.Ytknmjmhiejmjdaa.Vl
open Go.RowKit Go.MapKept Go.ChangeShapes Go.WideShapes Hm Hs Hr Hb Hf Hg Hv Ho Hx Dk Dr Kw Kn Kr Ks Va Vb Vc Vd Ve Vf Vs Vg Vi Vj
theorem vsync_nil (w : World) : Calls Try.prog 14 #[.pointer none] w fun e w' => e = .returned (.tuple #[]) ∧ Turns [] w w' := by
  go_enter Try.func14, Try.ntmps14
  go_wp2_with fail
  refine bodyPost_ret (results_none rfl _ _ _) rfl ?_
  exact ⟨rfl, Turns.refl _ _⟩
def VSyncOut (w : World) (vb d : Nat) (st : V4) (n : Int) (fv : Value) (file : List Int) (safe room : Int) (e : Ending) (w' : World) : Prop :=
  e = .returned (.tuple #[]) ∧ ((n ≤ 64 ∧ Sep (fps (vd vb d st n fv file safe room)) w (vd vb d st n fv file file.length room) w') ∨ (64 < n ∧ ∃ fv', Sep (fps (vd vb d st n fv file safe room)) w (vd vb d st 1 fv' (recB st) 32 room) w'))
set_option maxHeartbeats 4000000 in
theorem vsync_is (w : World) (vb d : Nat) (st : V4) (n : Int) (fv : Value) (file : List Int) (safe room : Int) (h : Got (vd vb d st n fv file safe room) w) (hl : file.length ≤ 1000000) (hs : 0 ≤ safe ∧ safe ≤ file.length) (hok : st.ok = true) (hroom : 64 < n → 32 ≤ room) :
    Calls Try.prog 14 #[.pointer (some ⟨vb, 0, none⟩)] w (VSyncOut w vb d st n fv file safe room) := by
  have H := h.sep
  generalize hFF : fps (vd vb d st n fv file safe room) = FF at H
  have hX1 : ∀ w', n ≤ 64 → Sep FF w (vd vb d st n fv file file.length room) w' → VSyncOut w vb d st n fv file safe room (.returned (.tuple #[])) w' := fun w' h1 h2 => ⟨rfl, .inl ⟨h1, by rw [hFF]; exact h2⟩⟩
  have hX2 : ∀ w', 64 < n → (∃ fv', Sep FF w (vd vb d st 1 fv' (recB st) 32 room) w') → VSyncOut w vb d st n fv file safe room (.returned (.tuple #[])) w' := fun w' h1 h2 => ⟨rfl, .inr ⟨h1, by rw [hFF]; exact h2⟩⟩
  generalize VSyncOut w vb d st n fv file safe room = X at *
  have hX1h : Hid _ := hX1
  have hX2h : Hid _ := hX2
  have hlh : Hid (file.length ≤ 1000000) := hl
  have hokh : Hid (st.ok = true) := hok
  have hrmh : Hid (64 < n → 32 ≤ room) := hroom
  have hSy := sync_is w d fv file safe room (H.at_ 1 rfl) (by omega) hs
  have hSyh : Hid _ := hSy
  clear hX1 hX2 hFF h hl hok hroom hSy hs
  have c4 : World.cell? (w) ⟨vb, 4, none⟩ = some _ := (H.blk 0 rfl).cell 4
  go_enter Try.func14, Try.ntmps14
  go_wp2_with fail
  go_at_call 37
  refine Calls.mono (hSyh.out) ?_
  rintro e w1 ⟨rfl, d1, t1⟩
  replace H := Vs.Sep.disk H 1 rfl d1 (t1.mono (by simp [foot])) (Moved.refl _ _ _)
  clear c4 d1 t1 hSyh
  have c5 : World.cell? (w1) ⟨vb, 5, none⟩ = some _ := (H.blk 0 rfl).cell 5
  by_cases h64 : n > 64
  · have g1 := decide_eq_true h64
    have h64h : Hid (n > 64) := h64
    have hBy := fun w => bytes_is w (.pointer (some ⟨vb, 0, none⟩)) st hokh.out
    have hByh : Hid _ := hBy
    clear h64 hBy
    replace H := H.drew
    go_wp2_with fail
    go_wp2_with fail
    refine wp_region_flo2 [(0, true, [10, 11]), (1, true, [10, 11]), (2, true, [10, 11]), (3, true, [10]), (4, true, [11]), (5, true, [10, 11]), (6, true, [10, 11]), (7, true, [10, 11]), (8, true, [10, 11]), (9, true, [11]), (10, false, []), (11, false, [])] (fun j W => Blk W vb #[.int .i64 st.p, .int .i64 st.g, .int .i64 st.h, .int .i64 st.r, .pointer (some ⟨d, 0, none⟩), .int .i64 n] 69) (by kernel_rfl) rfl (by kernel_rfl) (by intro c d v a w h; cases d <;> first | (simpa [Exit.then, Exit.inBlock, Act.put] using h) | exact h) ?_
    generalize w1.drew = w2 at *
    have V : Blk w2 vb #[.int .i64 st.p, .int .i64 st.g, .int .i64 st.h, .int .i64 st.r, .pointer (some ⟨d, 0, none⟩), .int .i64 n] 69 := H.blk 0 rfl
    have d0 : World.cell? (w2) ⟨vb, 0, none⟩ = some _ := (V).cell 0
    have d1 : World.cell? (w2) ⟨vb, 1, none⟩ = some _ := (V).cell 1
    have d2 : World.cell? (w2) ⟨vb, 2, none⟩ = some _ := (V).cell 2
    have d3 : World.cell? (w2) ⟨vb, 3, none⟩ = some _ := (V).cell 3
    have d4 : World.cell? (w2) ⟨vb, 4, none⟩ = some _ := (V).cell 4
    first
      | (refine flo2_read _ rfl (fun _ => True) trivial (fun _ _ _ _ => trivial) (fun K hK => ?_); go_simp; first | (refine hK _ ?_) | (refine ⟨fun W _ => ?_, hK _ ?_⟩; · (go_simp)) | (refine ⟨fun W => ?_, hK _ ?_⟩; · (go_simp)))
      | (refine flo2_read _ rfl (fun W => W = _) rfl (by simp) (fun K hK => ?_); go_simp; first | (refine hK _ ?_) | (refine ⟨fun W hS => ?_, hK _ ?_⟩; · (subst hS; go_simp)) | (refine ⟨?_, hK _ ?_⟩; · (go_simp)))
    clear hK K
    first
      | (refine flo2_read _ rfl (fun _ => True) trivial (fun _ _ _ _ => trivial) (fun K hK => ?_); go_simp; first | (refine hK _ ?_) | (refine ⟨fun W _ => ?_, hK _ ?_⟩; · (go_simp)) | (refine ⟨fun W => ?_, hK _ ?_⟩; · (go_simp)))
      | (refine flo2_read _ rfl (fun W => W = _) rfl (by simp) (fun K hK => ?_); go_simp; first | (refine hK _ ?_) | (refine ⟨fun W hS => ?_, hK _ ?_⟩; · (subst hS; go_simp)) | (refine ⟨?_, hK _ ?_⟩; · (go_simp)))
    clear hK K
    first
      | (refine flo2_read _ rfl (fun _ => True) trivial (fun _ _ _ _ => trivial) (fun K hK => ?_); go_simp; first | (refine hK _ ?_) | (refine ⟨fun W _ => ?_, hK _ ?_⟩; · (go_simp)) | (refine ⟨fun W => ?_, hK _ ?_⟩; · (go_simp)))
      | (refine flo2_read _ rfl (fun W => W = _) rfl (by simp) (fun K hK => ?_); go_simp; first | (refine hK _ ?_) | (refine ⟨fun W hS => ?_, hK _ ?_⟩; · (subst hS; go_simp)) | (refine ⟨?_, hK _ ?_⟩; · (go_simp)))
    clear hK K
    refine flo2_read _ rfl (fun W => Blk W vb #[.int .i64 st.p, .int .i64 st.g, .int .i64 st.h, .int .i64 st.r, .pointer (some ⟨d, 0, none⟩), .int .i64 n] 69) (V) (fun _ _ _ h => h) (fun K hK => ?_)
    go_simp
    first | (refine hK _ ?_) | (refine ⟨fun W hS => ?_, hK _ ?_⟩; · (have x4 : W.cell? ⟨vb, 4, none⟩ = some _ := hS.cell 4; try go_simp))
    clear hK K
    first
      | (refine flo2_read _ rfl (fun _ => True) trivial (fun _ _ _ _ => trivial) (fun K hK => ?_); go_simp; first | (refine hK _ ?_) | (refine ⟨fun W _ => ?_, hK _ ?_⟩; · (go_simp)) | (refine ⟨fun W => ?_, hK _ ?_⟩; · (go_simp)))
      | (refine flo2_read _ rfl (fun W => W = _) rfl (by simp) (fun K hK => ?_); go_simp; first | (refine hK _ ?_) | (refine ⟨fun W hS => ?_, hK _ ?_⟩; · (subst hS; go_simp)) | (refine ⟨?_, hK _ ?_⟩; · (go_simp)))
    clear hK K
    first
      | (refine flo2_read _ rfl (fun _ => True) trivial (fun _ _ _ _ => trivial) (fun K hK => ?_); go_simp; first | (refine hK _ ?_) | (refine ⟨fun W _ => ?_, hK _ ?_⟩; · (go_simp)) | (refine ⟨fun W => ?_, hK _ ?_⟩; · (go_simp)))
      | (refine flo2_read _ rfl (fun W => W = _) rfl (by simp) (fun K hK => ?_); go_simp; first | (refine hK _ ?_) | (refine ⟨fun W hS => ?_, hK _ ?_⟩; · (subst hS; go_simp)) | (refine ⟨?_, hK _ ?_⟩; · (go_simp)))
    clear hK K
    first
      | (refine flo2_read _ rfl (fun _ => True) trivial (fun _ _ _ _ => trivial) (fun K hK => ?_); go_simp; first | (refine hK _ ?_) | (refine ⟨fun W _ => ?_, hK _ ?_⟩; · (go_simp)) | (refine ⟨fun W => ?_, hK _ ?_⟩; · (go_simp)))
      | (refine flo2_read _ rfl (fun W => W = _) rfl (by simp) (fun K hK => ?_); go_simp; first | (refine hK _ ?_) | (refine ⟨fun W hS => ?_, hK _ ?_⟩; · (subst hS; go_simp)) | (refine ⟨?_, hK _ ?_⟩; · (go_simp)))
    clear hK K
    first
      | (refine flo2_read _ rfl (fun _ => True) trivial (fun _ _ _ _ => trivial) (fun K hK => ?_); go_simp; first | (refine hK _ ?_) | (refine ⟨fun W _ => ?_, hK _ ?_⟩; · (go_simp)) | (refine ⟨fun W => ?_, hK _ ?_⟩; · (go_simp)))
      | (refine flo2_read _ rfl (fun W => W = _) rfl (by simp) (fun K hK => ?_); go_simp; first | (refine hK _ ?_) | (refine ⟨fun W hS => ?_, hK _ ?_⟩; · (subst hS; go_simp)) | (refine ⟨?_, hK _ ?_⟩; · (go_simp)))
    clear hK K
    first
      | (refine flo2_read _ rfl (fun _ => True) trivial (fun _ _ _ _ => trivial) (fun K hK => ?_); go_simp; first | (refine hK _ ?_) | (refine ⟨fun W _ => ?_, hK _ ?_⟩; · (go_simp)) | (refine ⟨fun W => ?_, hK _ ?_⟩; · (go_simp)))
      | (refine flo2_read _ rfl (fun W => W = _) rfl (by simp) (fun K hK => ?_); go_simp; first | (refine hK _ ?_) | (refine ⟨fun W hS => ?_, hK _ ?_⟩; · (subst hS; go_simp)) | (refine ⟨?_, hK _ ?_⟩; · (go_simp)))
    clear hK K
    refine flo2_read _ rfl (fun W => Blk W vb #[.int .i64 st.p, .int .i64 st.g, .int .i64 st.h, .int .i64 st.r, .pointer (some ⟨d, 0, none⟩), .int .i64 n] 69) (V) (fun _ _ _ h => h) (fun K hK => ?_)
    go_simp
    first | (refine hK _ ?_) | (refine ⟨fun W hS => ?_, hK _ ?_⟩; · (have y0 : W.cell? ⟨vb, 0, none⟩ = some _ := hS.cell 0; have y1 : W.cell? ⟨vb, 1, none⟩ = some _ := hS.cell 1; have y2 : W.cell? ⟨vb, 2, none⟩ = some _ := hS.cell 2; have y3 : W.cell? ⟨vb, 3, none⟩ = some _ := hS.cell 3; try go_simp))
    clear hK K
    refine flo2_alone _ rfl ?_
    go_wp2_with fail
    go_at_call 34
    refine Calls.mono (hByh.out _) ?_
    rintro e w5 ⟨v, rfl, o5, t5, f5⟩
    go_wp2_with fail
    refine ⟨V.turns t5 (by simp), _, fun _ _ h => h, ?_⟩
    replace H := H.newSlice t5 o5 f5
    have hlr : (recB st).length = 32 := recB_len _
    have hW := replace_ok w5 d fv v file (recB st) file.length room (H.at_ 2 rfl) o5.reads (by omega) (by rw [hlr]; exact decide_eq_false (by have := hrmh.out h64h.out; omega))
    rw [hlr] at hW
    have hWh : Hid _ := hW
    clear t5 f5 V d0 d1 d2 d3 d4 hByh hW o5 hlr c5
    refine flo2_alone _ rfl ?_
    go_wp2_with fail
    go_at_call 27
    refine Calls.mono (hWh.out) ?_
    rintro e w6 ⟨rfl, fv6, d6, t6, m6⟩
    go_wp2_with fail
    refine ⟨(Vs.Sep.disk H 2 rfl d6 t6 m6).blk 1 rfl, _, fun _ _ h => h, ?_⟩
    replace H := Vs.Sep.disk H 2 rfl d6 t6 m6
    refine flo2_end ?_
    have c5 : World.cell? (w6) ⟨vb, 5, none⟩ = some _ := (H.blk 1 rfl).cell 5
    have cf5 : World.frozen? (w6) ⟨vb, 5, none⟩ = false := (H.blk 1 rfl).frozen 5
    replace H := H.set 1 rfl 5 (.int .i64 1)
    have hX := hX2h.out _ h64h.out ⟨fv6, H.lose [0]⟩
    clear H
    go_wp2_with fail
    go_end0
    exact hX
  · have g1 : decide (n > 64) = false := decide_eq_false h64
    have hX := hX1h.out w1 (by omega) H
    clear H h64
    go_wp2_with fail
    go_end0
    exact hX
def MSyncOut (w : World) (mb d : Nat) (lv : Value) (L : List V4) (sv lw : Value) (safe loose : List Int) (room : Int) (e : Ending) (w' : World) : Prop :=
  e = .returned (.tuple #[]) ∧ ((L.length ≤ 64 ∧ ∃ sv' lw', Sep (fps (md mb d lv L sv lw safe loose room)) w (md mb d lv L sv' lw' (safe ++ loose) [] room) w') ∨ (64 < L.length ∧ ∃ lv' sv' lw', Sep (fps (md mb d lv L sv lw safe loose room)) w (md mb d lv' [lastV L] sv' lw' (recB (lastV L)) [] room) w'))
set_option maxHeartbeats 4000000 in
theorem msync_is (w : World) (mb d : Nat) (lv : Value) (L : List V4) (sv lw : Value) (safe loose : List Int) (room : Int) (h : Got (md mb d lv L sv lw safe loose room) w) (hl : (safe ++ loose).length ≤ 1000000) (hn : L.length ≤ 1000000) (hok : (lastV L).ok = true) (hroom : 64 < L.length → 32 ≤ room) :
    Calls Try.prog 15 #[.pointer (some ⟨mb, 0, none⟩)] w (MSyncOut w mb d lv L sv lw safe loose room) := by
  have H := h.sep
  generalize hFF : fps (md mb d lv L sv lw safe loose room) = FF at H
  have hX1 : ∀ w', L.length ≤ 64 → (∃ sv' lw', Sep FF w (md mb d lv L sv' lw' (safe ++ loose) [] room) w') → MSyncOut w mb d lv L sv lw safe loose room (.returned (.tuple #[])) w' := fun w' h1 h2 => ⟨rfl, .inl ⟨h1, by rw [hFF]; exact h2⟩⟩
  have hX2 : ∀ w', 64 < L.length → (∃ lv' sv' lw', Sep FF w (md mb d lv' [lastV L] sv' lw' (recB (lastV L)) [] room) w') → MSyncOut w mb d lv L sv lw safe loose room (.returned (.tuple #[])) w' := fun w' h1 h2 => ⟨rfl, .inr ⟨h1, by rw [hFF]; exact h2⟩⟩
  generalize MSyncOut w mb d lv L sv lw safe loose room = X at *
  have hll : safe.length + loose.length ≤ 1000000 := by rw [List.length_append] at hl; exact hl
  obtain ⟨x, hx⟩ : ∃ x, lastV L = x := ⟨_, rfl⟩
  rw [hx] at hX2 hok
  have hxh : Hid (lastV L = x) := hx
  have hX1h : Hid _ := hX1
  have hX2h : Hid _ := hX2
  have hokh : Hid (x.ok = true) := hok
  have hrmh : Hid (64 < L.length → 32 ≤ room) := hroom
  have hnh : Hid (L.length ≤ 1000000) := hn
  have hSy := rsync_is w d sv lw safe loose room (H.at_ 1 rfl) (by omega)
  have hSyh : Hid _ := hSy
  obtain ⟨A0, c0', rfl, _⟩ := (IsM.own (H.at_ 0 rfl)).form
  rw [List.length_map] at H hX1h
  clear hX1 hX2 hFF h hl hok hroom hSy hll hn hx
  replace H := m_open H
  have c0 : World.cell? (w) ⟨mb, 0, none⟩ = some _ := (H.blk 1 rfl).cell 0
  go_enter Try.func15, Try.ntmps15
  go_wp2_with fail
  go_at_call 38
  refine Calls.mono (hSyh.out) ?_
  rintro e w1 ⟨rfl, sv1, d1, t1, m1⟩
  replace H := Vs.Sep.rdisk H 2 rfl d1 (t1.mono (by simp [rfoot])) m1
  clear c0 d1 t1 m1 hSyh
  have c1 : World.cell? (w1) ⟨mb, 1, none⟩ = some _ := (H.blk 1 rfl).cell 1
  by_cases h64 : (L.length : Int) > 64
  · have g1 := decide_eq_true h64
    have h64h : Hid (64 < L.length) := by show 64 < L.length; omega
    have hLs := last_is w1 mb d _ L ⟨H.blk 1 rfl, H.own 0 rfl⟩ hnh.out
    rw [hxh.out] at hLs
    have hLsh : Hid _ := hLs
    clear h64 hLs
    go_wp2_with fail
    go_at_call 31
    refine Calls.mono (hLsh.out) ?_
    rintro e w2 ⟨rfl, t2⟩
    replace H := H.turns t2
    have hByh : Hid _ := fun w => dbytes_is w x hokh.out
    obtain ⟨p, g, hh, rr⟩ := x
    replace H := (H.alloc #[.int .i64 p, .int .i64 g, .int .i64 hh, .int .i64 rr] 47).drew
    clear t2 hLsh c1
    go_wp2_with fail
    go_wp2_with fail
    refine wp_region_flo2 [(0, true, [5, 6]), (1, true, [5, 6]), (2, true, [5, 6]), (3, true, [5]), (4, true, [6]), (5, false, []), (6, false, [])] (fun j W => Blk2 W mb #[.pointer (some ⟨d, 0, none⟩), .slice A0 L.length c0'] 52 w2.heap.size #[.int .i64 p, .int .i64 g, .int .i64 hh, .int .i64 rr] 47) (by kernel_rfl) rfl (by kernel_rfl) (by intro c d v a w h; cases d <;> first | (simpa [Exit.then, Exit.inBlock, Act.put] using h) | exact h) ?_
    generalize (w2.alloc (.cells #[.int .i64 p, .int .i64 g, .int .i64 hh, .int .i64 rr] 47)).drew = w3 at *
    have VV : Blk2 w3 mb #[.pointer (some ⟨d, 0, none⟩), .slice A0 L.length c0'] 52 w2.heap.size #[.int .i64 p, .int .i64 g, .int .i64 hh, .int .i64 rr] 47 := ⟨H.blk 2 rfl, H.blk 0 rfl⟩
    have c0 : World.cell? (w3) ⟨mb, 0, none⟩ = some _ := (VV.a).cell 0
    have d0 : World.cell? (w3) ⟨w2.heap.size, 0, none⟩ = some _ := (VV.c).cell 0
    have d1 : World.cell? (w3) ⟨w2.heap.size, 1, none⟩ = some _ := (VV.c).cell 1
    have d2 : World.cell? (w3) ⟨w2.heap.size, 2, none⟩ = some _ := (VV.c).cell 2
    have d3 : World.cell? (w3) ⟨w2.heap.size, 3, none⟩ = some _ := (VV.c).cell 3
    first
      | (refine flo2_read _ rfl (fun _ => True) trivial (fun _ _ _ _ => trivial) (fun K hK => ?_); go_simp; first | (refine hK _ ?_) | (refine ⟨fun W _ => ?_, hK _ ?_⟩; · (go_simp)) | (refine ⟨fun W => ?_, hK _ ?_⟩; · (go_simp)))
      | (refine flo2_read _ rfl (fun W => W = _) rfl (by simp) (fun K hK => ?_); go_simp; first | (refine hK _ ?_) | (refine ⟨fun W hS => ?_, hK _ ?_⟩; · (subst hS; go_simp)) | (refine ⟨?_, hK _ ?_⟩; · (go_simp)))
    clear hK K
    first
      | (refine flo2_read _ rfl (fun _ => True) trivial (fun _ _ _ _ => trivial) (fun K hK => ?_); go_simp; first | (refine hK _ ?_) | (refine ⟨fun W _ => ?_, hK _ ?_⟩; · (go_simp)) | (refine ⟨fun W => ?_, hK _ ?_⟩; · (go_simp)))
      | (refine flo2_read _ rfl (fun W => W = _) rfl (by simp) (fun K hK => ?_); go_simp; first | (refine hK _ ?_) | (refine ⟨fun W hS => ?_, hK _ ?_⟩; · (subst hS; go_simp)) | (refine ⟨?_, hK _ ?_⟩; · (go_simp)))
    clear hK K
    first
      | (refine flo2_read _ rfl (fun _ => True) trivial (fun _ _ _ _ => trivial) (fun K hK => ?_); go_simp; first | (refine hK _ ?_) | (refine ⟨fun W _ => ?_, hK _ ?_⟩; · (go_simp)) | (refine ⟨fun W => ?_, hK _ ?_⟩; · (go_simp)))
      | (refine flo2_read _ rfl (fun W => W = _) rfl (by simp) (fun K hK => ?_); go_simp; first | (refine hK _ ?_) | (refine ⟨fun W hS => ?_, hK _ ?_⟩; · (subst hS; go_simp)) | (refine ⟨?_, hK _ ?_⟩; · (go_simp)))
    clear hK K
    refine flo2_read _ rfl (fun W => Blk2 W mb #[.pointer (some ⟨d, 0, none⟩), .slice A0 L.length c0'] 52 w2.heap.size #[.int .i64 p, .int .i64 g, .int .i64 hh, .int .i64 rr] 47) (VV) (fun _ _ _ h => h) (fun K hK => ?_)
    go_simp
    first | (refine hK _ ?_) | (refine ⟨fun W hS => ?_, hK _ ?_⟩; · (have x4 : W.cell? ⟨mb, 0, none⟩ = some _ := hS.a.cell 0; try go_simp))
    clear hK K
    refine flo2_read _ rfl (fun W => Blk2 W mb #[.pointer (some ⟨d, 0, none⟩), .slice A0 L.length c0'] 52 w2.heap.size #[.int .i64 p, .int .i64 g, .int .i64 hh, .int .i64 rr] 47) (VV) (fun _ _ _ h => h) (fun K hK => ?_)
    go_simp
    first | (refine hK _ ?_) | (refine ⟨fun W hS => ?_, hK _ ?_⟩; · (have y0 : W.cell? ⟨w2.heap.size, 0, none⟩ = some _ := hS.c.cell 0; have y1 : W.cell? ⟨w2.heap.size, 1, none⟩ = some _ := hS.c.cell 1; have y2 : W.cell? ⟨w2.heap.size, 2, none⟩ = some _ := hS.c.cell 2; have y3 : W.cell? ⟨w2.heap.size, 3, none⟩ = some _ := hS.c.cell 3; try go_simp))
    clear hK K
    refine flo2_alone _ rfl ?_
    go_wp2_with fail
    go_at_call 36
    refine Calls.mono (hByh.out _) ?_
    rintro e w5 ⟨v, rfl, o5, t5, f5⟩
    go_wp2_with fail
    refine ⟨VV.turns t5, _, fun _ _ h => h, ?_⟩
    replace H := H.newSlice t5 o5 f5
    have hlr : (recB ⟨p, g, hh, rr⟩).length = 32 := recB_len _
    have hW := rreplace_ok w5 d sv1 _ v (safe ++ loose) [] (recB ⟨p, g, hh, rr⟩) room (H.at_ 4 rfl) o5.reads (by omega) (by rw [hlr]; exact decide_eq_false (by have := hrmh.out h64h.out; omega))
    have hWh : Hid _ := hW
    clear t5 f5 VV c0 d0 d1 d2 d3 hByh hW o5 hlr
    refine flo2_alone _ rfl ?_
    go_wp2_with fail
    go_at_call 32
    refine Calls.mono (hWh.out) ?_
    rintro e w6 ⟨rfl, sv6, d6, t6, m6⟩
    go_wp2_with fail
    refine ⟨⟨(Vs.Sep.rdisk H 4 rfl d6 (t6.mono (by simp [rfoot])) m6).blk 3 rfl, (Vs.Sep.rdisk H 4 rfl d6 (t6.mono (by simp [rfoot])) m6).blk 1 rfl⟩, _, fun _ _ h => h, ?_⟩
    replace H := Vs.Sep.rdisk H 4 rfl d6 (t6.mono (by simp [rfoot])) m6
    refine flo2_end ?_
    have d0 : World.cell? (w6) ⟨w2.heap.size, 0, none⟩ = some _ := (H.blk 1 rfl).cell 0
    have d1 : World.cell? (w6) ⟨w2.heap.size, 1, none⟩ = some _ := (H.blk 1 rfl).cell 1
    have d2 : World.cell? (w6) ⟨w2.heap.size, 2, none⟩ = some _ := (H.blk 1 rfl).cell 2
    have d3 : World.cell? (w6) ⟨w2.heap.size, 3, none⟩ = some _ := (H.blk 1 rfl).cell 3
    replace H := H.alloc #[.int .i64 p, .int .i64 g, .int .i64 hh, .int .i64 rr] 47
    have o1 : OwnS 47 4 (w6.alloc (.cells #[.int .i64 p, .int .i64 g, .int .i64 hh, .int .i64 rr] 47)) (.slice (some ⟨w6.heap.size, 0, none⟩) 1 1) ([(⟨p, g, hh, rr⟩ : V4)].map V4.cells) := ⟨World.ownsRow_lit w6 #[.int .i64 p, .int .i64 g, .int .i64 hh, .int .i64 rr] 1 (Nat.zero_le _) (by decide) rfl, by simp [V4.cells]⟩
    have c1 : World.cell? (w6.alloc (.cells #[.int .i64 p, .int .i64 g, .int .i64 hh, .int .i64 rr] 47)) ⟨mb, 1, none⟩ = some _ := (H.blk 4 rfl).cell 1
    have cf1 : World.frozen? (w6.alloc (.cells #[.int .i64 p, .int .i64 g, .int .i64 hh, .int .i64 rr] 47)) ⟨mb, 1, none⟩ = false := (H.blk 4 rfl).frozen 1
    replace H := H.step 0 (T' := tOwn 47 4 (.slice (some ⟨w6.heap.size, 0, none⟩) 1 1) ([(⟨p, g, hh, rr⟩ : V4)].map V4.cells)) rfl (Turns.refl _ _) o1 (fun k hk => .inl (by simpa [tOwn, tBlk, Value.ownBlock, eq_comm] using hk))
    replace H := H.set 4 rfl 1 (.slice (some ⟨w6.heap.size, 0, none⟩) 1 1)
    have hX := hX2h.out _ h64h.out ⟨_, _, _, m_shut (H.keep [0, 4, 5])⟩
    clear H
    go_wp2_with fail
    go_end0
    exact hX
  · have g1 : decide ((L.length : Int) > 64) = false := decide_eq_false h64
    have hX := hX1h.out w1 (by omega) ⟨_, _, m_shut H⟩
    clear H h64
    go_wp2_with fail
    go_end0
    exact hX
end Go.Proofs.Ytknmjmhiejmjdaa.Vl
