/- The walk of the document's Put. -/
import Derived.Test.YtknmjmhiejmjdaaVi
set_option linter.unusedVariables false
set_option linter.unusedSimpArgs false
set_option maxRecDepth 100000
namespace Go.Proofs.Ytknmjmhiejmjdaa.Vj
open Go.RowKit Go.MapKept Go.ChangeShapes Go.WideShapes Hm Hs Hr Hb Hf Hg Hv Ho Hx Dk Dr Kw Kn Kr Ks Va Vb Vc Vd Ve Vf Vs Vg Vi
/-- the document's vault and its disk -/
abbrev md (mb d : Nat) (lv : Value) (L : List V4) (sv lw : Value) (safe loose : List Int) (room : Int) : List Th := [tM mb d lv L, tDr d sv lw safe loose room]
def DPutOut (w : World) (mb d : Nat) (lv : Value) (L : List V4) (sv lw : Value) (safe loose : List Int) (room : Int) (s : V4) (r : Int) (e : Ending) (w' : World) : Prop :=
  e = .returned (.int .i64 r) ∧ ((r ≠ 0 ∧ Sep (fps (md mb d lv L sv lw safe loose room)) w (md mb d lv L sv lw safe loose room) w') ∨ (r = 0 ∧ ∃ lv' lw', Sep (fps (md mb d lv L sv lw safe loose room)) w (md mb d lv' (L ++ [s]) sv lw' safe (loose ++ recB s) room) w'))
set_option maxHeartbeats 4000000 in
theorem dput_is (w : World) (mb d : Nat) (lv : Value) (L : List V4) (sv lw : Value) (safe loose : List Int) (room : Int) (s : V4) (r : Int) (h : Got (md mb d lv L sv lw safe loose room) w) (hl : (safe ++ loose).length ≤ 1000000) (hn : L.length ≤ 1000000) (hr : putR4 (lastV L) s (safe ++ loose).length room = r) :
    Calls Try.prog 12 #[.pointer (some ⟨mb, 0, none⟩), sAgg s] w (DPutOut w mb d lv L sv lw safe loose room s r) := by
  have H := h.sep
  generalize hFF : fps (md mb d lv L sv lw safe loose room) = FF at H
  have hPO : ∀ (r' : Int) w', (r = r' ∧ r' ≠ 0) → Sep FF w (md mb d lv L sv lw safe loose room) w' → DPutOut w mb d lv L sv lw safe loose room s r (.returned (.int .i64 r')) w' := fun r' w' h1 h2 => ⟨by rw [h1.1], .inl ⟨by rw [h1.1]; exact h1.2, by rw [hFF]; exact h2⟩⟩
  have hPZ : ∀ w', r = 0 → (∃ lv' lw', Sep FF w (md mb d lv' (L ++ [s]) sv lw' safe (loose ++ recB s) room) w') → DPutOut w mb d lv L sv lw safe loose room s r (.returned (.int .i64 0)) w' := fun w' h1 h2 => ⟨by rw [h1], .inr ⟨h1, by rw [hFF]; exact h2⟩⟩
  generalize DPutOut w mb d lv L sv lw safe loose room s r = X at *
  have hll : safe.length + loose.length ≤ 1000000 := by rw [List.length_append] at hl; exact hl
  have hPOh : Hid _ := hPO
  have hPZh : Hid _ := hPZ
  have hrh : Hid (putR4 (lastV L) s (safe ++ loose).length room = r) := hr
  have hlh : Hid (safe.length + loose.length ≤ 1000000) := hll
  have hnh : Hid (L.length ≤ 1000000) := hn
  clear hPO hPZ hr hFF h hl hll hn
  replace H := m_open H
  replace H := H.alloc #[.int .i64 s.p, .int .i64 s.g, .int .i64 s.h, .int .i64 s.r] 47
  have hRt := dright_is (w.alloc (sObj s 47)) s
  have hRi := fun w => drises_is w (lastV L) s
  have hBy := fun w => dbytes_is w s
  obtain ⟨ok, hok⟩ : ∃ ok, s.ok = ok := ⟨_, rfl⟩
  obtain ⟨ris, hris⟩ : ∃ ris, (lastV L).rises s = ris := ⟨_, rfl⟩
  rw [hok] at hRt hBy
  rw [hris] at hRi
  have hokh : Hid (s.ok = ok) := hok
  have hrish : Hid ((lastV L).rises s = ris) := hris
  have hRth : Hid _ := hRt
  have hRih : Hid _ := hRi
  have hByh : Hid _ := hBy
  clear hRt hRi hBy hok hris
  obtain ⟨p, g, hh, rr⟩ := s
  go_enter Try.func12, Try.ntmps12
  go_wp2_with fail
  go_at_call 30
  refine Calls.mono (hRth.out) ?_
  rintro e w1 ⟨rfl, t1⟩
  replace H := H.turns t1
  clear t1 hRth
  cases ok with
  | false =>
    have hX := hPOh.out 1 w1 ⟨by rw [← hrh.out]; unfold putR4; rw [if_pos hokh.out], by decide⟩ (m_shut (H.lose [0]))
    clear H
    go_wp2_with fail
    exact hX
  | true =>
    replace H := H.drew
    go_wp2_with fail
    have hLs := last_is w1.drew mb d lv L ⟨H.blk 2 rfl, H.own 1 rfl⟩ hnh.out
    have hLsh : Hid _ := hLs
    clear hLs
    go_wp2_with fail
    refine wp_region_flo2 [(0, true, [3]), (2, true, [1]), (1, false, []), (3, false, []), (4, true, [])] (fun j W => Blk W w.heap.size #[.int .i64 p, .int .i64 g, .int .i64 hh, .int .i64 rr] 47) (by kernel_rfl) rfl (by kernel_rfl) (by intro c d v a w h; cases d <;> first | (simpa [Exit.then, Exit.inBlock, Act.put] using h) | exact h) ?_
    generalize w1.drew = w2 at *
    have S : Blk w2 w.heap.size #[.int .i64 p, .int .i64 g, .int .i64 hh, .int .i64 rr] 47 := H.blk 0 rfl
    have d0 : World.cell? (w2) ⟨w.heap.size, 0, none⟩ = some _ := (S).cell 0
    have d1 : World.cell? (w2) ⟨w.heap.size, 1, none⟩ = some _ := (S).cell 1
    have d2 : World.cell? (w2) ⟨w.heap.size, 2, none⟩ = some _ := (S).cell 2
    have d3 : World.cell? (w2) ⟨w.heap.size, 3, none⟩ = some _ := (S).cell 3
    first
      | (refine flo2_read _ rfl (fun _ => True) trivial (fun _ _ _ _ => trivial) (fun K hK => ?_); go_simp; first | (refine hK _ ?_) | (refine ⟨fun W _ => ?_, hK _ ?_⟩; · (go_simp)) | (refine ⟨fun W => ?_, hK _ ?_⟩; · (go_simp)))
      | (refine flo2_read _ rfl (fun W => W = _) rfl (by simp) (fun K hK => ?_); go_simp; first | (refine hK _ ?_) | (refine ⟨fun W hS => ?_, hK _ ?_⟩; · (subst hS; go_simp)) | (refine ⟨?_, hK _ ?_⟩; · (go_simp)))
    clear hK K
    refine flo2_read _ rfl (fun W => Blk W w.heap.size #[.int .i64 p, .int .i64 g, .int .i64 hh, .int .i64 rr] 47) (S) (fun _ _ _ h => h) (fun K hK => ?_)
    go_simp
    first | (refine hK _ ?_) | (refine ⟨fun W hS => ?_, hK _ ?_⟩; · (have y0 : W.cell? ⟨w.heap.size, 0, none⟩ = some _ := hS.cell 0; have y1 : W.cell? ⟨w.heap.size, 1, none⟩ = some _ := hS.cell 1; have y2 : W.cell? ⟨w.heap.size, 2, none⟩ = some _ := hS.cell 2; have y3 : W.cell? ⟨w.heap.size, 3, none⟩ = some _ := hS.cell 3; try go_simp))
    clear hK K
    refine flo2_alone _ rfl ?_
    go_wp2_with fail
    go_at_call 31
    refine Calls.mono (hLsh.out) ?_
    rintro e w3 ⟨rfl, t3⟩
    go_wp2_with fail
    refine ⟨S.turns t3 (by simp), _, fun _ _ h => h, ?_⟩
    replace H := H.turns t3
    clear t3 hLsh S d0 d1 d2 d3
    refine flo2_alone _ rfl ?_
    go_wp2_with fail
    go_at_call 20
    refine Calls.mono (hRih.out _) ?_
    rintro e w4 ⟨rfl, t4⟩
    go_wp2_with fail
    refine ⟨(H.turns t4).blk 0 rfl, _, fun _ _ h => h, ?_⟩
    replace H := H.turns t4
    clear t4 hRih
    first
      | (refine flo2_read _ rfl (fun _ => True) trivial (fun _ _ _ _ => trivial) (fun K hK => ?_); go_simp; first | (refine hK _ ?_) | (refine ⟨fun W _ => ?_, hK _ ?_⟩; · (go_simp)) | (refine ⟨fun W => ?_, hK _ ?_⟩; · (go_simp)))
      | (refine flo2_read _ rfl (fun W => W = _) rfl (by simp) (fun K hK => ?_); go_simp; first | (refine hK _ ?_) | (refine ⟨fun W hS => ?_, hK _ ?_⟩; · (subst hS; go_simp)) | (refine ⟨?_, hK _ ?_⟩; · (go_simp)))
    clear hK K
    refine flo2_end ?_
    cases ris with
    | false =>
      have hX := hPOh.out 7 w4 ⟨by rw [← hrh.out]; unfold putR4; rw [if_neg (by rw [hokh.out]; simp), if_pos hrish.out], by decide⟩ (m_shut (H.lose [0]))
      clear H
      go_wp2_with fail
      exact hX
    | true =>
      replace H := H.drew
      go_wp2_with fail
      go_wp2_with fail
      refine wp_region_flo2 [(0, true, [5, 6]), (1, true, [5, 6]), (2, true, [5, 6]), (3, true, [5]), (4, true, [6]), (5, false, []), (6, false, []), (7, true, [])] (fun j W => Blk2 W mb #[.pointer (some ⟨d, 0, none⟩), lv] 52 w.heap.size #[.int .i64 p, .int .i64 g, .int .i64 hh, .int .i64 rr] 47) (by kernel_rfl) rfl (by kernel_rfl) (by intro c d v a w h; cases d <;> first | (simpa [Exit.then, Exit.inBlock, Act.put] using h) | exact h) ?_
      generalize w4.drew = w5 at *
      have VV : Blk2 w5 mb #[.pointer (some ⟨d, 0, none⟩), lv] 52 w.heap.size #[.int .i64 p, .int .i64 g, .int .i64 hh, .int .i64 rr] 47 := ⟨H.blk 2 rfl, H.blk 0 rfl⟩
      have c0 : World.cell? (w5) ⟨mb, 0, none⟩ = some _ := (VV.a).cell 0
      have d0 : World.cell? (w5) ⟨w.heap.size, 0, none⟩ = some _ := (VV.c).cell 0
      have d1 : World.cell? (w5) ⟨w.heap.size, 1, none⟩ = some _ := (VV.c).cell 1
      have d2 : World.cell? (w5) ⟨w.heap.size, 2, none⟩ = some _ := (VV.c).cell 2
      have d3 : World.cell? (w5) ⟨w.heap.size, 3, none⟩ = some _ := (VV.c).cell 3
      first
        | (refine flo2_read _ rfl (fun _ => True) trivial (fun _ _ _ _ => trivial) (fun K hK => ?_); go_simp; first | (refine hK _ ?_) | (refine ⟨fun W _ => ?_, hK _ ?_⟩; · (go_simp)) | (refine ⟨fun W => ?_, hK _ ?_⟩; · (go_simp)))
        | (refine flo2_read _ rfl (fun W => W = _) rfl (by simp) (fun K hK => ?_); go_simp; first | (refine hK _ ?_) | (refine ⟨fun W hS => ?_, hK _ ?_⟩; · (subst hS; go_simp)) | (refine ⟨?_, hK _ ?_⟩; · (go_simp)))
      clear hK K
      first
        | (refine flo2_read _ rfl (fun _ => True) trivial (fun _ _ _ _ => trivial) (fun K hK => ?_); go_simp; first | (refine hK _ ?_) | (refine ⟨fun W _ => ?_, hK _ ?_⟩; · (go_simp)) | (refine ⟨fun W => ?_, hK _ ?_⟩; · (go_simp)))
        | (refine flo2_read _ rfl (fun W => W = _) rfl (by simp) (fun K hK => ?_); go_simp; first | (refine hK _ ?_) | (refine ⟨fun W hS => ?_, hK _ ?_⟩; · (subst hS; go_simp)) | (refine ⟨?_, hK _ ?_⟩; · (go_simp)))
      clear hK K
      first
        | (refine flo2_read _ rfl (fun _ => True) trivial (fun _ _ _ _ => trivial) (fun K hK => ?_); go_simp; first | (refine hK _ ?_) | (refine ⟨fun W _ => ?_, hK _ ?_⟩; · (go_simp)) | (refine ⟨fun W => ?_, hK _ ?_⟩; · (go_simp)))
        | (refine flo2_read _ rfl (fun W => W = _) rfl (by simp) (fun K hK => ?_); go_simp; first | (refine hK _ ?_) | (refine ⟨fun W hS => ?_, hK _ ?_⟩; · (subst hS; go_simp)) | (refine ⟨?_, hK _ ?_⟩; · (go_simp)))
      clear hK K
      refine flo2_read _ rfl (fun W => Blk2 W mb #[.pointer (some ⟨d, 0, none⟩), lv] 52 w.heap.size #[.int .i64 p, .int .i64 g, .int .i64 hh, .int .i64 rr] 47) (VV) (fun _ _ _ h => h) (fun K hK => ?_)
      go_simp
      first | (refine hK _ ?_) | (refine ⟨fun W hS => ?_, hK _ ?_⟩; · (have x4 : W.cell? ⟨mb, 0, none⟩ = some _ := hS.a.cell 0; try go_simp))
      clear hK K
      refine flo2_read _ rfl (fun W => Blk2 W mb #[.pointer (some ⟨d, 0, none⟩), lv] 52 w.heap.size #[.int .i64 p, .int .i64 g, .int .i64 hh, .int .i64 rr] 47) (VV) (fun _ _ _ h => h) (fun K hK => ?_)
      go_simp
      first | (refine hK _ ?_) | (refine ⟨fun W hS => ?_, hK _ ?_⟩; · (have y0 : W.cell? ⟨w.heap.size, 0, none⟩ = some _ := hS.c.cell 0; have y1 : W.cell? ⟨w.heap.size, 1, none⟩ = some _ := hS.c.cell 1; have y2 : W.cell? ⟨w.heap.size, 2, none⟩ = some _ := hS.c.cell 2; have y3 : W.cell? ⟨w.heap.size, 3, none⟩ = some _ := hS.c.cell 3; try go_simp))
      clear hK K
      refine flo2_alone _ rfl ?_
      go_wp2_with fail
      go_at_call 36
      refine Calls.mono (hByh.out _ (by trivial)) ?_
      rintro e w6 ⟨v, rfl, o5, t5, f5⟩
      go_wp2_with fail
      refine ⟨VV.turns t5, _, fun _ _ h => h, ?_⟩
      replace H := H.newSlice t5 o5 f5
      have hlr : (recB ⟨p, g, hh, rr⟩).length = 32 := recB_len _
      clear t5 f5 VV c0 d0 d1 d2 d3 hByh
      have hlf := hlh.out
      by_cases hfull : (safe.length : Int) + loose.length + 32 > room
      · have hW := rwrite_full w6 d sv lw v safe loose (recB ⟨p, g, hh, rr⟩) room (H.at_ 4 rfl) o5.reads (by omega) (by omega) (by rw [hlr]; exact decide_eq_true hfull)
        have hWh : Hid _ := hW
        have hfh : Hid ((safe.length : Int) + loose.length + 32 > room) := hfull
        clear hW hfull o5 hlr
        refine flo2_alone _ rfl ?_
        go_wp2_with fail
        go_at_call 35
        refine Calls.mono (hWh.out) ?_
        rintro e w7 ⟨rfl, t6⟩
        go_wp2_with fail
        refine ⟨⟨(H.turns t6).blk 3 rfl, (H.turns t6).blk 1 rfl⟩, _, fun _ _ h => h, ?_⟩
        replace H := H.turns t6
        first
          | (refine flo2_read _ rfl (fun _ => True) trivial (fun _ _ _ _ => trivial) (fun K hK => ?_); go_simp; first | (refine hK _ ?_) | (refine ⟨fun W _ => ?_, hK _ ?_⟩; · (go_simp)) | (refine ⟨fun W => ?_, hK _ ?_⟩; · (go_simp)))
          | (refine flo2_read _ rfl (fun W => W = _) rfl (by simp) (fun K hK => ?_); go_simp; first | (refine hK _ ?_) | (refine ⟨fun W hS => ?_, hK _ ?_⟩; · (subst hS; go_simp)) | (refine ⟨?_, hK _ ?_⟩; · (go_simp)))
        clear hK K
        refine flo2_end ?_
        have hX := hPOh.out 3 w7 ⟨by rw [← hrh.out]; unfold putR4; rw [if_neg (by rw [hokh.out]; simp), if_neg (by rw [hrish.out]; simp), if_pos (by have := hfh.out; rw [List.length_append]; omega)], by decide⟩ (m_shut (H.lose [0, 1]))
        clear H
        go_wp2_with fail
        exact hX
      · have hW := rwrite_ok w6 d sv lw v safe loose (recB ⟨p, g, hh, rr⟩) room (H.at_ 4 rfl) o5.reads (by omega) (by omega) (by rw [hlr]; exact decide_eq_false hfull)
        have hWh : Hid _ := hW
        have hfh : Hid (¬ (safe.length : Int) + loose.length + 32 > room) := hfull
        clear hW hfull o5 hlr
        refine flo2_alone _ rfl ?_
        go_wp2_with fail
        go_at_call 35
        refine Calls.mono (hWh.out) ?_
        rintro e w7 ⟨rfl, lw6, d6, t6, m6⟩
        go_wp2_with fail
        refine ⟨⟨(Vs.Sep.rdisk H 4 rfl d6 (t6.mono (by simp [rfoot])) m6).blk 3 rfl, (Vs.Sep.rdisk H 4 rfl d6 (t6.mono (by simp [rfoot])) m6).blk 1 rfl⟩, _, fun _ _ h => h, ?_⟩
        replace H := Vs.Sep.rdisk H 4 rfl d6 (t6.mono (by simp [rfoot])) m6
        first
          | (refine flo2_read _ rfl (fun _ => True) trivial (fun _ _ _ _ => trivial) (fun K hK => ?_); go_simp; first | (refine hK _ ?_) | (refine ⟨fun W _ => ?_, hK _ ?_⟩; · (go_simp)) | (refine ⟨fun W => ?_, hK _ ?_⟩; · (go_simp)))
          | (refine flo2_read _ rfl (fun W => W = _) rfl (by simp) (fun K hK => ?_); go_simp; first | (refine hK _ ?_) | (refine ⟨fun W hS => ?_, hK _ ?_⟩; · (subst hS; go_simp)) | (refine ⟨?_, hK _ ?_⟩; · (go_simp)))
        clear hK K
        refine flo2_end ?_
        clear d6 t6 m6 hWh
        replace H := H.drew
        have hap : (L ++ [(⟨p, g, hh, rr⟩ : V4)]).map V4.cells = L.map V4.cells ++ [(⟨p, g, hh, rr⟩ : V4)].map V4.cells := by rw [List.map_append]
        have haph : Hid _ := hap
        obtain ⟨A0, c0', rfl, _⟩ := (H.own 2 rfl).form
        rw [List.length_map] at H
        clear hap
        go_wp2_with fail
        go_wp2_with fail
        refine wp_region_flo2 [(0, true, [6, 7]), (1, true, [6, 7]), (2, true, [6, 7]), (3, true, [6, 7]), (4, true, [6]), (5, true, [7]), (6, false, []), (7, false, []), (8, true, [10]), (9, true, []), (10, false, [])] (fun j W => j ≠ 10 → Blk2 W mb #[.pointer (some ⟨d, 0, none⟩), .slice A0 L.length c0'] 52 w.heap.size #[.int .i64 p, .int .i64 g, .int .i64 hh, .int .i64 rr] 47) (by kernel_rfl) rfl (by kernel_rfl) (by intro c d v a w h; cases d <;> first | (simpa [Exit.then, Exit.inBlock, Act.put] using h) | exact h) ?_
        generalize w7.drew = w8 at *
        have VV : Blk2 w8 mb #[.pointer (some ⟨d, 0, none⟩), .slice A0 L.length c0'] 52 w.heap.size #[.int .i64 p, .int .i64 g, .int .i64 hh, .int .i64 rr] 47 := ⟨H.blk 3 rfl, H.blk 1 rfl⟩
        have c1 : World.cell? (w8) ⟨mb, 1, none⟩ = some _ := (VV.a).cell 1
        have d0 : World.cell? (w8) ⟨w.heap.size, 0, none⟩ = some _ := (VV.c).cell 0
        have d1 : World.cell? (w8) ⟨w.heap.size, 1, none⟩ = some _ := (VV.c).cell 1
        have d2 : World.cell? (w8) ⟨w.heap.size, 2, none⟩ = some _ := (VV.c).cell 2
        have d3 : World.cell? (w8) ⟨w.heap.size, 3, none⟩ = some _ := (VV.c).cell 3
        first
          | (refine flo2_read _ rfl (fun _ => True) trivial (fun _ _ _ _ => trivial) (fun K hK => ?_); go_simp; first | (refine hK _ ?_) | (refine ⟨fun W _ => ?_, hK _ ?_⟩; · (go_simp)) | (refine ⟨fun W => ?_, hK _ ?_⟩; · (go_simp)))
          | (refine flo2_read _ rfl (fun W => W = _) rfl (by simp) (fun K hK => ?_); go_simp; first | (refine hK _ ?_) | (refine ⟨fun W hS => ?_, hK _ ?_⟩; · (subst hS; go_simp)) | (refine ⟨?_, hK _ ?_⟩; · (go_simp)))
        clear hK K
        first
          | (refine flo2_read _ rfl (fun _ => True) trivial (fun _ _ _ _ => trivial) (fun K hK => ?_); go_simp; first | (refine hK _ ?_) | (refine ⟨fun W _ => ?_, hK _ ?_⟩; · (go_simp)) | (refine ⟨fun W => ?_, hK _ ?_⟩; · (go_simp)))
          | (refine flo2_read _ rfl (fun W => W = _) rfl (by simp) (fun K hK => ?_); go_simp; first | (refine hK _ ?_) | (refine ⟨fun W hS => ?_, hK _ ?_⟩; · (subst hS; go_simp)) | (refine ⟨?_, hK _ ?_⟩; · (go_simp)))
        clear hK K
        first
          | (refine flo2_read _ rfl (fun _ => True) trivial (fun _ _ _ _ => trivial) (fun K hK => ?_); go_simp; first | (refine hK _ ?_) | (refine ⟨fun W _ => ?_, hK _ ?_⟩; · (go_simp)) | (refine ⟨fun W => ?_, hK _ ?_⟩; · (go_simp)))
          | (refine flo2_read _ rfl (fun W => W = _) rfl (by simp) (fun K hK => ?_); go_simp; first | (refine hK _ ?_) | (refine ⟨fun W hS => ?_, hK _ ?_⟩; · (subst hS; go_simp)) | (refine ⟨?_, hK _ ?_⟩; · (go_simp)))
        clear hK K
        first
          | (refine flo2_read _ rfl (fun _ => True) trivial (fun _ _ _ _ => trivial) (fun K hK => ?_); go_simp; first | (refine hK _ ?_) | (refine ⟨fun W _ => ?_, hK _ ?_⟩; · (go_simp)) | (refine ⟨fun W => ?_, hK _ ?_⟩; · (go_simp)))
          | (refine flo2_read _ rfl (fun W => W = _) rfl (by simp) (fun K hK => ?_); go_simp; first | (refine hK _ ?_) | (refine ⟨fun W hS => ?_, hK _ ?_⟩; · (subst hS; go_simp)) | (refine ⟨?_, hK _ ?_⟩; · (go_simp)))
        clear hK K
        refine flo2_read _ rfl (fun W => Blk2 W mb #[.pointer (some ⟨d, 0, none⟩), .slice A0 L.length c0'] 52 w.heap.size #[.int .i64 p, .int .i64 g, .int .i64 hh, .int .i64 rr] 47) (VV) (by simp) (fun K hK => ?_)
        go_simp
        first | (refine hK _ ?_) | (refine ⟨fun W hS => ?_, hK _ ?_⟩; · (have x4 : W.cell? ⟨mb, 1, none⟩ = some _ := hS.a.cell 1; try go_simp))
        clear hK K
        refine flo2_read _ rfl (fun W => Blk2 W mb #[.pointer (some ⟨d, 0, none⟩), .slice A0 L.length c0'] 52 w.heap.size #[.int .i64 p, .int .i64 g, .int .i64 hh, .int .i64 rr] 47) (VV) (by simp) (fun K hK => ?_)
        go_simp
        first | (refine hK _ ?_) | (refine ⟨fun W hS => ?_, hK _ ?_⟩; · (have y0 : W.cell? ⟨w.heap.size, 0, none⟩ = some _ := hS.c.cell 0; have y1 : W.cell? ⟨w.heap.size, 1, none⟩ = some _ := hS.c.cell 1; have y2 : W.cell? ⟨w.heap.size, 2, none⟩ = some _ := hS.c.cell 2; have y3 : W.cell? ⟨w.heap.size, 3, none⟩ = some _ := hS.c.cell 3; try go_simp))
        clear hK K
        refine flo2_alone _ rfl ?_
        go_wp2_with fail
        replace H := H.alloc #[.int .i64 p, .int .i64 g, .int .i64 hh, .int .i64 rr] 47
        refine ⟨fun _ => ⟨H.blk 4 rfl, H.blk 2 rfl⟩, _, fun _ _ h => h, ?_⟩
        clear VV c1 d0 d1 d2 d3
        refine flo2_alone _ rfl ?_
        have hnn := hnh.out
        refine H.append 3 rfl (oneV (s := ⟨p, g, hh, rr⟩) (H.blk 0 rfl)) (L.length + 1) (by rw [List.length_map]; simp) ((L ++ [(⟨p, g, hh, rr⟩ : V4)]).map V4.cells) haph.out rfl _ _ _ rfl (.agg #[.int .i64 0, .int .i64 0, .int .i64 0, .int .i64 0]) 32 Try.underlying50 infoV rfl (by decide) rfl rfl (v4_one _) (by omega) (by omega) ?_
        clear H
        intro A5 c5 we H t5 _
        go_wp2_with fail
        refine ⟨fun _ => ⟨H.blk 4 rfl, H.blk 2 rfl⟩, _, fun _ _ h => h, ?_⟩
        first
          | (refine flo2_read _ rfl (fun _ => True) trivial (fun _ _ _ _ => trivial) (fun K hK => ?_); go_simp; first | (refine hK _ ?_) | (refine ⟨fun W _ => ?_, hK _ ?_⟩; · (go_simp)) | (refine ⟨fun W => ?_, hK _ ?_⟩; · (go_simp)))
          | (refine flo2_read _ rfl (fun W => W = _) rfl (by simp) (fun K hK => ?_); go_simp; first | (refine hK _ ?_) | (refine ⟨fun W hS => ?_, hK _ ?_⟩; · (subst hS; go_simp)) | (refine ⟨?_, hK _ ?_⟩; · (go_simp)))
        clear hK K
        first
          | (refine flo2_read _ rfl (fun _ => True) trivial (fun _ _ _ _ => trivial) (fun K hK => ?_); go_simp; first | (refine hK _ ?_) | (refine ⟨fun W _ => ?_, hK _ ?_⟩; · (go_simp)) | (refine ⟨fun W => ?_, hK _ ?_⟩; · (go_simp)))
          | (refine flo2_read _ rfl (fun W => W = _) rfl (by simp) (fun K hK => ?_); go_simp; first | (refine hK _ ?_) | (refine ⟨fun W hS => ?_, hK _ ?_⟩; · (subst hS; go_simp)) | (refine ⟨?_, hK _ ?_⟩; · (go_simp)))
        clear hK K
        have c1 : World.cell? (we) ⟨mb, 1, none⟩ = some _ := (H.blk 4 rfl).cell 1
        have cf1 : World.frozen? (we) ⟨mb, 1, none⟩ = false := (H.blk 4 rfl).frozen 1
        refine flo2_alone _ rfl ?_
        go_wp2_with fail
        replace H := H.set 4 rfl 1 (.slice A5 (L.length + 1) c5)
        refine ⟨by simp, _, fun _ _ h => h, ?_⟩
        refine flo2_end ?_
        have hX := hPZh.out _ (by rw [← hrh.out]; unfold putR4; rw [if_neg (by rw [hokh.out]; simp), if_neg (by rw [hrish.out]; simp), if_neg (by have := hfh.out; rw [List.length_append]; omega)]) ⟨_, lw6, m_shut (H.lose [0, 1, 2])⟩
        clear H
        go_wp2_with fail
        exact hX
end Go.Proofs.Ytknmjmhiejmjdaa.Vj
