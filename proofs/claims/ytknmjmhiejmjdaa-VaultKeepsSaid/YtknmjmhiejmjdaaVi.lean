/- The walks of Put, Sync of vault and of the document's. -/
import Derived.Test.YtknmjmhiejmjdaaVg
set_option linter.unusedVariables false
set_option linter.unusedSimpArgs false
set_option maxRecDepth 100000
namespace Go.Proofs.Ytknmjmhiejmjdaa.Vi
open Go.RowKit Go.MapKept Go.ChangeShapes Go.WideShapes Hm Hs Hr Hb Hf Hg Hv Ho Hx Dk Dr Kw Kn Kr Ks Va Vb Vc Vd Ve Vf Vs Vg
/-- what Put tells -/
def putR4 (st s : V4) (len room : Int) : Int := if s.ok = false then 1 else if st.rises s = false then 7 else if len + 32 > room then 3 else 0
abbrev sAgg (s : V4) : Value := .agg #[.int .i64 s.p, .int .i64 s.g, .int .i64 s.h, .int .i64 s.r]
abbrev sObj (s : V4) (t : TypeId) : Obj := .cells #[.int .i64 s.p, .int .i64 s.g, .int .i64 s.h, .int .i64 s.r] t
/-- a vault and its disk -/
abbrev vd (vb d : Nat) (st : V4) (n : Int) (fv : Value) (file : List Int) (safe room : Int) : List Th := [tV vb d st n, tDk d fv file safe room]
def PutOut (w : World) (vb d : Nat) (st s : V4) (n : Int) (fv : Value) (file : List Int) (safe room r : Int) (e : Ending) (w' : World) : Prop :=
  e = .returned (.int .i64 r) ∧ ((r ≠ 0 ∧ Sep (fps (vd vb d st n fv file safe room)) w (vd vb d st n fv file safe room) w') ∨ (r = 0 ∧ ∃ fv', Sep (fps (vd vb d st n fv file safe room)) w (vd vb d s (n + 1) fv' (file ++ recB s) safe room) w'))
theorem put_nil (w : World) (s : V4) : Calls Try.prog 11 #[.pointer none, sAgg s] w fun e w' => e = .returned (.int .i64 1) ∧ Turns [] w w' := by
  have T0 := (Turns.refl [] w).alloc (sObj s 25)
  go_enter Try.func11, Try.ntmps11
  go_wp2_with fail
  go_ret
  exact ⟨rfl, T0⟩
set_option maxHeartbeats 4000000 in
theorem put_is (w : World) (vb d : Nat) (st s : V4) (n : Int) (fv : Value) (file : List Int) (safe room r : Int) (h : Got (vd vb d st n fv file safe room) w) (hl : file.length ≤ 1000000) (hn : 0 ≤ n ∧ n ≤ 1000000) (hr : putR4 st s file.length room = r) :
    Calls Try.prog 11 #[.pointer (some ⟨vb, 0, none⟩), sAgg s] w (PutOut w vb d st s n fv file safe room r) := by
  have H := h.sep
  generalize hFF : fps (vd vb d st n fv file safe room) = FF at H
  have hPO : ∀ (r' : Int) w', (r = r' ∧ r' ≠ 0) → Sep FF w (vd vb d st n fv file safe room) w' → PutOut w vb d st s n fv file safe room r (.returned (.int .i64 r')) w' := fun r' w' h1 h2 => ⟨by rw [h1.1], .inl ⟨by rw [h1.1]; exact h1.2, by rw [hFF]; exact h2⟩⟩
  have hPZ : ∀ w', r = 0 → (∃ fv', Sep FF w (vd vb d s (n + 1) fv' (file ++ recB s) safe room) w') → PutOut w vb d st s n fv file safe room r (.returned (.int .i64 0)) w' := fun w' h1 h2 => ⟨by rw [h1], .inr ⟨h1, by rw [hFF]; exact h2⟩⟩
  generalize PutOut w vb d st s n fv file safe room r = X at *
  have hPOh : Hid _ := hPO
  have hPZh : Hid _ := hPZ
  have hrh : Hid (putR4 st s file.length room = r) := hr
  have hlh : Hid (file.length ≤ 1000000) := hl
  clear hPO hPZ hr hFF h hl
  replace H := H.alloc #[.int .i64 s.p, .int .i64 s.g, .int .i64 s.h, .int .i64 s.r] 25
  have hRt := right_is (w.alloc (sObj s 25)) s
  have hRi := fun w => rises_is w st s
  have hBy := fun w => bytes_is w (.pointer (some ⟨vb, 0, none⟩)) s
  obtain ⟨ok, hok⟩ : ∃ ok, s.ok = ok := ⟨_, rfl⟩
  obtain ⟨ris, hris⟩ : ∃ ris, st.rises s = ris := ⟨_, rfl⟩
  rw [hok] at hRt hBy
  rw [hris] at hRi
  have hokh : Hid (s.ok = ok) := hok
  have hrish : Hid (st.rises s = ris) := hris
  have hRth : Hid _ := hRt
  have hRih : Hid _ := hRi
  have hByh : Hid _ := hBy
  clear hRt hRi hBy hok hris
  obtain ⟨p, g, hh, rr⟩ := s
  go_enter Try.func11, Try.ntmps11
  go_wp2_with fail
  go_at_call 33
  refine Calls.mono (hRth.out) ?_
  rintro e w1 ⟨rfl, t1⟩
  replace H := H.turns t1
  clear t1 hRth
  cases ok with
  | false =>
    have hX := hPOh.out 1 w1 ⟨by rw [← hrh.out]; unfold putR4; rw [if_pos hokh.out], by decide⟩ (H.lose [0])
    clear H
    go_wp2_with fail
    exact hX
  | true =>
    replace H := H.drew
    have V : Blk w1.drew vb _ _ := H.blk 1 rfl
    go_wp2_with fail
    go_wp2_with fail
    refine wp_region_flo2 [(0, true, [6]), (1, true, [6]), (2, true, [6]), (3, true, [6]), (4, true, []), (5, true, []), (6, false, []), (7, true, []), (8, true, [])] (fun j W => True) (by kernel_rfl) rfl (by kernel_rfl) (by intro c d v a w h; cases d <;> first | (simpa [Exit.then, Exit.inBlock, Act.put] using h) | exact h) ?_
    generalize w1.drew = w2 at *
    have c0 : w2.cell? ⟨vb, 0, none⟩ = some _ := V.cell 0
    have c1 : w2.cell? ⟨vb, 1, none⟩ = some _ := V.cell 1
    have c2 : w2.cell? ⟨vb, 2, none⟩ = some _ := V.cell 2
    have c3 : w2.cell? ⟨vb, 3, none⟩ = some _ := V.cell 3
    have d0 : w2.cell? ⟨w.heap.size, 0, none⟩ = some _ := (H.blk 0 rfl).cell 0
    have d1 : w2.cell? ⟨w.heap.size, 1, none⟩ = some _ := (H.blk 0 rfl).cell 1
    have d2 : w2.cell? ⟨w.heap.size, 2, none⟩ = some _ := (H.blk 0 rfl).cell 2
    have d3 : w2.cell? ⟨w.heap.size, 3, none⟩ = some _ := (H.blk 0 rfl).cell 3
    first
      | (refine flo2_read _ rfl (fun _ => True) trivial (fun _ _ _ _ => trivial) (fun K hK => ?_); go_simp; first | (refine hK _ ?_) | (refine ⟨fun W _ => ?_, hK _ ?_⟩; · (go_simp)) | (refine ⟨fun W => ?_, hK _ ?_⟩; · (go_simp)))
      | (refine flo2_read _ rfl (fun W => W = _) rfl (by simp) (fun K hK => ?_); go_simp; first | (refine hK _ ?_) | (refine ⟨fun W hS => ?_, hK _ ?_⟩; · (subst hS; go_simp)) | (refine ⟨?_, hK _ ?_⟩; · (go_simp)))
    clear hK K
    first
      | (refine flo2_read _ rfl (fun _ => True) trivial (fun _ _ _ _ => trivial) (fun K hK => ?_); go_simp; first | (refine hK _ ?_) | (refine ⟨fun W _ => ?_, hK _ ?_⟩; · (go_simp)) | (refine ⟨fun W => ?_, hK _ ?_⟩; · (go_simp)))
      | (refine flo2_read _ rfl (fun W => W = _) rfl (by simp) (fun K hK => ?_); go_simp; first | (refine hK _ ?_) | (refine ⟨fun W hS => ?_, hK _ ?_⟩; · (subst hS; go_simp)) | (refine ⟨?_, hK _ ?_⟩; · (go_simp)))
    clear hK K
    first
      | (refine flo2_read _ rfl (fun _ => True) trivial (fun _ _ _ _ => trivial) (fun K hK => ?_); go_simp; first | (refine hK _ ?_) | (refine ⟨fun W _ => ?_, hK _ ?_⟩; · (go_simp)) | (refine ⟨fun W => ?_, hK _ ?_⟩; · (go_simp)))
      | (refine flo2_read _ rfl (fun W => W = _) rfl (by simp) (fun K hK => ?_); go_simp; first | (refine hK _ ?_) | (refine ⟨fun W hS => ?_, hK _ ?_⟩; · (subst hS; go_simp)) | (refine ⟨?_, hK _ ?_⟩; · (go_simp)))
    clear hK K
    first
      | (refine flo2_read _ rfl (fun _ => True) trivial (fun _ _ _ _ => trivial) (fun K hK => ?_); go_simp; first | (refine hK _ ?_) | (refine ⟨fun W _ => ?_, hK _ ?_⟩; · (go_simp)) | (refine ⟨fun W => ?_, hK _ ?_⟩; · (go_simp)))
      | (refine flo2_read _ rfl (fun W => W = _) rfl (by simp) (fun K hK => ?_); go_simp; first | (refine hK _ ?_) | (refine ⟨fun W hS => ?_, hK _ ?_⟩; · (subst hS; go_simp)) | (refine ⟨?_, hK _ ?_⟩; · (go_simp)))
    clear hK K
    first
      | (refine flo2_read _ rfl (fun _ => True) trivial (fun _ _ _ _ => trivial) (fun K hK => ?_); go_simp; first | (refine hK _ ?_) | (refine ⟨fun W _ => ?_, hK _ ?_⟩; · (go_simp)) | (refine ⟨fun W => ?_, hK _ ?_⟩; · (go_simp)))
      | (refine flo2_read _ rfl (fun W => W = _) rfl (by simp) (fun K hK => ?_); go_simp; first | (refine hK _ ?_) | (refine ⟨fun W hS => ?_, hK _ ?_⟩; · (subst hS; go_simp)) | (refine ⟨?_, hK _ ?_⟩; · (go_simp)))
    clear hK K
    first
      | (refine flo2_read _ rfl (fun _ => True) trivial (fun _ _ _ _ => trivial) (fun K hK => ?_); go_simp; first | (refine hK _ ?_) | (refine ⟨fun W _ => ?_, hK _ ?_⟩; · (go_simp)) | (refine ⟨fun W => ?_, hK _ ?_⟩; · (go_simp)))
      | (refine flo2_read _ rfl (fun W => W = _) rfl (by simp) (fun K hK => ?_); go_simp; first | (refine hK _ ?_) | (refine ⟨fun W hS => ?_, hK _ ?_⟩; · (subst hS; go_simp)) | (refine ⟨?_, hK _ ?_⟩; · (go_simp)))
    clear hK K
    refine flo2_alone _ rfl ?_
    go_wp2_with fail
    go_at_call 19
    refine Calls.mono (hRih.out _) ?_
    rintro e w3 ⟨rfl, t3⟩
    go_wp2_with fail
    refine ⟨trivial, _, fun _ _ h => h, ?_⟩
    replace H := H.turns t3
    clear t3 hRih V c0 c1 c2 c3 d0 d1 d2 d3
    first
      | (refine flo2_read _ rfl (fun _ => True) trivial (fun _ _ _ _ => trivial) (fun K hK => ?_); go_simp; first | (refine hK _ ?_) | (refine ⟨fun W _ => ?_, hK _ ?_⟩; · (go_simp)) | (refine ⟨fun W => ?_, hK _ ?_⟩; · (go_simp)))
      | (refine flo2_read _ rfl (fun W => W = _) rfl (by simp) (fun K hK => ?_); go_simp; first | (refine hK _ ?_) | (refine ⟨fun W hS => ?_, hK _ ?_⟩; · (subst hS; go_simp)) | (refine ⟨?_, hK _ ?_⟩; · (go_simp)))
    clear hK K
    first
      | (refine flo2_read _ rfl (fun _ => True) trivial (fun _ _ _ _ => trivial) (fun K hK => ?_); go_simp; first | (refine hK _ ?_) | (refine ⟨fun W _ => ?_, hK _ ?_⟩; · (go_simp)) | (refine ⟨fun W => ?_, hK _ ?_⟩; · (go_simp)))
      | (refine flo2_read _ rfl (fun W => W = _) rfl (by simp) (fun K hK => ?_); go_simp; first | (refine hK _ ?_) | (refine ⟨fun W hS => ?_, hK _ ?_⟩; · (subst hS; go_simp)) | (refine ⟨?_, hK _ ?_⟩; · (go_simp)))
    clear hK K
    refine flo2_end ?_
    cases ris with
    | false =>
      have hX := hPOh.out 7 w3 ⟨by rw [← hrh.out]; unfold putR4; rw [if_neg (by rw [hokh.out]; simp), if_pos hrish.out], by decide⟩ (H.lose [0])
      clear H
      go_wp2_with fail
      exact hX
    | true =>
      replace H := H.drew
      go_wp2_with fail
      go_wp2_with fail
      refine wp_region_flo2 [(0, true, [6, 7]), (1, true, [6, 7]), (2, true, [6, 7]), (3, true, [6]), (4, true, [7]), (5, true, [7]), (6, false, []), (7, false, []), (8, true, [])] (fun j W => Blk2 W vb #[.int .i64 st.p, .int .i64 st.g, .int .i64 st.h, .int .i64 st.r, .pointer (some ⟨d, 0, none⟩), .int .i64 n] 69 w.heap.size #[.int .i64 p, .int .i64 g, .int .i64 hh, .int .i64 rr] 25) (by kernel_rfl) rfl (by kernel_rfl) (by intro c d v a w h; cases d <;> first | (simpa [Exit.then, Exit.inBlock, Act.put] using h) | exact h) ?_
      generalize w3.drew = w4 at *
      have V : Blk w4 vb _ _ := H.blk 1 rfl
      have c4 : World.cell? (w4) ⟨vb, 4, none⟩ = some _ := (V).cell 4
      have d0 : World.cell? (w4) ⟨w.heap.size, 0, none⟩ = some _ := (H.blk 0 rfl).cell 0
      have d1 : World.cell? (w4) ⟨w.heap.size, 1, none⟩ = some _ := (H.blk 0 rfl).cell 1
      have d2 : World.cell? (w4) ⟨w.heap.size, 2, none⟩ = some _ := (H.blk 0 rfl).cell 2
      have d3 : World.cell? (w4) ⟨w.heap.size, 3, none⟩ = some _ := (H.blk 0 rfl).cell 3
      have VV : Blk2 w4 vb #[.int .i64 st.p, .int .i64 st.g, .int .i64 st.h, .int .i64 st.r, .pointer (some ⟨d, 0, none⟩), .int .i64 n] 69 w.heap.size #[.int .i64 p, .int .i64 g, .int .i64 hh, .int .i64 rr] 25 := ⟨V, H.blk 0 rfl⟩
      first
        | (refine flo2_read _ rfl (fun _ => True) trivial (fun _ _ _ _ => trivial) (fun K hK => ?_); go_simp; first | (refine hK _ ?_) | (refine ⟨fun W _ => ?_, hK _ ?_⟩; · (go_simp)) | (refine ⟨fun W => ?_, hK _ ?_⟩; · (go_simp)))
        | (refine flo2_read _ rfl (fun W => W = _) rfl (by simp) (fun K hK => ?_); go_simp; first | (refine hK _ ?_) | (refine ⟨fun W hS => ?_, hK _ ?_⟩; · (subst hS; go_simp)) | (refine ⟨?_, hK _ ?_⟩; · (go_simp)))
      clear hK K
      first
        | (refine flo2_read _ rfl (fun _ => True) trivial (fun _ _ _ _ => trivial) (fun K hK => ?_); go_simp; first | (refine hK _ ?_) | (refine ⟨fun W _ => ?_, hK _ ?_⟩; · (go_simp)) | (refine ⟨fun W => ?_, hK _ ?_⟩; · (go_simp)))
        | (refine flo2_read _ rfl (fun W => W = _) rfl (by simp) (fun K hK => ?_); go_simp; first | (refine hK _ ?_) | (refine ⟨fun W hS => ?_, hK _ ?_⟩; · (subst hS; go_simp)) | (refine ⟨?_, hK _ ?_⟩; · (go_simp)))
      clear hK K
      first
        | (refine flo2_read _ rfl (fun _ => True) trivial (fun _ _ _ _ => trivial) (fun K hK => ?_); go_simp; first | (refine hK _ ?_) | (refine ⟨fun W _ => ?_, hK _ ?_⟩; · (go_simp)) | (refine ⟨fun W => ?_, hK _ ?_⟩; · (go_simp)))
        | (refine flo2_read _ rfl (fun W => W = _) rfl (by simp) (fun K hK => ?_); go_simp; first | (refine hK _ ?_) | (refine ⟨fun W hS => ?_, hK _ ?_⟩; · (subst hS; go_simp)) | (refine ⟨?_, hK _ ?_⟩; · (go_simp)))
      clear hK K
      refine flo2_read _ rfl (fun W => Blk2 W vb #[.int .i64 st.p, .int .i64 st.g, .int .i64 st.h, .int .i64 st.r, .pointer (some ⟨d, 0, none⟩), .int .i64 n] 69 w.heap.size #[.int .i64 p, .int .i64 g, .int .i64 hh, .int .i64 rr] 25) (VV) (fun _ _ _ h => h) (fun K hK => ?_)
      go_simp
      first | (refine hK _ ?_) | (refine ⟨fun W hS => ?_, hK _ ?_⟩; · (have x4 : W.cell? ⟨vb, 4, none⟩ = some _ := hS.a.cell 4; try go_simp))
      clear hK K
      first
        | (refine flo2_read _ rfl (fun _ => True) trivial (fun _ _ _ _ => trivial) (fun K hK => ?_); go_simp; first | (refine hK _ ?_) | (refine ⟨fun W _ => ?_, hK _ ?_⟩; · (go_simp)) | (refine ⟨fun W => ?_, hK _ ?_⟩; · (go_simp)))
        | (refine flo2_read _ rfl (fun W => W = _) rfl (by simp) (fun K hK => ?_); go_simp; first | (refine hK _ ?_) | (refine ⟨fun W hS => ?_, hK _ ?_⟩; · (subst hS; go_simp)) | (refine ⟨?_, hK _ ?_⟩; · (go_simp)))
      clear hK K
      refine flo2_read _ rfl (fun W => Blk2 W vb #[.int .i64 st.p, .int .i64 st.g, .int .i64 st.h, .int .i64 st.r, .pointer (some ⟨d, 0, none⟩), .int .i64 n] 69 w.heap.size #[.int .i64 p, .int .i64 g, .int .i64 hh, .int .i64 rr] 25) (VV) (fun _ _ _ h => h) (fun K hK => ?_)
      go_simp
      first | (refine hK _ ?_) | (refine ⟨fun W hS => ?_, hK _ ?_⟩; · (have y0 : W.cell? ⟨w.heap.size, 0, none⟩ = some _ := hS.c.cell 0; have y1 : W.cell? ⟨w.heap.size, 1, none⟩ = some _ := hS.c.cell 1; have y2 : W.cell? ⟨w.heap.size, 2, none⟩ = some _ := hS.c.cell 2; have y3 : W.cell? ⟨w.heap.size, 3, none⟩ = some _ := hS.c.cell 3; try go_simp))
      clear hK K
      refine flo2_alone _ rfl ?_
      go_wp2_with fail
      go_at_call 34
      refine Calls.mono (hByh.out _ (by trivial)) ?_
      rintro e w5 ⟨v, rfl, o5, t5, f5⟩
      go_wp2_with fail
      refine ⟨VV.turns t5, _, fun _ _ h => h, ?_⟩
      replace H := H.newSlice t5 o5 f5
      have hlr : (recB ⟨p, g, hh, rr⟩).length = 32 := recB_len _
      clear t5 f5 V VV c4 d0 d1 d2 d3 hByh
      have hlf := hlh.out
      by_cases hfull : (file.length : Int) + 32 > room
      · have hW := write_full w5 d fv v file (recB ⟨p, g, hh, rr⟩) safe room (H.at_ 3 rfl) o5.reads (by omega) (by omega) (by rw [hlr]; exact decide_eq_true hfull)
        have hWh : Hid _ := hW
        have hfh : Hid ((file.length : Int) + 32 > room) := hfull
        clear hW hfull o5 hlr
        refine flo2_alone _ rfl ?_
        go_wp2_with fail
        go_at_call 23
        refine Calls.mono (hWh.out) ?_
        rintro e w6 ⟨rfl, t6⟩
        go_wp2_with fail
        refine ⟨⟨(H.turns t6).blk 2 rfl, (H.turns t6).blk 1 rfl⟩, _, fun _ _ h => h, ?_⟩
        replace H := H.turns t6
        first
          | (refine flo2_read _ rfl (fun _ => True) trivial (fun _ _ _ _ => trivial) (fun K hK => ?_); go_simp; first | (refine hK _ ?_) | (refine ⟨fun W _ => ?_, hK _ ?_⟩; · (go_simp)) | (refine ⟨fun W => ?_, hK _ ?_⟩; · (go_simp)))
          | (refine flo2_read _ rfl (fun W => W = _) rfl (by simp) (fun K hK => ?_); go_simp; first | (refine hK _ ?_) | (refine ⟨fun W hS => ?_, hK _ ?_⟩; · (subst hS; go_simp)) | (refine ⟨?_, hK _ ?_⟩; · (go_simp)))
        clear hK K
        refine flo2_end ?_
        have hX := hPOh.out 3 w6 ⟨by rw [← hrh.out]; unfold putR4; rw [if_neg (by rw [hokh.out]; simp), if_neg (by rw [hrish.out]; simp), if_pos hfh.out], by decide⟩ (H.lose [0, 1])
        clear H
        go_wp2_with fail
        exact hX
      · have hW := write_ok w5 d fv v file (recB ⟨p, g, hh, rr⟩) safe room (H.at_ 3 rfl) o5.reads (by omega) (by omega) (by rw [hlr]; exact decide_eq_false hfull)
        have hWh : Hid _ := hW
        have hfh : Hid (¬ (file.length : Int) + 32 > room) := hfull
        clear hW hfull o5 hlr
        refine flo2_alone _ rfl ?_
        go_wp2_with fail
        go_at_call 23
        refine Calls.mono (hWh.out) ?_
        rintro e w6 ⟨rfl, fv6, d6, t6, m6⟩
        go_wp2_with fail
        refine ⟨⟨(Vs.Sep.disk H 3 rfl d6 t6 m6).blk 2 rfl, (Vs.Sep.disk H 3 rfl d6 t6 m6).blk 1 rfl⟩, _, fun _ _ h => h, ?_⟩
        replace H := Vs.Sep.disk H 3 rfl d6 t6 m6
        first
          | (refine flo2_read _ rfl (fun _ => True) trivial (fun _ _ _ _ => trivial) (fun K hK => ?_); go_simp; first | (refine hK _ ?_) | (refine ⟨fun W _ => ?_, hK _ ?_⟩; · (go_simp)) | (refine ⟨fun W => ?_, hK _ ?_⟩; · (go_simp)))
          | (refine flo2_read _ rfl (fun W => W = _) rfl (by simp) (fun K hK => ?_); go_simp; first | (refine hK _ ?_) | (refine ⟨fun W hS => ?_, hK _ ?_⟩; · (subst hS; go_simp)) | (refine ⟨?_, hK _ ?_⟩; · (go_simp)))
        clear hK K
        refine flo2_end ?_
        have c0 : World.cell? (w6) ⟨vb, 0, none⟩ = some _ := (H.blk 2 rfl).cell 0
        have cf0 : World.frozen? (w6) ⟨vb, 0, none⟩ = false := (H.blk 2 rfl).frozen 0
        have c1 : World.cell? (w6) ⟨vb, 1, none⟩ = some _ := (H.blk 2 rfl).cell 1
        have cf1 : World.frozen? (w6) ⟨vb, 1, none⟩ = false := (H.blk 2 rfl).frozen 1
        have c2 : World.cell? (w6) ⟨vb, 2, none⟩ = some _ := (H.blk 2 rfl).cell 2
        have cf2 : World.frozen? (w6) ⟨vb, 2, none⟩ = false := (H.blk 2 rfl).frozen 2
        have c3 : World.cell? (w6) ⟨vb, 3, none⟩ = some _ := (H.blk 2 rfl).cell 3
        have cf3 : World.frozen? (w6) ⟨vb, 3, none⟩ = false := (H.blk 2 rfl).frozen 3
        have c5 : World.cell? (w6) ⟨vb, 5, none⟩ = some _ := (H.blk 2 rfl).cell 5
        have cf5 : World.frozen? (w6) ⟨vb, 5, none⟩ = false := (H.blk 2 rfl).frozen 5
        have d0 : World.cell? (w6) ⟨w.heap.size, 0, none⟩ = some _ := (H.blk 1 rfl).cell 0
        have d1 : World.cell? (w6) ⟨w.heap.size, 1, none⟩ = some _ := (H.blk 1 rfl).cell 1
        have d2 : World.cell? (w6) ⟨w.heap.size, 2, none⟩ = some _ := (H.blk 1 rfl).cell 2
        have d3 : World.cell? (w6) ⟨w.heap.size, 3, none⟩ = some _ := (H.blk 1 rfl).cell 3
        have hk1 : IntKind.i64.wrap (n + 1) = n + 1 := IntWalk.i64_in _ (by omega)
        replace H := ((((H.set 2 rfl 0 (.int .i64 p)).set 2 rfl 1 (.int .i64 g)).set 2 rfl 2 (.int .i64 hh)).set 2 rfl 3 (.int .i64 rr)).set 2 rfl 5 (.int .i64 (n + 1))
        have hX := hPZh.out _ (by rw [← hrh.out]; unfold putR4; rw [if_neg (by rw [hokh.out]; simp), if_neg (by rw [hrish.out]; simp), if_neg (by have := hfh.out; omega)]) ⟨fv6, H.lose [0, 1]⟩
        clear H
        go_wp2_with fail
        exact hX
end Go.Proofs.Ytknmjmhiejmjdaa.Vi
