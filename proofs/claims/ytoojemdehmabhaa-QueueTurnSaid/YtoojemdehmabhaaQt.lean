/- The walks of package queue: Put, where it is taken. -/
import Derived.Test.YtoojemdehmabhaaQj
set_option linter.unusedVariables false
set_option linter.unusedSimpArgs false
set_option maxRecDepth 100000
namespace Go.Proofs.Ytoojemdehmabhaa.Qt
open Go.RowKit Go.MapKept Go.Shelf Hm Hs Hf Hg Hx Hy Hv Qa Qb Qc Qd Qe Qf Qg Qh Qi Qj
/-- two facts as one, unseen by simp -/
structure Kp (A B : Prop) : Prop where
  a : A
  b : B
set_option maxHeartbeats 1000000 in
theorem put_good (w : World) (x : It) (b : Nat) (room : Int) (iv : Value) (l : List It) (h : Got (qm b room iv l) w) (hn : l.length ≤ 100000) (hb : badQ x = false) (hp : ¬ posQ l x.id ≥ 0) (hr : ¬ (l.length : Int) ≥ room) : Calls Try.prog 46 #[.pointer (some ⟨b, 0, none⟩), x.v] w fun e w' => e = .returned (.int .i64 0) ∧ ∃ iv', Sep (fps (qm b room iv l)) w (qm b room iv' (l ++ [x])) w' := by
  obtain ⟨g1, g2, g3, g4⟩ := badQ_no hb
  have g5 : decide (posQ l x.id ≥ 0) = false := decide_eq_false hp
  have g6 : decide ((l.length : Int) ≥ room) = false := decide_eq_false hr
  have T := (Turns.refl [] w).alloc (.cells #[.int .i64 x.id, .int .i64 x.key, .int .i64 x.cost, .int .i64 x.cls, .int .i64 x.until_] 34)
  obtain ⟨A, c, rfl, _⟩ := (h.sep.own 1 rfl).form
  have Ph := Lib.hid (place_is _ b room _ l x.id (((h.sep.turns T)).got [0, 1]) hn)
  have H := h.sep
  generalize hFF : fps (qm b room (.slice A (l.map It.cells).length c) l) = FF at H ⊢
  obtain ⟨X, hX⟩ : ∃ X : Ending → World → Prop, X = fun e w' => e = .returned (.int .i64 0) ∧ ∃ iv', Sep FF w (qm b room iv' (l ++ [x])) w' := ⟨_, rfl⟩
  rw [← hX]
  have hXh : Hid (∀ w' iv', Sep FF w (qm b room iv' (l ++ [x])) w' → X (.returned (.int .i64 0)) w') := Lib.hid (fun w' iv' h => by rw [hX]; exact ⟨rfl, iv', h⟩)
  rw [List.length_map] at H
  replace H := H.alloc #[.int .i64 x.id, .int .i64 x.key, .int .i64 x.cost, .int .i64 x.cls, .int .i64 x.until_] 34
  unfold It.v
  clear h hb hp hr hX hFF T
  have hHh := Lib.hid H
  clear H
  go_enter Try.func46, Try.ntmps46
  go_wp2_with fail
  go_at_call 57
  refine Calls.mono (Ph.out) ?_
  rintro e w1 ⟨rfl, t1⟩
  have H := hHh.out.turns t1
  clear t1 hHh Ph
  have c0 : World.cell? (w1) ⟨b, 0, none⟩ = some _ := (H.blk 1 rfl).cell 0
  have c1 : World.cell? (w1) ⟨b, 1, none⟩ = some _ := (H.blk 1 rfl).cell 1
  go_wp2_with fail
  go_quiet (fail)
  replace H := (H.drewN nq).drew
  clear c0 c1
  generalize w1.drewN nq = w2 at *
  go_wp2_with fail
  go_wp2_with fail
  refine wp_region_flo2 [(0, true, [6, 7]), (1, true, [6, 7]), (2, true, [6, 7]), (3, true, [6, 7]), (4, true, [6]), (5, true, [7]), (6, false, []), (7, false, []), (8, true, [10]), (9, true, []), (10, false, [])] (fun j W => Kp (Blk W w.heap.size #[.int .i64 x.id, .int .i64 x.key, .int .i64 x.cost, .int .i64 x.cls, .int .i64 x.until_] 34) (j = 6 → Blk W b #[.int .i64 room, .slice A l.length c] 107)) (by kernel_rfl) rfl (by kernel_rfl) (by intro c d v a w h; cases d <;> first | (simpa [Exit.then, Exit.inBlock, Act.put] using h) | exact h) ?_
  generalize w2.drew = w3 at *
  generalize w.heap.size = xb at *
  have x0 : World.cell? (w3) ⟨xb, 0, none⟩ = some _ := (H.blk 0 rfl).cell 0
  have x1 : World.cell? (w3) ⟨xb, 1, none⟩ = some _ := (H.blk 0 rfl).cell 1
  have x2 : World.cell? (w3) ⟨xb, 2, none⟩ = some _ := (H.blk 0 rfl).cell 2
  have x3 : World.cell? (w3) ⟨xb, 3, none⟩ = some _ := (H.blk 0 rfl).cell 3
  have x4 : World.cell? (w3) ⟨xb, 4, none⟩ = some _ := (H.blk 0 rfl).cell 4
  have c1 : World.cell? (w3) ⟨b, 1, none⟩ = some _ := (H.blk 1 rfl).cell 1
  first
    | (refine flo2_read _ rfl (fun _ => True) trivial (fun _ _ _ _ => trivial) (fun K hK => ?_); go_simp; first | (refine hK _ ?_) | (refine ⟨fun W _ => ?_, hK _ ?_⟩; · (go_simp)) | (refine ⟨fun W => ?_, hK _ ?_⟩; · (go_simp)))
    | (refine flo2_read _ rfl (fun W => W = _) rfl (by simp) (fun K hK => ?_); go_simp; first | (refine hK _ ?_) | (refine ⟨fun W hS => ?_, hK _ ?_⟩; · (subst hS; go_simp)) | (refine ⟨?_, hK _ ?_⟩; · (go_simp)))
  clear hK K
  first
    | (refine flo2_read _ rfl (fun _ => True) trivial (fun _ _ _ _ => trivial) (fun K hK => ?_); go_simp; first | (refine hK _ ?_) | (refine ⟨fun W _ => ?_, hK _ ?_⟩; · (go_simp)) | (refine ⟨fun W => ?_, hK _ ?_⟩; · (go_simp)))
    | (refine flo2_read _ rfl (fun W => W = _) rfl (by simp) (fun K hK => ?_); go_simp; first | (refine hK _ ?_) | (refine ⟨fun W hS => ?_, hK _ ?_⟩; · (subst hS; go_simp)) | (refine ⟨?_, hK _ ?_⟩; · (go_simp)))
  clear hK K
  first
    | (refine flo2_read _ rfl (fun _ => True) trivial (fun _ _ _ _ => trivial) (fun K hK => ?_); go_simp; first | (refine hK _ ?_) | (refine ⟨fun W _ => ?_, hK _ ?_⟩; · (go_simp)) | (refine ⟨fun W => ?_, hK _ ?_⟩; · (go_simp)))
    | (refine flo2_read _ rfl (fun W => W = _) rfl (by simp) (fun K hK => ?_); go_simp; first | (refine hK _ ?_) | (refine ⟨fun W hS => ?_, hK _ ?_⟩; · (subst hS; go_simp)) | (refine ⟨?_, hK _ ?_⟩; · (go_simp)))
  clear hK K
  first
    | (refine flo2_read _ rfl (fun _ => True) trivial (fun _ _ _ _ => trivial) (fun K hK => ?_); go_simp; first | (refine hK _ ?_) | (refine ⟨fun W _ => ?_, hK _ ?_⟩; · (go_simp)) | (refine ⟨fun W => ?_, hK _ ?_⟩; · (go_simp)))
    | (refine flo2_read _ rfl (fun W => W = _) rfl (by simp) (fun K hK => ?_); go_simp; first | (refine hK _ ?_) | (refine ⟨fun W hS => ?_, hK _ ?_⟩; · (subst hS; go_simp)) | (refine ⟨?_, hK _ ?_⟩; · (go_simp)))
  clear hK K
  refine flo2_read _ rfl (fun W => Blk W b #[.int .i64 room, .slice A l.length c] 107) (H.blk 1 rfl) (fun j hj W hW => hW.b (by simpa using hj)) (fun K hK => ?_)
  go_simp
  first | (refine hK _ ?_) | (refine ⟨fun W hS => ?_, hK _ ?_⟩; · (have y0 : W.cell? ⟨b, 1, none⟩ = some _ := hS.cell 1; try go_simp))
  clear hK K
  refine flo2_read _ rfl (fun W => Blk W xb #[.int .i64 x.id, .int .i64 x.key, .int .i64 x.cost, .int .i64 x.cls, .int .i64 x.until_] 34) (H.blk 0 rfl) (fun j hj W hW => hW.a) (fun K hK => ?_)
  go_simp
  first | (refine hK _ ?_) | (refine ⟨fun W hS => ?_, hK _ ?_⟩; · (have y0 : W.cell? ⟨xb, 0, none⟩ = some _ := hS.cell 0; have y1 : W.cell? ⟨xb, 1, none⟩ = some _ := hS.cell 1; have y2 : W.cell? ⟨xb, 2, none⟩ = some _ := hS.cell 2; have y3 : W.cell? ⟨xb, 3, none⟩ = some _ := hS.cell 3; have y4 : W.cell? ⟨xb, 4, none⟩ = some _ := hS.cell 4; try go_simp))
  clear hK K
  refine flo2_alone _ rfl ?_
  go_wp2_with fail
  replace H := H.alloc #[.int .i64 x.id, .int .i64 x.key, .int .i64 x.cost, .int .i64 x.cls, .int .i64 x.until_] 34
  refine ⟨⟨H.blk 1 rfl, fun _ => H.blk 2 rfl⟩, _, fun _ _ h => h, ?_⟩
  have hs2h := Lib.hid (oneIt (H.blk 0 rfl))
  clear x0 x1 x2 x3 x4 c1
  refine flo2_alone _ rfl ?_
  refine H.append 3 rfl hs2h.out (l.length + 1) (by simp) ((l ++ [x]).map It.cells) (by rw [List.map_append]) rfl _ _ _ rfl (.agg #[.int .i64 0, .int .i64 0, .int .i64 0, .int .i64 0, .int .i64 0]) 40 Try.underlying37 infoQ rfl (by decide) rfl rfl (icells_one _) (by omega) (by omega) ?_
  clear H hs2h
  intro N c3 wn H tn _
  clear tn
  go_wp2_with fail
  refine ⟨⟨H.blk 1 rfl, by simp⟩, _, fun _ _ h => h, ?_⟩
  first
    | (refine flo2_read _ rfl (fun _ => True) trivial (fun _ _ _ _ => trivial) (fun K hK => ?_); go_simp; first | (refine hK _ ?_) | (refine ⟨fun W _ => ?_, hK _ ?_⟩; · (go_simp)) | (refine ⟨fun W => ?_, hK _ ?_⟩; · (go_simp)))
    | (refine flo2_read _ rfl (fun W => W = _) rfl (by simp) (fun K hK => ?_); go_simp; first | (refine hK _ ?_) | (refine ⟨fun W hS => ?_, hK _ ?_⟩; · (subst hS; go_simp)) | (refine ⟨?_, hK _ ?_⟩; · (go_simp)))
  clear hK K
  first
    | (refine flo2_read _ rfl (fun _ => True) trivial (fun _ _ _ _ => trivial) (fun K hK => ?_); go_simp; first | (refine hK _ ?_) | (refine ⟨fun W _ => ?_, hK _ ?_⟩; · (go_simp)) | (refine ⟨fun W => ?_, hK _ ?_⟩; · (go_simp)))
    | (refine flo2_read _ rfl (fun W => W = _) rfl (by simp) (fun K hK => ?_); go_simp; first | (refine hK _ ?_) | (refine ⟨fun W hS => ?_, hK _ ?_⟩; · (subst hS; go_simp)) | (refine ⟨?_, hK _ ?_⟩; · (go_simp)))
  clear hK K
  have c1 : World.cell? (wn) ⟨b, 1, none⟩ = some _ := (H.blk 2 rfl).cell 1
  have cf1 : World.frozen? (wn) ⟨b, 1, none⟩ = false := (H.blk 2 rfl).frozen 1
  refine flo2_alone _ rfl ?_
  go_wp2_with fail
  replace H := H.set 2 rfl 1 (.slice N (l.length + 1) c3)
  have hX := hXh.out _ (.slice N (l.length + 1) c3) (H.keep [2, 3])
  refine ⟨⟨H.blk 1 rfl, by simp⟩, _, fun _ _ h => h, ?_⟩
  clear H
  refine flo2_end ?_
  go_wp2_with fail
  exact hX
end Go.Proofs.Ytoojemdehmabhaa.Qt
