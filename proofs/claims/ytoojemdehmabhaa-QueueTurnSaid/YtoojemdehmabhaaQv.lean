/- queue's Take. -/
import Derived.Test.YtoojemdehmabhaaQu
import Derived.Test.YtoojemdehmabhaaQo
set_option linter.unusedVariables false
set_option linter.unusedSimpArgs false
set_option maxRecDepth 100000
namespace Go.Proofs.Ytoojemdehmabhaa.Qv
open Go.RowKit Go.MapKept Go.Shelf Hm Hs Hf Hg Hx Hy Hv Qa Qb Qc Qd Qe Qf Qg Qh Qi Qj Qu
/-- where a name's item is -/
theorem pos_is (l : List It) (id : Int) : (posQ l id = -1 ∧ ∀ x ∈ l, x.id ≠ id) ∨ ∃ (i : Nat) (x : It), l[i]? = some x ∧ x.id = id ∧ (∀ k, k < i → ∀ y, l[k]? = some y → y.id ≠ id) ∧ posQ l id = (i : Int) := by
  rcases ixFrom_is (fun x => x.id == id) l 0 with ⟨h1, h2⟩ | ⟨i, x, h1, h2, h3, h4⟩
  · exact .inl ⟨h1, fun x hx => by simpa using h2 x hx⟩
  · exact .inr ⟨i, x, h1, by simpa using h2, fun k hk y hy => by simpa using h3 k hk y hy, by unfold posQ; rw [h4]; simp⟩
abbrev zc : Array Value := #[.int .i64 0, .int .i64 0, .int .i64 0, .int .i64 0, .int .i64 0]
theorem take_nil (w : World) (id : Int) : Calls Try.prog 14 #[.pointer none, .int .i64 id] w fun e w' => e = .returned (.tuple #[It.zero.v, .bool false]) ∧ Turns [] w w' := by
  have hR := Blk.new w #[.int .i64 0, .int .i64 0, .int .i64 0, .int .i64 0, .int .i64 0] 34
  have T := (Turns.refl [] w).alloc (.cells #[.int .i64 0, .int .i64 0, .int .i64 0, .int .i64 0, .int .i64 0] 34)
  unfold It.v It.zero
  go_enter Try.func14, Try.ntmps14
  go_wp2_with fail
  refine bodyPost_ret (res_list (rs := [.cell 4 34, .tmp 5]) rfl (by simp) (.cell w.heap.size _ _ _ rfl hR Try.underlying34 rfl (by kernel_rfl) (.tmp .nil))) rfl ?_
  exact ⟨rfl, T⟩
set_option maxHeartbeats 1000000 in
theorem take_none (w : World) (b : Nat) (room : Int) (iv : Value) (l : List It) (id : Int) (h : Got (qm b room iv l) w) (hn : l.length ≤ 100000) (hp : posQ l id = -1) : Calls Try.prog 14 #[.pointer (some ⟨b, 0, none⟩), .int .i64 id] w fun e w' => e = .returned (.tuple #[It.zero.v, .bool false]) ∧ Turns [] w w' := by
  have H := (Sep.start w).alloc #[.int .i64 0, .int .i64 0, .int .i64 0, .int .i64 0, .int .i64 0] 34
  have Ph := Lib.hid (place_is _ b room iv l id (((h.sep.turns H.t)).got [0, 1]) hn)
  rw [hp] at Ph
  have hHh := Lib.hid H
  unfold It.v It.zero
  clear h hp H
  go_enter Try.func14, Try.ntmps14
  go_wp2_with fail
  go_at_call 57
  refine Calls.mono (Ph.out) ?_
  rintro e w1 ⟨rfl, t1⟩
  have H := hHh.out.turns t1
  have z0 : World.cell? (w1) ⟨w.heap.size, 0, none⟩ = some _ := (H.blk 0 rfl).cell 0
  have zf0 : World.frozen? (w1) ⟨w.heap.size, 0, none⟩ = false := (H.blk 0 rfl).frozen 0
  have z1 : World.cell? (w1) ⟨w.heap.size, 1, none⟩ = some _ := (H.blk 0 rfl).cell 1
  have zf1 : World.frozen? (w1) ⟨w.heap.size, 1, none⟩ = false := (H.blk 0 rfl).frozen 1
  have z2 : World.cell? (w1) ⟨w.heap.size, 2, none⟩ = some _ := (H.blk 0 rfl).cell 2
  have zf2 : World.frozen? (w1) ⟨w.heap.size, 2, none⟩ = false := (H.blk 0 rfl).frozen 2
  have z3 : World.cell? (w1) ⟨w.heap.size, 3, none⟩ = some _ := (H.blk 0 rfl).cell 3
  have zf3 : World.frozen? (w1) ⟨w.heap.size, 3, none⟩ = false := (H.blk 0 rfl).frozen 3
  have z4 : World.cell? (w1) ⟨w.heap.size, 4, none⟩ = some _ := (H.blk 0 rfl).cell 4
  have zf4 : World.frozen? (w1) ⟨w.heap.size, 4, none⟩ = false := (H.blk 0 rfl).frozen 4
  have H7 := ((((H.set 0 rfl 0 (.int .i64 0)).set 0 rfl 1 (.int .i64 0)).set 0 rfl 2 (.int .i64 0)).set 0 rfl 3 (.int .i64 0)).set 0 rfl 4 (.int .i64 0)
  have hR := H7.blk 0 rfl
  have T := H7.t
  clear H H7 hHh Ph t1
  go_wp2_with fail
  refine bodyPost_ret (res_list (rs := [.cell 4 34, .tmp 5]) rfl (by simp) (.cell w.heap.size _ _ _ rfl hR Try.underlying34 rfl (by kernel_rfl) (.tmp .nil))) rfl ?_
  exact ⟨rfl, T⟩
set_option maxHeartbeats 2000000 in
theorem take_some (w : World) (b : Nat) (room : Int) (iv : Value) (l : List It) (id : Int) (i : Nat) (x : It) (h : Got (qm b room iv l) w) (hn : l.length ≤ 100000) (hp : posQ l id = (i : Int)) (hx : l[i]? = some x) : Calls Try.prog 14 #[.pointer (some ⟨b, 0, none⟩), .int .i64 id] w fun e w' => e = .returned (.tuple #[x.v, .bool true]) ∧ ∃ iv', Sep (fps (qm b room iv l)) w (qm b room iv' (l.eraseIdx i)) w' := by
  have H := h.sep
  generalize hFF : fps (qm b room iv l) = FF at H ⊢
  obtain ⟨A, c, rfl, _⟩ := (H.own 1 rfl).form
  have hi := (List.getElem?_eq_some_iff.1 hx).1
  obtain ⟨X, hX⟩ : ∃ X : Ending → World → Prop, X = fun e w' => e = .returned (.tuple #[x.v, .bool true]) ∧ ∃ iv', Sep FF w (qm b room iv' (l.eraseIdx i)) w' := ⟨_, rfl⟩
  rw [← hX]
  have hXh : Hid (∀ w' iv', Sep FF w (qm b room iv' (l.eraseIdx i)) w' → X (.returned (.tuple #[x.v, .bool true])) w') := Lib.hid (fun w' iv' h => by rw [hX]; exact ⟨rfl, iv', h⟩)
  replace H := H.alloc #[.int .i64 0, .int .i64 0, .int .i64 0, .int .i64 0, .int .i64 0] 34
  have Ph := Lib.hid (place_is _ b room _ l id (H.got [1, 2]) hn)
  rw [hp] at Ph
  have hxh := Lib.hid hx
  have hHh := Lib.hid H
  have g0 : decide ((i : Int) < 0) = false := decide_eq_false (by omega)
  have w0 : IntKind.i64.wrap ((i : Int) + 1) = (i : Int) + 1 := IntWalk.i64_in _ (by omega)
  have Dh := Lib.hid (fun w v h => delete_is w v l i h hi hn)
  rw [List.length_map] at *
  unfold It.v at hXh
  clear h hp H hX hFF hx
  go_enter Try.func14, Try.ntmps14
  go_wp2_with fail
  go_at_call 57
  refine Calls.mono (Ph.out) ?_
  rintro e w1 ⟨rfl, t1⟩
  have H := hHh.out.turns t1
  clear hHh Ph t1
  obtain ⟨ad, c', hv, LX⟩ := icells_at (H.own 2 rfl).reads hxh.out
  injection hv with e1 e2 e3
  subst e1 e3
  obtain ⟨x0, x1, x2, x3, x4⟩ := LX
  have c1 : World.cell? (w1) ⟨b, 1, none⟩ = some _ := (H.blk 1 rfl).cell 1
  have H2 := H.alloc #[.int .i64 x.id, .int .i64 x.key, .int .i64 x.cost, .int .i64 x.cls, .int .i64 x.until_] 34
  have D2 := Lib.hid (Dh.out _ _ (H2.own 3 rfl))
  have d1 : (w1.alloc (.cells #[.int .i64 x.id, .int .i64 x.key, .int .i64 x.cost, .int .i64 x.cls, .int .i64 x.until_] 34)).cell? ⟨b, 1, none⟩ = some _ := (H2.blk 2 rfl).cell 1
  have hH2 := Lib.hid H2
  clear H H2 Dh e2
  go_wp2_with fail
  go_at_call 58
  refine Calls.mono (D2.out) ?_
  rintro e w2 ⟨u, rfl, o2, t2, hl2⟩
  have H := hH2.out.slice 3 rfl o2 t2 (.inl hl2)
  clear hH2 D2 x0 x1 x2 x3 x4 c1 d1 o2 t2 hl2
  obtain ⟨A2, c2, rfl, _⟩ := formM (H.own 3 rfl)
  generalize w.heap.size = zb at *
  generalize w1.heap.size = xb at *
  have c1 : World.cell? (w2) ⟨b, 1, none⟩ = some _ := (H.blk 2 rfl).cell 1
  have cf1 : World.frozen? (w2) ⟨b, 1, none⟩ = false := (H.blk 2 rfl).frozen 1
  replace H := H.set 2 rfl 1 (.slice A2 (l.eraseIdx i).length c2)
  have x0 : World.cell? (w2.setCell ⟨b, 1, none⟩ (.slice A2 (l.eraseIdx i).length c2)) ⟨xb, 0, none⟩ = some _ := (H.blk 0 rfl).cell 0
  have x1 : World.cell? (w2.setCell ⟨b, 1, none⟩ (.slice A2 (l.eraseIdx i).length c2)) ⟨xb, 1, none⟩ = some _ := (H.blk 0 rfl).cell 1
  have x2 : World.cell? (w2.setCell ⟨b, 1, none⟩ (.slice A2 (l.eraseIdx i).length c2)) ⟨xb, 2, none⟩ = some _ := (H.blk 0 rfl).cell 2
  have x3 : World.cell? (w2.setCell ⟨b, 1, none⟩ (.slice A2 (l.eraseIdx i).length c2)) ⟨xb, 3, none⟩ = some _ := (H.blk 0 rfl).cell 3
  have x4 : World.cell? (w2.setCell ⟨b, 1, none⟩ (.slice A2 (l.eraseIdx i).length c2)) ⟨xb, 4, none⟩ = some _ := (H.blk 0 rfl).cell 4
  have z0 : World.cell? (w2.setCell ⟨b, 1, none⟩ (.slice A2 (l.eraseIdx i).length c2)) ⟨zb, 0, none⟩ = some _ := (H.blk 1 rfl).cell 0
  have zf0 : World.frozen? (w2.setCell ⟨b, 1, none⟩ (.slice A2 (l.eraseIdx i).length c2)) ⟨zb, 0, none⟩ = false := (H.blk 1 rfl).frozen 0
  have z1 : World.cell? (w2.setCell ⟨b, 1, none⟩ (.slice A2 (l.eraseIdx i).length c2)) ⟨zb, 1, none⟩ = some _ := (H.blk 1 rfl).cell 1
  have zf1 : World.frozen? (w2.setCell ⟨b, 1, none⟩ (.slice A2 (l.eraseIdx i).length c2)) ⟨zb, 1, none⟩ = false := (H.blk 1 rfl).frozen 1
  have z2 : World.cell? (w2.setCell ⟨b, 1, none⟩ (.slice A2 (l.eraseIdx i).length c2)) ⟨zb, 2, none⟩ = some _ := (H.blk 1 rfl).cell 2
  have zf2 : World.frozen? (w2.setCell ⟨b, 1, none⟩ (.slice A2 (l.eraseIdx i).length c2)) ⟨zb, 2, none⟩ = false := (H.blk 1 rfl).frozen 2
  have z3 : World.cell? (w2.setCell ⟨b, 1, none⟩ (.slice A2 (l.eraseIdx i).length c2)) ⟨zb, 3, none⟩ = some _ := (H.blk 1 rfl).cell 3
  have zf3 : World.frozen? (w2.setCell ⟨b, 1, none⟩ (.slice A2 (l.eraseIdx i).length c2)) ⟨zb, 3, none⟩ = false := (H.blk 1 rfl).frozen 3
  have z4 : World.cell? (w2.setCell ⟨b, 1, none⟩ (.slice A2 (l.eraseIdx i).length c2)) ⟨zb, 4, none⟩ = some _ := (H.blk 1 rfl).cell 4
  have zf4 : World.frozen? (w2.setCell ⟨b, 1, none⟩ (.slice A2 (l.eraseIdx i).length c2)) ⟨zb, 4, none⟩ = false := (H.blk 1 rfl).frozen 4
  have H7 := ((((H.set 1 rfl 0 (.int .i64 x.id)).set 1 rfl 1 (.int .i64 x.key)).set 1 rfl 2 (.int .i64 x.cost)).set 1 rfl 3 (.int .i64 x.cls)).set 1 rfl 4 (.int .i64 x.until_)
  have hR := H7.blk 1 rfl
  have hX := hXh.out _ _ (H7.keep [2, 3])
  clear H H7
  go_wp2_with fail
  refine bodyPost_ret (res_list (rs := [.cell 4 34, .tmp 5]) rfl (by simp) (.cell zb _ _ _ rfl hR Try.underlying34 rfl (by kernel_rfl) (.tmp .nil))) rfl ?_
  exact hX
end Go.Proofs.Ytoojemdehmabhaa.Qv
