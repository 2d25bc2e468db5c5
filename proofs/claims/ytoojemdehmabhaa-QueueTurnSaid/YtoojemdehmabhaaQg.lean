/- The walk of queue.Queue's Expire. -/
import Derived.Test.YtoojemdehmabhaaQf
set_option linter.unusedVariables false
set_option linter.unusedSimpArgs false
set_option maxRecDepth 100000
namespace Go.Proofs.Ytoojemdehmabhaa.Qg
open Go.RowKit Go.MapKept Go.Shelf Hm Hs Hf Hg Hx Hy Hv Qa Qb Qc Qd Qe Qf
theorem expire_nil (w : World) (now : Int) : Calls Try.prog 47 #[.pointer none, .int .i64 now] w fun e w' => e = .returned (.slice none 0 0) ∧ Turns [] w w' := by
  go_enter Try.func47, Try.ntmps47
  go_wp2_with fail
  go_ret
  exact ⟨rfl, (Turns.refl _ _).alloc _⟩
def gone (l : List It) (now : Int) : List It := l.filter fun x => decide (x.until_ ≤ now)
def stay (l : List It) (now : Int) : List It := l.filter fun x => !decide (x.until_ ≤ now)
theorem all_open {F : List Nat} {w0 w : World} {l r : List Th} (H : Sep F w0 (tAll l :: r) w) : Sep F w0 (l ++ r) w :=
  H.open_ l (fun k hk => hk) (fun h => h)
set_option maxHeartbeats 1000000 in
theorem expire_is (w : World) (b : Nat) (room : Int) (iv : Value) (l : List It) (now : Int) (h : Got (qm b room iv l) w) (hn : l.length ≤ 100000) : Calls Try.prog 47 #[.pointer (some ⟨b, 0, none⟩), .int .i64 now] w
    fun e w' => ∃ u iv', e = .returned u ∧ Sep (fps (qm b room iv l)) w (qm b room iv' (stay l now) ++ [tIt u (gone l now)]) w' := by
  have H := h.sep
  generalize hFF : fps (qm b room iv l) = FF at H ⊢
  obtain ⟨X, hX⟩ : ∃ X : Ending → World → Prop, X = fun e w' => ∃ u iv', e = .returned u ∧ Sep FF w (qm b room iv' (stay l now) ++ [tIt u (gone l now)]) w' := ⟨_, rfl⟩
  rw [← hX]
  have hXh : Hid (∀ w' u iv', Sep FF w (qm b room iv' (stay l now) ++ [tIt u (gone l now)]) w' → X (.returned u) w') := Lib.hid (fun w' u iv' h => by rw [hX]; exact ⟨u, iv', rfl, h⟩)
  clear hX h hFF
  replace H := (H.alloc #[.int .i64 now] 3).alloc #[.slice none 0 0] 37
  rw [World.size_alloc] at H
  replace H := (H.nilSlice 34 5)
  replace H := H.keep [2, 1, 0, 3, 4]
  have c1 : World.cell? ((w.alloc (.cells #[.int .i64 now] 3)).alloc (.cells #[.slice none 0 0] 37)) ⟨b, 1, none⟩ = some _ := (H.blk 3 rfl).cell 1
  replace H : Sep FF w (tAll [tBlk w.heap.size #[.int .i64 now] 3, tBlk (w.heap.size + 1) #[.slice none 0 0] 37, tIt (.slice none 0 0) ([].filter fun x => decide (x.until_ ≤ now))] :: qm b room iv l) _ := H.shut_ (ps := [tBlk w.heap.size #[.int .i64 now] 3, tBlk (w.heap.size + 1) #[.slice none 0 0] 37, tIt (.slice none 0 0) ([].filter fun x => decide (x.until_ ≤ now))]) (r := qm b room iv l) (fun k hk => hk) (fun h1 h2 => ⟨h1, h2⟩)
  have Dh := Lib.hid (delete_st _ iv l _ (fun x => decide (x.until_ ≤ now)) 88 #[.pointer (some ⟨w.heap.size, 0, none⟩), .pointer (some ⟨w.heap.size + 1, 0, none⟩)] (ExpSt now w.heap.size (w.heap.size + 1)) (enters_of Try.func88 (by kernel_rfl) rfl) (H.got [2, 0]) hn ⟨_, rfl⟩ (exp_says now _ _))
  have hHh := Lib.hid H
  clear H
  go_enter Try.func47, Try.ntmps47
  go_wp2_with fail
  go_at_call 82
  refine Calls.mono (Dh.out) ?_
  rintro e w1 ⟨u, T, rfl, ⟨ov, rfl⟩, h1⟩
  have H := (hHh.out.call [2, 0] h1).keep [1, 0, 2]
  clear h1 hHh Dh c1
  replace H := all_open H
  obtain ⟨A2, c2, rfl, _⟩ := (H.own 3 rfl).form
  generalize hnn : (List.filter (fun x => !decide (x.until_ ≤ now)) l |>.map It.cells).length = nn at H
  clear hnn
  have c1 : World.cell? (w1) ⟨b, 1, none⟩ = some _ := (H.blk 4 rfl).cell 1
  have cf1 : World.frozen? (w1) ⟨b, 1, none⟩ = false := (H.blk 4 rfl).frozen 1
  replace H := H.set 4 rfl 1 (.slice A2 nn c2)
  have o0 : World.cell? (w1.setCell ⟨b, 1, none⟩ (.slice A2 nn c2)) ⟨w.heap.size + 1, 0, none⟩ = some _ := (H.blk 1 rfl).cell 0
  have hX := hXh.out _ ov (.slice A2 nn c2) (H.keep [4, 3, 2])
  clear H
  go_wp2_with fail
  exact hX
end Go.Proofs.Ytoojemdehmabhaa.Qg
