/- The walks of package queue: New, All, place. -/
import Derived.Test.YtoojemdehmabhaaQd
set_option linter.unusedVariables false
set_option linter.unusedSimpArgs false
set_option maxRecDepth 100000
namespace Go.Proofs.Ytoojemdehmabhaa.Qe
open Go.RowKit Go.MapKept Go.Shelf Hm Hs Hf Hg Hx Hy Hv Qa Qb Qc Qd
/-- a queue: its block, its items -/
abbrev qm (b : Nat) (room : Int) (iv : Value) (l : List It) : List Th := [tBlk b #[.int .i64 room, iv] 107, tIt iv l]
theorem new_is (w : World) (room : Int) (h : 0 ≤ room ∧ room ≤ 16) : Calls Try.prog 10 #[.int .i64 room] w fun e w' => ∃ b, e = .returned (.tuple #[.pointer (some ⟨b, 0, none⟩), .int .i64 0]) ∧ Sep [] w (qm b room (.slice none 0 0) []) w' := by
  have g1 : decide (room < 0) = false := decide_eq_false (by omega)
  have g2 : decide (room > 16) = false := decide_eq_false (by omega)
  have H := (((Sep.start w).alloc #[.int .i64 room, .slice none 0 0] 107).nilSlice 34 5).keep [1, 0]
  clear h
  go_enter Try.func10, Try.ntmps10
  go_wp2_with fail
  go_ret2
  exact ⟨_, rfl, H⟩
theorem new_no (w : World) (room : Int) (h : room < 0 ∨ 16 < room) : Calls Try.prog 10 #[.int .i64 room] w fun e w' => e = .returned (.tuple #[.pointer none, .int .i64 1]) ∧ Turns [] w w' := by
  by_cases h0 : room < 0
  · have g1 := decide_eq_true h0
    clear h h0
    go_enter Try.func10, Try.ntmps10
    go_wp2_with fail
    go_ret2
    exact ⟨rfl, Turns.refl _ _⟩
  · have g1 : decide (room < 0) = false := decide_eq_false h0
    have g2 : decide (room > 16) = true := decide_eq_true (by omega)
    clear h h0
    go_enter Try.func10, Try.ntmps10
    go_wp2_with fail
    go_ret2
    exact ⟨rfl, Turns.refl _ _⟩
theorem all_nil (w : World) : Calls Try.prog 12 #[.pointer none] w fun e w' => e = .returned (.slice none 0 0) ∧ Turns [] w w' := by
  go_enter Try.func12, Try.ntmps12
  go_wp2_with fail
  go_ret
  exact ⟨rfl, Turns.refl _ _⟩
theorem all_is (w : World) (b : Nat) (room : Int) (iv : Value) (l : List It) (h : Got (qm b room iv l) w) (hn : l.length ≤ 100000) : Calls Try.prog 12 #[.pointer (some ⟨b, 0, none⟩)] w fun e w' => ∃ u, e = .returned u ∧ OwnS 34 5 w' u (l.map It.cells) ∧ Turns [] w w' ∧ (∀ k, u.ownBlock = some k → w.heap.size ≤ k) := by
  have Ch := Lib.hid (clone_is w iv l (h.sep.own 1 rfl).reads hn)
  have c0 : World.cell? (w) ⟨b, 0, none⟩ = some _ := (h.sep.blk 0 rfl).cell 0
  have c1 : World.cell? (w) ⟨b, 1, none⟩ = some _ := (h.sep.blk 0 rfl).cell 1
  clear h
  go_enter Try.func12, Try.ntmps12
  go_wp2_with fail
  go_at_call 56
  refine Calls.mono (Ch.out) ?_
  rintro e w1 ⟨u, rfl, o, t, m⟩
  go_wp2_with fail
  go_ret
  exact ⟨_, rfl, o, t, m⟩
theorem placeFn_is (w : World) (x : It) (id : Int) (g : Nat) (hg : w.cell? ⟨g, 0, none⟩ = some (.int .i64 id)) : Calls Try.prog 102 #[x.v, .pointer (some ⟨g, 0, none⟩)] w fun e w' => e = .returned (.bool (x.id == id)) ∧ Turns [] w w' := by
  have c0 : ∀ o, (w.alloc o).cell? ⟨g, 0, none⟩ = some (.int .i64 id) := fun o => ((Turns.refl [] w).alloc o).old hg
  unfold It.v
  go_enter Try.func102, Try.ntmps102
  go_wp2_with fail
  go_ret
  exact ⟨rfl, (Turns.refl _ _).alloc _⟩
def posQ (l : List It) (id : Int) : Int := ixFrom (fun x => x.id == id) l 0
theorem place_is (w : World) (b : Nat) (room : Int) (iv : Value) (l : List It) (id : Int) (h : Got (qm b room iv l) w) (hn : l.length ≤ 100000) : Calls Try.prog 57 #[.pointer (some ⟨b, 0, none⟩), .int .i64 id] w fun e w' => e = .returned (.int .i64 (posQ l id)) ∧ Turns [] w w' := by
  have H := h.sep.alloc #[.int .i64 id] 3
  have hg := (H.blk 0 rfl).cell 0
  have hp : Hid (∀ W (x : It), Turns [] (w.alloc (.cells #[.int .i64 id] 3)) W → Calls Try.prog 102 (#[x.v] ++ #[.pointer (some ⟨w.heap.size, 0, none⟩)]) W fun e w' => e = .returned (.bool ((fun x : It => x.id == id) x)) ∧ Turns [] W w') := Lib.hid (fun W x t => placeFn_is W x id _ (t.old hg))
  have Ih := Lib.hid (index_is _ iv l (fun x => x.id == id) 102 #[.pointer (some ⟨w.heap.size, 0, none⟩)] (enters_of Try.func102 (by kernel_rfl) rfl) (H.own 2 rfl).reads hn hp)
  have c0 : World.cell? (w.alloc (.cells #[.int .i64 id] 3)) ⟨b, 0, none⟩ = some _ := (H.blk 1 rfl).cell 0
  have c1 : World.cell? (w.alloc (.cells #[.int .i64 id] 3)) ⟨b, 1, none⟩ = some _ := (H.blk 1 rfl).cell 1
  have T := (Turns.refl [] w).alloc (.cells #[.int .i64 id] 3)
  clear h H hp hg
  go_enter Try.func57, Try.ntmps57
  go_wp2_with fail
  go_at_call 101
  refine Calls.mono (Ih.out) ?_
  rintro e w1 ⟨rfl, t⟩
  go_wp2_with fail
  go_ret
  exact ⟨rfl, T.trans t⟩
end Go.Proofs.Ytoojemdehmabhaa.Qe
