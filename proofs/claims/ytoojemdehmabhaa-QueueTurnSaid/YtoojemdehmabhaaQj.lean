/- The walks of package queue: Put. -/
import Derived.Test.YtoojemdehmabhaaQi
set_option linter.unusedVariables false
set_option linter.unusedSimpArgs false
set_option maxRecDepth 100000
namespace Go.Proofs.Ytoojemdehmabhaa.Qj
open Go.RowKit Go.MapKept Go.Shelf Hm Hs Hf Hg Hx Hy Hv Qa Qb Qc Qd Qe Qf Qg Qh Qi
theorem cmpFn_is (w : World) (x y : It) (hx : 0 ≤ x.cls ∧ x.cls ≤ 2) (hy : 0 ≤ y.cls ∧ y.cls ≤ 2) : Calls Try.prog 85 #[x.v, y.v] w fun e w' => e = .returned (.int .i64 (x.cls - y.cls)) ∧ Turns [] w w' := by
  have hw : IntKind.i64.wrap (x.cls - y.cls) = x.cls - y.cls := IntWalk.i64_in _ (by omega)
  clear hx hy
  unfold It.v
  go_enter Try.func85, Try.ntmps85
  go_wp2_with fail
  go_ret
  exact ⟨rfl, ((Turns.refl _ _).alloc _).alloc _⟩
def badQ (x : It) : Bool := decide (x.cost < 1) || decide (x.cls < 0) || decide (x.cls ≥ 3) || decide (x.until_ < 0)
theorem put_nil (w : World) (x : It) : Calls Try.prog 46 #[.pointer none, x.v] w fun e w' => e = .returned (.int .i64 1) ∧ Turns [] w w' := by
  unfold It.v
  go_enter Try.func46, Try.ntmps46
  go_wp2_with fail
  go_ret
  exact ⟨rfl, (Turns.refl _ _).alloc _⟩
theorem put_bad (w : World) (x : It) (b : Nat) (h : badQ x = true) : Calls Try.prog 46 #[.pointer (some ⟨b, 0, none⟩), x.v] w fun e w' => e = .returned (.int .i64 1) ∧ Turns [] w w' := by
  unfold badQ at h
  unfold It.v
  by_cases h1 : x.cost < 1
  · have g1 := decide_eq_true h1
    clear h h1
    go_enter Try.func46, Try.ntmps46
    go_wp2_with fail
    go_ret
    exact ⟨rfl, (Turns.refl _ _).alloc _⟩
  · have g1 : decide (x.cost < 1) = false := decide_eq_false h1
    by_cases h2 : x.cls < 0
    · have g2 := decide_eq_true h2
      clear h h1 h2
      go_enter Try.func46, Try.ntmps46
      go_wp2_with fail
      go_ret
      exact ⟨rfl, (Turns.refl _ _).alloc _⟩
    · have g2 : decide (x.cls < 0) = false := decide_eq_false h2
      by_cases h3 : x.cls ≥ 3
      · have g3 := decide_eq_true h3
        clear h h1 h2 h3
        go_enter Try.func46, Try.ntmps46
        go_wp2_with fail
        go_ret
        exact ⟨rfl, (Turns.refl _ _).alloc _⟩
      · have g3 : decide (x.cls ≥ 3) = false := decide_eq_false h3
        have g4 : decide (x.until_ < 0) = true := by
          rw [g1, g2, g3] at h
          simpa using h
        clear h h1 h2 h3
        go_enter Try.func46, Try.ntmps46
        go_wp2_with fail
        go_ret
        exact ⟨rfl, (Turns.refl _ _).alloc _⟩
theorem badQ_no {x : It} (h : badQ x = false) : decide (x.cost < 1) = false ∧ decide (x.cls < 0) = false ∧ decide (x.cls ≥ 3) = false ∧ decide (x.until_ < 0) = false := by
  unfold badQ at h
  simp only [Bool.or_eq_false_iff] at h
  exact ⟨h.1.1.1, h.1.1.2, h.1.2, h.2⟩
theorem put_twice (w : World) (x : It) (b : Nat) (room : Int) (iv : Value) (l : List It) (h : Got (qm b room iv l) w) (hn : l.length ≤ 100000) (hb : badQ x = false) (hp : posQ l x.id ≥ 0) : Calls Try.prog 46 #[.pointer (some ⟨b, 0, none⟩), x.v] w fun e w' => e = .returned (.int .i64 5) ∧ Turns [] w w' := by
  obtain ⟨g1, g2, g3, g4⟩ := badQ_no hb
  have g5 := decide_eq_true hp
  have T := (Turns.refl [] w).alloc (.cells #[.int .i64 x.id, .int .i64 x.key, .int .i64 x.cost, .int .i64 x.cls, .int .i64 x.until_] 34)
  have Ph := Lib.hid (place_is _ b room iv l x.id (((h.sep.turns T)).got [0, 1]) hn)
  unfold It.v
  clear h hb hp
  go_enter Try.func46, Try.ntmps46
  go_wp2_with fail
  go_at_call 57
  refine Calls.mono (Ph.out) ?_
  rintro e w1 ⟨rfl, t1⟩
  go_wp2_with fail
  go_ret
  exact ⟨rfl, T.trans t1⟩
theorem put_full (w : World) (x : It) (b : Nat) (room : Int) (iv : Value) (l : List It) (h : Got (qm b room iv l) w) (hn : l.length ≤ 100000) (hb : badQ x = false) (hp : ¬ posQ l x.id ≥ 0) (hr : (l.length : Int) ≥ room) : Calls Try.prog 46 #[.pointer (some ⟨b, 0, none⟩), x.v] w fun e w' => e = .returned (.int .i64 3) ∧ Turns [] w w' := by
  obtain ⟨g1, g2, g3, g4⟩ := badQ_no hb
  have g5 : decide (posQ l x.id ≥ 0) = false := decide_eq_false hp
  have g6 := decide_eq_true hr
  have T := (Turns.refl [] w).alloc (.cells #[.int .i64 x.id, .int .i64 x.key, .int .i64 x.cost, .int .i64 x.cls, .int .i64 x.until_] 34)
  obtain ⟨A, c, rfl, _⟩ := (h.sep.own 1 rfl).form
  have Ph := Lib.hid (place_is _ b room _ l x.id (((h.sep.turns T)).got [0, 1]) hn)
  have hB := h.sep.blk 0 rfl
  rw [List.length_map] at hB
  unfold It.v
  clear h hb hp hr
  go_enter Try.func46, Try.ntmps46
  go_wp2_with fail
  go_at_call 57
  refine Calls.mono (Ph.out) ?_
  rintro e w1 ⟨rfl, t1⟩
  have T1 := T.trans t1
  have c0 : World.cell? (w1) ⟨b, 0, none⟩ = some _ := (hB.turns T1 (by simp)).cell 0
  have c1 : World.cell? (w1) ⟨b, 1, none⟩ = some _ := (hB.turns T1 (by simp)).cell 1
  go_wp2_with fail
  go_quiet (fail)
  have T2 := T1.drewN nq
  generalize w1.drewN nq = w2 at *
  go_wp2_with fail
  go_ret
  exact ⟨rfl, T2⟩
end Go.Proofs.Ytoojemdehmabhaa.Qj
