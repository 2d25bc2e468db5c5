/- The walks of package queue: the predicates of Of and Expire; Expire. -/
import Derived.Test.YtoojemdehmabhaaQe
set_option linter.unusedVariables false
set_option linter.unusedSimpArgs false
set_option maxRecDepth 100000
namespace Go.Proofs.Ytoojemdehmabhaa.Qf
open Go.RowKit Go.MapKept Go.Shelf Hm Hs Hf Hg Hx Hy Hv Qa Qb Qc Qd Qe
/-- several things as one -/
def tAll (l : List Th) : Th := ⟨fps l, fun w => (∀ T ∈ l, T.ok w) ∧ l.Pairwise Apart, fun h k hk => by
  obtain ⟨T, hT, hk⟩ := mem_fps.1 hk
  exact T.lt (h.1 T hT) k hk, fun h hm => ⟨fun T hT => T.mv (h.1 T hT) (fun k hk => hm k (mem_fps.2 ⟨T, hT, hk⟩)), h.2⟩⟩
theorem fps_one (T : Th) : fps [T] = T.fp := by simp [fps]
theorem all_shut {F : List Nat} {w0 w : World} {l : List Th} (H : Sep F w0 l w) : Sep F w0 [tAll l] w :=
  ⟨H.t, by simpa using (show (tAll l).ok w from ⟨H.ok, H.ap⟩), by simp, fun k hk => H.mine k (by simpa [fps, tAll] using hk)⟩
theorem oneIt {w : World} {b : Nat} {x : It} (h : Blk w b #[.int .i64 x.id, .int .i64 x.key, .int .i64 x.cost, .int .i64 x.cls, .int .i64 x.until_] 34) : RdS 5 w (.slice (some ⟨b, 0, none⟩) 1 1) ([x].map It.cells) :=
  RdS.of_cells (rows := [x].map It.cells) h rfl (by simp [It.cells]) 1 (by simp) (by decide)
theorem ofFn_is (w : World) (x : It) (key : Int) (g : Nat) (hg : w.cell? ⟨g, 0, none⟩ = some (.int .i64 key)) : Calls Try.prog 83 #[x.v, .pointer (some ⟨g, 0, none⟩)] w fun e w' => e = .returned (.bool (x.key != key)) ∧ Turns [] w w' := by
  have c0 : ∀ o, (w.alloc o).cell? ⟨g, 0, none⟩ = some (.int .i64 key) := fun o => ((Turns.refl [] w).alloc o).old hg
  unfold It.v
  go_enter Try.func83, Try.ntmps83
  go_wp2_with fail
  go_ret
  exact ⟨rfl, (Turns.refl _ _).alloc _⟩
theorem of_says (key : Int) (g : Nat) : Says Try.prog 83 #[.pointer (some ⟨g, 0, none⟩)] (fun x => x.key != key) (fun _ T => T = tBlk g #[.int .i64 key] 3) := by
  rintro s T W x _ rfl hok
  have hb : Blk W g #[.int .i64 key] 3 := hok
  refine (ofFn_is W x key g (hb.cell 0)).mono ?_
  rintro e w' ⟨rfl, t⟩
  exact ⟨rfl, _, rfl, (Got.one (T := tBlk g #[.int .i64 key] 3) hok).sep.turns t⟩
/-- what Expire's predicate holds -/
def ExpSt (now : Int) (g1 g2 : Nat) (s : List It) (T : Th) : Prop := ∃ ov, T = tAll [tBlk g1 #[.int .i64 now] 3, tBlk g2 #[ov] 37, tIt ov (s.filter fun x => decide (x.until_ ≤ now))]
set_option maxHeartbeats 1000000 in
theorem exp_one (w : World) (now : Int) (g1 g2 : Nat) (ov : Value) (l : List It) (x : It) (h : Got [tBlk g1 #[.int .i64 now] 3, tBlk g2 #[ov] 37, tIt ov l] w) (hn : l.length ≤ 100000) :
    Calls Try.prog 88 #[x.v, .pointer (some ⟨g1, 0, none⟩), .pointer (some ⟨g2, 0, none⟩)] w fun e w' => e = .returned (.bool (decide (x.until_ ≤ now))) ∧ ∃ ov', Sep (fps [tBlk g1 #[.int .i64 now] 3, tBlk g2 #[ov] 37, tIt ov l]) w [tBlk g1 #[.int .i64 now] 3, tBlk g2 #[ov'] 37, tIt ov' (if x.until_ ≤ now then l ++ [x] else l)] w' := by
  have H := h.sep
  generalize hFF : fps [tBlk g1 #[.int .i64 now] 3, tBlk g2 #[ov] 37, tIt ov l] = FF at H ⊢
  obtain ⟨A, c, rfl, _⟩ := (H.own 2 rfl).form
  rw [List.length_map] at H
  clear h hFF
  unfold It.v
  have N1 := H.blk 0 rfl
  have N2 := H.blk 1 rfl
  replace H := H.alloc #[.int .i64 x.id, .int .i64 x.key, .int .i64 x.cost, .int .i64 x.cls, .int .i64 x.until_] 34
  generalize hxb : w.heap.size = xb at H
  have hxbh := Lib.hid hxb
  by_cases hu : x.until_ ≤ now
  · have g0 := decide_eq_true hu
    rw [if_pos hu, g0]
    clear hu
    subst hxb
    clear hxbh
    replace H := H.alloc #[.int .i64 x.id, .int .i64 x.key, .int .i64 x.cost, .int .i64 x.cls, .int .i64 x.until_] 34
    rw [World.size_alloc] at H
    have hs2h := Lib.hid (oneIt (H.blk 0 rfl))
    have n1 : (w.alloc (.cells #[.int .i64 x.id, .int .i64 x.key, .int .i64 x.cost, .int .i64 x.cls, .int .i64 x.until_] 34)).cell? ⟨g1, 0, none⟩ = some (.int .i64 now) := by
      exact (N1.alloc _).cell 0
    have n2 : (w.alloc (.cells #[.int .i64 x.id, .int .i64 x.key, .int .i64 x.cost, .int .i64 x.cls, .int .i64 x.until_] 34)).cell? ⟨g2, 0, none⟩ = some (.slice A l.length c) := (N2.alloc _).cell 0
    have hHh := Lib.hid H
    clear H N1 N2
    go_enter Try.func88, Try.ntmps88
    go_wp2_with (at_builtin; refine stop_ ?_)
    refine Mk_.mk ?_
    refine hHh.out.append 4 rfl hs2h.out (l.length + 1) (by simp) ((l ++ [x]).map It.cells) (by rw [List.map_append]) rfl _ _ _ rfl (.agg #[.int .i64 0, .int .i64 0, .int .i64 0, .int .i64 0, .int .i64 0]) 40 Try.underlying37 infoQ rfl (by decide) rfl rfl (icells_one _) (by omega) (by omega) ?_
    clear hHh hs2h n1 n2
    intro N c3 wn H tn _
    clear tn
    have c0 : World.cell? (wn) ⟨g2, 0, none⟩ = some _ := (H.blk 3 rfl).cell 0
    have cf0 : World.frozen? (wn) ⟨g2, 0, none⟩ = false := (H.blk 3 rfl).frozen 0
    replace H := H.set 3 rfl 0 (.slice N (l.length + 1) c3)
    have n0 : World.cell? (wn.setCell ⟨g2, 0, none⟩ (.slice N (l.length + 1) c3)) ⟨g1, 0, none⟩ = some _ := (H.blk 2 rfl).cell 0
    have x4 : World.cell? (wn.setCell ⟨g2, 0, none⟩ (.slice N (l.length + 1) c3)) ⟨w.heap.size, 4, none⟩ = some _ := (H.blk 1 rfl).cell 4
    replace H := H.keep [2, 3, 4]
    have hHh := Lib.hid H
    clear H
    go_wp2_with fail
    go_ret
    exact ⟨rfl, _, hHh.out⟩
  · have g0 : decide (x.until_ ≤ now) = false := decide_eq_false hu
    rw [if_neg hu, g0]
    subst hxb
    have n0 : World.cell? (w.alloc (.cells #[.int .i64 x.id, .int .i64 x.key, .int .i64 x.cost, .int .i64 x.cls, .int .i64 x.until_] 34)) ⟨g1, 0, none⟩ = some _ := (H.blk 1 rfl).cell 0
    replace H := H.keep [1, 2, 3]
    clear hu hxbh N1 N2
    have hHh := Lib.hid H
    clear H
    go_enter Try.func88, Try.ntmps88
    go_wp2_with fail
    go_ret
    exact ⟨rfl, _, hHh.out⟩
theorem exp_says (now : Int) (g1 g2 : Nat) : Says Try.prog 88 #[.pointer (some ⟨g1, 0, none⟩), .pointer (some ⟨g2, 0, none⟩)] (fun x => decide (x.until_ ≤ now)) (ExpSt now g1 g2) := by
  rintro s T W x hs ⟨ov, rfl⟩ hok
  have hl := List.length_filter_le (fun x : It => decide (x.until_ ≤ now)) s
  refine (exp_one W now g1 g2 ov _ x (Got.mk hok.1 hok.2) (by omega)).mono ?_
  rintro e w' ⟨rfl, ov', H⟩
  refine ⟨rfl, _, ⟨ov', rfl⟩, ?_⟩
  have e1 : (s ++ [x]).filter (fun x => decide (x.until_ ≤ now)) = if x.until_ ≤ now then s.filter (fun x => decide (x.until_ ≤ now)) ++ [x] else s.filter (fun x => decide (x.until_ ≤ now)) := by
    rw [List.filter_append]
    by_cases h : x.until_ ≤ now <;> simp [h]
  rw [e1, fps_one]
  exact all_shut H
end Go.Proofs.Ytoojemdehmabhaa.Qf
