/- The walks of package relay: Drop. -/
import Derived.Test.YtohokckpheljbaaGd
import Derived.Test.YtohokckpheljbaaHw
set_option linter.unusedVariables false
set_option linter.unusedSimpArgs false
set_option maxRecDepth 100000
namespace Go.Proofs.Ytohokckpheljbaa.Ge
open Go.RowKit Go.MapKept Go.Shelf Hm Hs Hf Hg Hw Hx Hy Hv Fa Fb Ff Fg Fi Fj Fq Fr_ Ga Gb Gc Gd
/-- all but the last one turn nothing -/
structure Kl (n : Nat) (w W : World) (j : Nat) : Prop where
  out : j ≠ n → Turns [] w W
theorem drop_nil (w : World) (g h : Int) : Calls Try.prog 15 #[.pointer none, .agg #[.int .i64 g, .int .i64 h]] w fun e w' => e = .returned (.bool false) ∧ Turns [] w w' := by
  have T := ((Turns.refl [] w).alloc (.cells #[.int .i64 g, .int .i64 h] 52)).drew
  go_enter Try.func15, Try.ntmps15
  go_wp2_with fail
  go_wp2_with fail
  refine wp_region_flo4 [(0, true, [], [[19, 9, 2, 1], [20, 9, 2, 1], [21, 9, 2, 1]]), (1, true, [], [[19, 9, 2], [20, 9, 2], [21, 9, 2]]), (2, true, [], [[19, 9], [20, 9], [21, 9]]), (3, true, [], [[19, 9, 8, 7, 6, 5, 4], [20, 9, 8, 7, 6, 5, 4], [21, 9, 8, 7, 6, 5, 4]]), (4, true, [], [[19, 9, 8, 7, 6, 5], [20, 9, 8, 7, 6, 5], [21, 9, 8, 7, 6, 5]]), (5, true, [], [[19, 9, 8, 7, 6], [20, 9, 8, 7, 6], [21, 9, 8, 7, 6]]), (6, true, [], [[19, 9, 8, 7], [20, 9, 8, 7], [21, 9, 8, 7]]), (7, true, [], [[19, 9, 8], [20, 9, 8], [21, 9, 8]]), (8, true, [], [[19, 9], [20, 9], [21, 9]]), (9, true, [], []), (10, true, [19, 20], []), (11, true, [19], [[21, 20]]), (12, true, [], [[19, 18, 17, 16, 15, 14, 13], [20, 19, 18, 17, 16, 15, 14, 13], [21, 20, 19, 18, 17, 16, 15, 14, 13]]), (13, true, [], [[19, 18, 17, 16, 15, 14], [20, 19, 18, 17, 16, 15, 14], [21, 20, 19, 18, 17, 16, 15, 14]]), (14, true, [], [[19, 18, 17, 16, 15], [20, 19, 18, 17, 16, 15], [21, 20, 19, 18, 17, 16, 15]]), (15, true, [], [[19, 18, 17, 16], [20, 19, 18, 17, 16], [21, 20, 19, 18, 17, 16]]), (16, true, [], [[19, 18, 17], [20, 19, 18, 17], [21, 20, 19, 18, 17]]), (17, true, [], [[19, 18], [20, 19, 18], [21, 20, 19, 18]]), (18, true, [], [[20, 19], [21, 20, 19]]), (19, false, [], []), (20, false, [], []), (21, false, [], []), (22, true, [], []), (23, true, [], [])] (fun j W => True) (by kernel_rfl) rfl (by kernel_rfl) (by intro c d v a w h; cases d <;> first | (simpa [Exit.then, Exit.inBlock, Act.put] using h) | exact h) ?_
  generalize (w.alloc (.cells #[.int .i64 g, .int .i64 h] 52)).drew = w1 at *
  refine flo4_read _ rfl (fun W => True) (trivial) (fun j hj W hW => trivial) (fun K hK => ?_)
  go_simp
  first | (refine hK _ ?_) | (refine ⟨fun W hS => ?_, hK _ ?_⟩; · (skip; try go_simp))
  clear hK K
  refine flo4_read _ rfl (fun W => True) (trivial) (fun j hj W hW => trivial) (fun K hK => ?_)
  go_simp
  first | (refine hK _ ?_) | (refine ⟨fun W hS => ?_, hK _ ?_⟩; · (skip; try go_simp))
  clear hK K
  refine flo4_read _ rfl (fun W => True) (trivial) (fun j hj W hW => trivial) (fun K hK => ?_)
  go_simp
  first | (refine hK _ ?_) | (refine ⟨fun W hS => ?_, hK _ ?_⟩; · (skip; try go_simp))
  clear hK K
  refine flo4_read _ rfl (fun W => True) (trivial) (fun j hj W hW => trivial) (fun K hK => ?_)
  go_simp
  first | (refine hK _ ?_) | (refine ⟨fun W hS => ?_, hK _ ?_⟩; · (skip; try go_simp))
  clear hK K
  refine flo4_read _ rfl (fun W => True) (trivial) (fun j hj W hW => trivial) (fun K hK => ?_)
  go_simp
  first | (refine hK _ ?_) | (refine ⟨fun W hS => ?_, hK _ ?_⟩; · (skip; try go_simp))
  clear hK K
  refine flo4_read _ rfl (fun W => True) (trivial) (fun j hj W hW => trivial) (fun K hK => ?_)
  go_simp
  first | (refine hK _ ?_) | (refine ⟨fun W hS => ?_, hK _ ?_⟩; · (skip; try go_simp))
  clear hK K
  refine flo4_read _ rfl (fun W => True) (trivial) (fun j hj W hW => trivial) (fun K hK => ?_)
  go_simp
  first | (refine hK _ ?_) | (refine ⟨fun W hS => ?_, hK _ ?_⟩; · (skip; try go_simp))
  clear hK K
  refine flo4_read _ rfl (fun W => True) (trivial) (fun j hj W hW => trivial) (fun K hK => ?_)
  go_simp
  first | (refine hK _ ?_) | (refine ⟨fun W hS => ?_, hK _ ?_⟩; · (skip; try go_simp))
  clear hK K
  refine flo4_read _ rfl (fun W => True) (trivial) (fun j hj W hW => trivial) (fun K hK => ?_)
  go_simp
  first | (refine hK _ ?_) | (refine ⟨fun W hS => ?_, hK _ ?_⟩; · (skip; try go_simp))
  clear hK K
  refine flo4_read _ rfl (fun W => True) (trivial) (fun j hj W hW => trivial) (fun K hK => ?_)
  go_simp
  first | (refine hK _ ?_) | (refine ⟨fun W hS => ?_, hK _ ?_⟩; · (skip; try go_simp))
  clear hK K
  refine flo4_read _ rfl (fun W => True) (trivial) (fun j hj W hW => trivial) (fun K hK => ?_)
  go_simp
  first | (refine hK _ ?_) | (refine ⟨fun W hS => ?_, hK _ ?_⟩; · (skip; try go_simp))
  clear hK K
  refine flo4_read _ rfl (fun W => True) (trivial) (fun j hj W hW => trivial) (fun K hK => ?_)
  go_simp
  first | (refine hK _ ?_) | (refine ⟨fun W hS => ?_, hK _ ?_⟩; · (skip; try go_simp))
  clear hK K
  refine flo4_read _ rfl (fun W => True) (trivial) (fun j hj W hW => trivial) (fun K hK => ?_)
  go_simp
  first | (refine hK _ ?_) | (refine ⟨fun W hS => ?_, hK _ ?_⟩; · (skip; try go_simp))
  clear hK K
  refine flo4_read _ rfl (fun W => True) (trivial) (fun j hj W hW => trivial) (fun K hK => ?_)
  go_simp
  first | (refine hK _ ?_) | (refine ⟨fun W hS => ?_, hK _ ?_⟩; · (skip; try go_simp))
  clear hK K
  refine flo4_read _ rfl (fun W => True) (trivial) (fun j hj W hW => trivial) (fun K hK => ?_)
  go_simp
  first | (refine hK _ ?_) | (refine ⟨fun W hS => ?_, hK _ ?_⟩; · (skip; try go_simp))
  clear hK K
  refine flo4_read _ rfl (fun W => True) (trivial) (fun j hj W hW => trivial) (fun K hK => ?_)
  go_simp
  first | (refine hK _ ?_) | (refine ⟨fun W hS => ?_, hK _ ?_⟩; · (skip; try go_simp))
  clear hK K
  refine flo4_read _ rfl (fun W => True) (trivial) (fun j hj W hW => trivial) (fun K hK => ?_)
  go_simp
  first | (refine hK _ ?_) | (refine ⟨fun W hS => ?_, hK _ ?_⟩; · (skip; try go_simp))
  clear hK K
  refine flo4_read _ rfl (fun W => True) (trivial) (fun j hj W hW => trivial) (fun K hK => ?_)
  go_simp
  first | (refine hK _ ?_) | (refine ⟨fun W hS => ?_, hK _ ?_⟩; · (skip; try go_simp))
  clear hK K
  refine flo4_read _ rfl (fun W => True) (trivial) (fun j hj W hW => trivial) (fun K hK => ?_)
  go_simp
  first | (refine hK _ ?_) | (refine ⟨fun W hS => ?_, hK _ ?_⟩; · (skip; try go_simp))
  clear hK K
  refine flo4_alone _ rfl ?_
  go_wp2_with fail
  refine ⟨trivial, _, fun _ _ h => h, ?_⟩
  refine flo4_alone _ rfl ?_
  go_wp2_with fail
  refine ⟨trivial, _, fun _ _ h => h, ?_⟩
  refine flo4_alone _ rfl ?_
  go_wp2_with fail
  refine ⟨trivial, _, fun _ _ h => h, ?_⟩
  refine flo4_read _ rfl (fun W => True) (trivial) (fun j hj W hW => trivial) (fun K hK => ?_)
  go_simp
  first | (refine hK _ ?_) | (refine ⟨fun W hS => ?_, hK _ ?_⟩; · (skip; try go_simp))
  clear hK K
  refine flo4_read _ rfl (fun W => True) (trivial) (fun j hj W hW => trivial) (fun K hK => ?_)
  go_simp
  first | (refine hK _ ?_) | (refine ⟨fun W hS => ?_, hK _ ?_⟩; · (skip; try go_simp))
  clear hK K
  refine flo4_end ?_
  go_wp2_with fail
  go_ret
  exact ⟨rfl, T⟩
theorem drop_none (m : Nat) (w : World) (b : Nat) (cnt g h : Int) (hr : IsRelay m w b cnt none) : Calls Try.prog 15 #[.pointer (some ⟨b, 0, none⟩), .agg #[.int .i64 g, .int .i64 h]] w fun e w' => e = .returned (.bool false) ∧ Turns [] w w' := by
  have T := ((Turns.refl [] w).alloc (.cells #[.int .i64 g, .int .i64 h] 52)).drew
  have hc : w.cell? ⟨b, 0, none⟩ = some (.pointer none) := by
    cases hr with
    | none hm h => exact h.cell 0
  have c0 := T.old hc
  clear hr hc
  go_enter Try.func15, Try.ntmps15
  go_wp2_with fail
  go_wp2_with fail
  refine wp_region_flo4 [(0, true, [], [[19, 9, 2, 1], [20, 9, 2, 1], [21, 9, 2, 1]]), (1, true, [], [[19, 9, 2], [20, 9, 2], [21, 9, 2]]), (2, true, [], [[19, 9], [20, 9], [21, 9]]), (3, true, [], [[19, 9, 8, 7, 6, 5, 4], [20, 9, 8, 7, 6, 5, 4], [21, 9, 8, 7, 6, 5, 4]]), (4, true, [], [[19, 9, 8, 7, 6, 5], [20, 9, 8, 7, 6, 5], [21, 9, 8, 7, 6, 5]]), (5, true, [], [[19, 9, 8, 7, 6], [20, 9, 8, 7, 6], [21, 9, 8, 7, 6]]), (6, true, [], [[19, 9, 8, 7], [20, 9, 8, 7], [21, 9, 8, 7]]), (7, true, [], [[19, 9, 8], [20, 9, 8], [21, 9, 8]]), (8, true, [], [[19, 9], [20, 9], [21, 9]]), (9, true, [], []), (10, true, [19, 20], []), (11, true, [19], [[21, 20]]), (12, true, [], [[19, 18, 17, 16, 15, 14, 13], [20, 19, 18, 17, 16, 15, 14, 13], [21, 20, 19, 18, 17, 16, 15, 14, 13]]), (13, true, [], [[19, 18, 17, 16, 15, 14], [20, 19, 18, 17, 16, 15, 14], [21, 20, 19, 18, 17, 16, 15, 14]]), (14, true, [], [[19, 18, 17, 16, 15], [20, 19, 18, 17, 16, 15], [21, 20, 19, 18, 17, 16, 15]]), (15, true, [], [[19, 18, 17, 16], [20, 19, 18, 17, 16], [21, 20, 19, 18, 17, 16]]), (16, true, [], [[19, 18, 17], [20, 19, 18, 17], [21, 20, 19, 18, 17]]), (17, true, [], [[19, 18], [20, 19, 18], [21, 20, 19, 18]]), (18, true, [], [[20, 19], [21, 20, 19]]), (19, false, [], []), (20, false, [], []), (21, false, [], []), (22, true, [], []), (23, true, [], [])] (fun j W => True) (by kernel_rfl) rfl (by kernel_rfl) (by intro c d v a w h; cases d <;> first | (simpa [Exit.then, Exit.inBlock, Act.put] using h) | exact h) ?_
  generalize (w.alloc (.cells #[.int .i64 g, .int .i64 h] 52)).drew = w1 at *
  refine flo4_read _ rfl (fun W => True) (trivial) (fun j hj W hW => trivial) (fun K hK => ?_)
  go_simp
  first | (refine hK _ ?_) | (refine ⟨fun W hS => ?_, hK _ ?_⟩; · (skip; try go_simp))
  clear hK K
  refine flo4_read _ rfl (fun W => True) (trivial) (fun j hj W hW => trivial) (fun K hK => ?_)
  go_simp
  first | (refine hK _ ?_) | (refine ⟨fun W hS => ?_, hK _ ?_⟩; · (skip; try go_simp))
  clear hK K
  refine flo4_read _ rfl (fun W => True) (trivial) (fun j hj W hW => trivial) (fun K hK => ?_)
  go_simp
  first | (refine hK _ ?_) | (refine ⟨fun W hS => ?_, hK _ ?_⟩; · (skip; try go_simp))
  clear hK K
  refine flo4_read _ rfl (fun W => True) (trivial) (fun j hj W hW => trivial) (fun K hK => ?_)
  go_simp
  first | (refine hK _ ?_) | (refine ⟨fun W hS => ?_, hK _ ?_⟩; · (skip; try go_simp))
  clear hK K
  refine flo4_read _ rfl (fun W => True) (trivial) (fun j hj W hW => trivial) (fun K hK => ?_)
  go_simp
  first | (refine hK _ ?_) | (refine ⟨fun W hS => ?_, hK _ ?_⟩; · (skip; try go_simp))
  clear hK K
  refine flo4_read _ rfl (fun W => True) (trivial) (fun j hj W hW => trivial) (fun K hK => ?_)
  go_simp
  first | (refine hK _ ?_) | (refine ⟨fun W hS => ?_, hK _ ?_⟩; · (skip; try go_simp))
  clear hK K
  refine flo4_read _ rfl (fun W => W = w1) (rfl) (fun j hj => by simp at hj) (fun K hK => ?_)
  go_simp
  first | (refine hK _ ?_) | (refine ⟨fun W hS => ?_, hK _ ?_⟩; · (subst hS; try go_simp))
  clear hK K
  refine flo4_read _ rfl (fun W => True) (trivial) (fun j hj W hW => trivial) (fun K hK => ?_)
  go_simp
  first | (refine hK _ ?_) | (refine ⟨fun W hS => ?_, hK _ ?_⟩; · (skip; try go_simp))
  clear hK K
  refine flo4_read _ rfl (fun W => True) (trivial) (fun j hj W hW => trivial) (fun K hK => ?_)
  go_simp
  first | (refine hK _ ?_) | (refine ⟨fun W hS => ?_, hK _ ?_⟩; · (skip; try go_simp))
  clear hK K
  refine flo4_read _ rfl (fun W => True) (trivial) (fun j hj W hW => trivial) (fun K hK => ?_)
  go_simp
  first | (refine hK _ ?_) | (refine ⟨fun W hS => ?_, hK _ ?_⟩; · (skip; try go_simp))
  clear hK K
  refine flo4_read _ rfl (fun W => True) (trivial) (fun j hj W hW => trivial) (fun K hK => ?_)
  go_simp
  first | (refine hK _ ?_) | (refine ⟨fun W hS => ?_, hK _ ?_⟩; · (skip; try go_simp))
  clear hK K
  refine flo4_read _ rfl (fun W => True) (trivial) (fun j hj W hW => trivial) (fun K hK => ?_)
  go_simp
  first | (refine hK _ ?_) | (refine ⟨fun W hS => ?_, hK _ ?_⟩; · (skip; try go_simp))
  clear hK K
  refine flo4_read _ rfl (fun W => True) (trivial) (fun j hj W hW => trivial) (fun K hK => ?_)
  go_simp
  first | (refine hK _ ?_) | (refine ⟨fun W hS => ?_, hK _ ?_⟩; · (skip; try go_simp))
  clear hK K
  refine flo4_read _ rfl (fun W => True) (trivial) (fun j hj W hW => trivial) (fun K hK => ?_)
  go_simp
  first | (refine hK _ ?_) | (refine ⟨fun W hS => ?_, hK _ ?_⟩; · (skip; try go_simp))
  clear hK K
  refine flo4_read _ rfl (fun W => True) (trivial) (fun j hj W hW => trivial) (fun K hK => ?_)
  go_simp
  first | (refine hK _ ?_) | (refine ⟨fun W hS => ?_, hK _ ?_⟩; · (skip; try go_simp))
  clear hK K
  refine flo4_read _ rfl (fun W => True) (trivial) (fun j hj W hW => trivial) (fun K hK => ?_)
  go_simp
  first | (refine hK _ ?_) | (refine ⟨fun W hS => ?_, hK _ ?_⟩; · (skip; try go_simp))
  clear hK K
  refine flo4_read _ rfl (fun W => True) (trivial) (fun j hj W hW => trivial) (fun K hK => ?_)
  go_simp
  first | (refine hK _ ?_) | (refine ⟨fun W hS => ?_, hK _ ?_⟩; · (skip; try go_simp))
  clear hK K
  refine flo4_read _ rfl (fun W => True) (trivial) (fun j hj W hW => trivial) (fun K hK => ?_)
  go_simp
  first | (refine hK _ ?_) | (refine ⟨fun W hS => ?_, hK _ ?_⟩; · (skip; try go_simp))
  clear hK K
  refine flo4_read _ rfl (fun W => True) (trivial) (fun j hj W hW => trivial) (fun K hK => ?_)
  go_simp
  first | (refine hK _ ?_) | (refine ⟨fun W hS => ?_, hK _ ?_⟩; · (skip; try go_simp))
  clear hK K
  refine flo4_alone _ rfl ?_
  go_wp2_with fail
  refine ⟨trivial, _, fun _ _ h => h, ?_⟩
  refine flo4_alone _ rfl ?_
  go_wp2_with fail
  refine ⟨trivial, _, fun _ _ h => h, ?_⟩
  refine flo4_alone _ rfl ?_
  go_wp2_with fail
  refine ⟨trivial, _, fun _ _ h => h, ?_⟩
  refine flo4_read _ rfl (fun W => True) (trivial) (fun j hj W hW => trivial) (fun K hK => ?_)
  go_simp
  first | (refine hK _ ?_) | (refine ⟨fun W hS => ?_, hK _ ?_⟩; · (skip; try go_simp))
  clear hK K
  refine flo4_read _ rfl (fun W => True) (trivial) (fun j hj W hW => trivial) (fun K hK => ?_)
  go_simp
  first | (refine hK _ ?_) | (refine ⟨fun W hS => ?_, hK _ ?_⟩; · (skip; try go_simp))
  clear hK K
  refine flo4_end ?_
  go_wp2_with fail
  go_ret
  exact ⟨rfl, T⟩
set_option maxHeartbeats 1000000 in
theorem drop_some (m : Nat) (w : World) (b : Nat) (cnt g h : Int) (f : Fr) (hr : IsRelay m w b cnt (some f)) : Calls Try.prog 15 #[.pointer (some ⟨b, 0, none⟩), .agg #[.int .i64 g, .int .i64 h]] w fun e w' => e = .returned (.bool (newerB g h f.tok.gen f.tok.hop)) ∧ IsRelay m w' b cnt (relO (some f) (newerB g h f.tok.gen f.tok.hop)) ∧ Turns [b] w w' := by
  have T := ((Turns.refl [] w).alloc (.cells #[.int .i64 g, .int .i64 h] 52)).drew
  have hr1 := hr.turns T
  have B1 := (Blk.new w #[.int .i64 g, .int .i64 h] 52).drew
  obtain ⟨hb, sv, rv, hB, hh⟩ : ∃ hb sv rv, Blk (w.alloc (.cells #[.int .i64 g, .int .i64 h] 52)).drew b #[.pointer (some ⟨hb, 0, none⟩), .int .i64 cnt] 74 ∧ HeldAt (w.alloc (.cells #[.int .i64 g, .int .i64 h] 52)).drew m hb f sv rv := by
    cases hr1 with
    | some hm f hb sv rv h hh => exact ⟨hb, sv, rv, h, hh⟩
  have At := Lib.hid (fun W (t : Turns [] (w.alloc (.cells #[.int .i64 g, .int .i64 h] 52)).drew W) => at_is W f.tok sv rv (hh.tok.tok.turns t))
  have Nw := Lib.hid (fun W => newer_is W g h f.tok.gen f.tok.hop)
  generalize newerB g h f.tok.gen f.tok.hop = q at *
  have Rl := Lib.hid (fun W (h : IsRelay m W b cnt (some f)) => release_is m W b cnt (some f) q h)
  obtain ⟨A1, c1, rfl, _⟩ := rform hh.tok.st
  obtain ⟨A3, c3, rfl, _⟩ := hh.tok.tok.rows.form
  have hr1h := Lib.hid hr1
  unfold tkv at At
  clear hr hr1
  go_enter Try.func15, Try.ntmps15
  go_wp2_with fail
  go_wp2_with fail
  refine wp_region_flo4 [(0, true, [], [[19, 9, 2, 1], [20, 9, 2, 1], [21, 9, 2, 1]]), (1, true, [], [[19, 9, 2], [20, 9, 2], [21, 9, 2]]), (2, true, [], [[19, 9], [20, 9], [21, 9]]), (3, true, [], [[19, 9, 8, 7, 6, 5, 4], [20, 9, 8, 7, 6, 5, 4], [21, 9, 8, 7, 6, 5, 4]]), (4, true, [], [[19, 9, 8, 7, 6, 5], [20, 9, 8, 7, 6, 5], [21, 9, 8, 7, 6, 5]]), (5, true, [], [[19, 9, 8, 7, 6], [20, 9, 8, 7, 6], [21, 9, 8, 7, 6]]), (6, true, [], [[19, 9, 8, 7], [20, 9, 8, 7], [21, 9, 8, 7]]), (7, true, [], [[19, 9, 8], [20, 9, 8], [21, 9, 8]]), (8, true, [], [[19, 9], [20, 9], [21, 9]]), (9, true, [], []), (10, true, [19, 20], []), (11, true, [19], [[21, 20]]), (12, true, [], [[19, 18, 17, 16, 15, 14, 13], [20, 19, 18, 17, 16, 15, 14, 13], [21, 20, 19, 18, 17, 16, 15, 14, 13]]), (13, true, [], [[19, 18, 17, 16, 15, 14], [20, 19, 18, 17, 16, 15, 14], [21, 20, 19, 18, 17, 16, 15, 14]]), (14, true, [], [[19, 18, 17, 16, 15], [20, 19, 18, 17, 16, 15], [21, 20, 19, 18, 17, 16, 15]]), (15, true, [], [[19, 18, 17, 16], [20, 19, 18, 17, 16], [21, 20, 19, 18, 17, 16]]), (16, true, [], [[19, 18, 17], [20, 19, 18, 17], [21, 20, 19, 18, 17]]), (17, true, [], [[19, 18], [20, 19, 18], [21, 20, 19, 18]]), (18, true, [], [[20, 19], [21, 20, 19]]), (19, false, [], []), (20, false, [], []), (21, false, [], []), (22, true, [], []), (23, true, [], [])] (fun j W => Kl 21 (w.alloc (.cells #[.int .i64 g, .int .i64 h] 52)).drew W j) (by kernel_rfl) rfl (by kernel_rfl) (by intro c d v a w h; cases d <;> first | (simpa [Exit.then, Exit.inBlock, Act.put] using h) | exact h) ?_
  generalize (w.alloc (.cells #[.int .i64 g, .int .i64 h] 52)).drew = w1 at *
  have c0 : World.cell? (w1) ⟨b, 0, none⟩ = some _ := (hB).cell 0
  have h6 : World.cell? (w1) ⟨hb, 6, none⟩ = some _ := (hh.blk).cell 6
  have h7 : World.cell? (w1) ⟨hb, 7, none⟩ = some _ := (hh.blk).cell 7
  have h8 : World.cell? (w1) ⟨hb, 8, none⟩ = some _ := (hh.blk).cell 8
  have h9 : World.cell? (w1) ⟨hb, 9, none⟩ = some _ := (hh.blk).cell 9
  have h10 : World.cell? (w1) ⟨hb, 10, none⟩ = some _ := (hh.blk).cell 10
  have p0 : World.cell? (w1) ⟨w.heap.size, 0, none⟩ = some _ := (B1).cell 0
  have p1 : World.cell? (w1) ⟨w.heap.size, 1, none⟩ = some _ := (B1).cell 1
  refine flo4_read _ rfl (fun W => Turns [] w1 W) (Turns.refl _ _) (fun j hj W hW => hW.out (by simp at hj <;> omega)) (fun K hK => ?_)
  go_simp
  first | (refine hK _ ?_) | (refine ⟨fun W hS => ?_, hK _ ?_⟩; · (have C0 := hS.old c0; have X6 := hS.old h6; have X7 := hS.old h7; have X8 := hS.old h8; have X9 := hS.old h9; have X10 := hS.old h10; have P0 := hS.old p0; have P1 := hS.old p1; try go_simp))
  clear hK K
  refine flo4_read _ rfl (fun W => Turns [] w1 W) (Turns.refl _ _) (fun j hj W hW => hW.out (by simp at hj <;> omega)) (fun K hK => ?_)
  go_simp
  first | (refine hK _ ?_) | (refine ⟨fun W hS => ?_, hK _ ?_⟩; · (have C0 := hS.old c0; have X6 := hS.old h6; have X7 := hS.old h7; have X8 := hS.old h8; have X9 := hS.old h9; have X10 := hS.old h10; have P0 := hS.old p0; have P1 := hS.old p1; try go_simp))
  clear hK K
  refine flo4_read _ rfl (fun W => Turns [] w1 W) (Turns.refl _ _) (fun j hj W hW => hW.out (by simp at hj <;> omega)) (fun K hK => ?_)
  go_simp
  first | (refine hK _ ?_) | (refine ⟨fun W hS => ?_, hK _ ?_⟩; · (have C0 := hS.old c0; have X6 := hS.old h6; have X7 := hS.old h7; have X8 := hS.old h8; have X9 := hS.old h9; have X10 := hS.old h10; have P0 := hS.old p0; have P1 := hS.old p1; try go_simp))
  clear hK K
  refine flo4_read _ rfl (fun W => Turns [] w1 W) (Turns.refl _ _) (fun j hj W hW => hW.out (by simp at hj <;> omega)) (fun K hK => ?_)
  go_simp
  first | (refine hK _ ?_) | (refine ⟨fun W hS => ?_, hK _ ?_⟩; · (have C0 := hS.old c0; have X6 := hS.old h6; have X7 := hS.old h7; have X8 := hS.old h8; have X9 := hS.old h9; have X10 := hS.old h10; have P0 := hS.old p0; have P1 := hS.old p1; try go_simp))
  clear hK K
  refine flo4_read _ rfl (fun W => Turns [] w1 W) (Turns.refl _ _) (fun j hj W hW => hW.out (by simp at hj <;> omega)) (fun K hK => ?_)
  go_simp
  first | (refine hK _ ?_) | (refine ⟨fun W hS => ?_, hK _ ?_⟩; · (have C0 := hS.old c0; have X6 := hS.old h6; have X7 := hS.old h7; have X8 := hS.old h8; have X9 := hS.old h9; have X10 := hS.old h10; have P0 := hS.old p0; have P1 := hS.old p1; try go_simp))
  clear hK K
  refine flo4_read _ rfl (fun W => Turns [] w1 W) (Turns.refl _ _) (fun j hj W hW => hW.out (by simp at hj <;> omega)) (fun K hK => ?_)
  go_simp
  first | (refine hK _ ?_) | (refine ⟨fun W hS => ?_, hK _ ?_⟩; · (have C0 := hS.old c0; have X6 := hS.old h6; have X7 := hS.old h7; have X8 := hS.old h8; have X9 := hS.old h9; have X10 := hS.old h10; have P0 := hS.old p0; have P1 := hS.old p1; try go_simp))
  clear hK K
  refine flo4_read _ rfl (fun W => Turns [] w1 W) (Turns.refl _ _) (fun j hj W hW => hW.out (by simp at hj <;> omega)) (fun K hK => ?_)
  go_simp
  first | (refine hK _ ?_) | (refine ⟨fun W hS => ?_, hK _ ?_⟩; · (have C0 := hS.old c0; have X6 := hS.old h6; have X7 := hS.old h7; have X8 := hS.old h8; have X9 := hS.old h9; have X10 := hS.old h10; have P0 := hS.old p0; have P1 := hS.old p1; try go_simp))
  clear hK K
  refine flo4_read _ rfl (fun W => Turns [] w1 W) (Turns.refl _ _) (fun j hj W hW => hW.out (by simp at hj <;> omega)) (fun K hK => ?_)
  go_simp
  first | (refine hK _ ?_) | (refine ⟨fun W hS => ?_, hK _ ?_⟩; · (have C0 := hS.old c0; have X6 := hS.old h6; have X7 := hS.old h7; have X8 := hS.old h8; have X9 := hS.old h9; have X10 := hS.old h10; have P0 := hS.old p0; have P1 := hS.old p1; try go_simp))
  clear hK K
  refine flo4_read _ rfl (fun W => Turns [] w1 W) (Turns.refl _ _) (fun j hj W hW => hW.out (by simp at hj <;> omega)) (fun K hK => ?_)
  go_simp
  first | (refine hK _ ?_) | (refine ⟨fun W hS => ?_, hK _ ?_⟩; · (have C0 := hS.old c0; have X6 := hS.old h6; have X7 := hS.old h7; have X8 := hS.old h8; have X9 := hS.old h9; have X10 := hS.old h10; have P0 := hS.old p0; have P1 := hS.old p1; try go_simp))
  clear hK K
  refine flo4_read _ rfl (fun W => Turns [] w1 W) (Turns.refl _ _) (fun j hj W hW => hW.out (by simp at hj <;> omega)) (fun K hK => ?_)
  go_simp
  first | (refine hK _ ?_) | (refine ⟨fun W hS => ?_, hK _ ?_⟩; · (have C0 := hS.old c0; have X6 := hS.old h6; have X7 := hS.old h7; have X8 := hS.old h8; have X9 := hS.old h9; have X10 := hS.old h10; have P0 := hS.old p0; have P1 := hS.old p1; try go_simp))
  clear hK K
  refine flo4_read _ rfl (fun W => Turns [] w1 W) (Turns.refl _ _) (fun j hj W hW => hW.out (by simp at hj <;> omega)) (fun K hK => ?_)
  go_simp
  first | (refine hK _ ?_) | (refine ⟨fun W hS => ?_, hK _ ?_⟩; · (have C0 := hS.old c0; have X6 := hS.old h6; have X7 := hS.old h7; have X8 := hS.old h8; have X9 := hS.old h9; have X10 := hS.old h10; have P0 := hS.old p0; have P1 := hS.old p1; try go_simp))
  clear hK K
  refine flo4_read _ rfl (fun W => Turns [] w1 W) (Turns.refl _ _) (fun j hj W hW => hW.out (by simp at hj <;> omega)) (fun K hK => ?_)
  go_simp
  first | (refine hK _ ?_) | (refine ⟨fun W hS => ?_, hK _ ?_⟩; · (have C0 := hS.old c0; have X6 := hS.old h6; have X7 := hS.old h7; have X8 := hS.old h8; have X9 := hS.old h9; have X10 := hS.old h10; have P0 := hS.old p0; have P1 := hS.old p1; try go_simp))
  clear hK K
  refine flo4_read _ rfl (fun W => Turns [] w1 W) (Turns.refl _ _) (fun j hj W hW => hW.out (by simp at hj <;> omega)) (fun K hK => ?_)
  go_simp
  first | (refine hK _ ?_) | (refine ⟨fun W hS => ?_, hK _ ?_⟩; · (have C0 := hS.old c0; have X6 := hS.old h6; have X7 := hS.old h7; have X8 := hS.old h8; have X9 := hS.old h9; have X10 := hS.old h10; have P0 := hS.old p0; have P1 := hS.old p1; try go_simp))
  clear hK K
  refine flo4_read _ rfl (fun W => Turns [] w1 W) (Turns.refl _ _) (fun j hj W hW => hW.out (by simp at hj <;> omega)) (fun K hK => ?_)
  go_simp
  first | (refine hK _ ?_) | (refine ⟨fun W hS => ?_, hK _ ?_⟩; · (have C0 := hS.old c0; have X6 := hS.old h6; have X7 := hS.old h7; have X8 := hS.old h8; have X9 := hS.old h9; have X10 := hS.old h10; have P0 := hS.old p0; have P1 := hS.old p1; try go_simp))
  clear hK K
  refine flo4_read _ rfl (fun W => Turns [] w1 W) (Turns.refl _ _) (fun j hj W hW => hW.out (by simp at hj <;> omega)) (fun K hK => ?_)
  go_simp
  first | (refine hK _ ?_) | (refine ⟨fun W hS => ?_, hK _ ?_⟩; · (have C0 := hS.old c0; have X6 := hS.old h6; have X7 := hS.old h7; have X8 := hS.old h8; have X9 := hS.old h9; have X10 := hS.old h10; have P0 := hS.old p0; have P1 := hS.old p1; try go_simp))
  clear hK K
  refine flo4_read _ rfl (fun W => Turns [] w1 W) (Turns.refl _ _) (fun j hj W hW => hW.out (by simp at hj <;> omega)) (fun K hK => ?_)
  go_simp
  first | (refine hK _ ?_) | (refine ⟨fun W hS => ?_, hK _ ?_⟩; · (have C0 := hS.old c0; have X6 := hS.old h6; have X7 := hS.old h7; have X8 := hS.old h8; have X9 := hS.old h9; have X10 := hS.old h10; have P0 := hS.old p0; have P1 := hS.old p1; try go_simp))
  clear hK K
  refine flo4_read _ rfl (fun W => Turns [] w1 W) (Turns.refl _ _) (fun j hj W hW => hW.out (by simp at hj <;> omega)) (fun K hK => ?_)
  go_simp
  first | (refine hK _ ?_) | (refine ⟨fun W hS => ?_, hK _ ?_⟩; · (have C0 := hS.old c0; have X6 := hS.old h6; have X7 := hS.old h7; have X8 := hS.old h8; have X9 := hS.old h9; have X10 := hS.old h10; have P0 := hS.old p0; have P1 := hS.old p1; try go_simp))
  clear hK K
  refine flo4_read _ rfl (fun W => Turns [] w1 W) (Turns.refl _ _) (fun j hj W hW => hW.out (by simp at hj <;> omega)) (fun K hK => ?_)
  go_simp
  first | (refine hK _ ?_) | (refine ⟨fun W hS => ?_, hK _ ?_⟩; · (have C0 := hS.old c0; have X6 := hS.old h6; have X7 := hS.old h7; have X8 := hS.old h8; have X9 := hS.old h9; have X10 := hS.old h10; have P0 := hS.old p0; have P1 := hS.old p1; try go_simp))
  clear hK K
  refine flo4_read _ rfl (fun W => Turns [] w1 W) (Turns.refl _ _) (fun j hj W hW => hW.out (by simp at hj <;> omega)) (fun K hK => ?_)
  go_simp
  first | (refine hK _ ?_) | (refine ⟨fun W hS => ?_, hK _ ?_⟩; · (have C0 := hS.old c0; have X6 := hS.old h6; have X7 := hS.old h7; have X8 := hS.old h8; have X9 := hS.old h9; have X10 := hS.old h10; have P0 := hS.old p0; have P1 := hS.old p1; try go_simp))
  clear hK K
  clear c0 h6 h7 h8 h9 h10 p0 p1
  refine flo4_alone _ rfl ?_
  go_wp2_with fail
  go_at_call 42
  refine Calls.mono (At.out _ (Turns.refl _ _)) ?_
  rintro e w2 ⟨rfl, t2⟩
  go_wp2_with fail
  refine ⟨⟨fun _ => t2⟩, _, fun _ _ h => h, ?_⟩
  refine flo4_alone _ rfl ?_
  go_wp2_with fail
  go_at_call 43
  refine Calls.mono (Nw.out _) ?_
  rintro e w3 ⟨rfl, t3⟩
  go_wp2_with fail
  refine ⟨⟨fun _ => t2.trans t3⟩, _, fun _ _ h => h, ?_⟩
  refine flo4_alone _ rfl ?_
  go_wp2_with fail
  go_at_call 41
  refine Calls.mono (Rl.out _ (hr1h.out.turns (t2.trans t3))) ?_
  rintro e w4 ⟨rfl, h4, t4⟩
  go_wp2_with fail
  refine ⟨⟨fun hn => absurd rfl hn⟩, _, fun _ _ h => h, ?_⟩
  have T4 := (((T.trans t2).trans t3).mono (G := [b]) (by simp)).trans t4
  refine flo4_read _ rfl (fun W => True) (trivial) (fun j hj W hW => trivial) (fun K hK => ?_)
  go_simp
  first | (refine hK _ ?_) | (refine ⟨fun W hS => ?_, hK _ ?_⟩; · (skip; try go_simp))
  clear hK K
  refine flo4_read _ rfl (fun W => True) (trivial) (fun j hj W hW => trivial) (fun K hK => ?_)
  go_simp
  first | (refine hK _ ?_) | (refine ⟨fun W hS => ?_, hK _ ?_⟩; · (skip; try go_simp))
  clear hK K
  refine flo4_end ?_
  go_wp2_with fail
  go_ret
  exact ⟨rfl, h4, T4⟩
end Go.Proofs.Ytohokckpheljbaa.Ge
