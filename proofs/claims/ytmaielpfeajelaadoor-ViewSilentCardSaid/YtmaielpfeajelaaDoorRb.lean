/- ring.Set's each: its nodes, rising: for every loop body. -/
import Derived.Test.YtmaielpfeajelaaDoorRa
import Derived.Test.YtmaielpfeajelaaDoorRg
import Derived.Test.YtmaielpfeajelaaDoorTz
import Derived.Test.YtmaielpfeajelaaDoorHx
import Derived.Test.YtmaielpfeajelaaDoorHy
import Derived.RangeFuncNested
import Derived.RangeFuncBound
import Derived.RangeFuncCalls
import Derived.RangeFuncLeaves
import Derived.RangeFuncBox
import Derived.RangeFuncWrites
import Derived.Shelf.Abstract
import Derived.Shelf.RegionOpen
import Derived.WalkKit
import Derived.OwnWalkIn
import Derived.TacticsInMore
import Derived.LoopNIn
import Derived.LoopIn
import Derived.Maps.AppendAt
set_option linter.unusedVariables false
set_option linter.unusedSimpArgs false
set_option maxRecDepth 100000
namespace Go.Proofs.YtmaielpfeajelaaDoor.Rb
open Go.RowKit Go.Shelf Hm Hs Hc Hd Hx Hy Ra Rg
attribute [local go_sem] Oper.semAt_some
/-- the table of bits, as its initialiser lays it -/
abbrev Tab (w : World) : Prop := TabAt 0 Lib.deBruijn64tab w
theorem Tab.lt {w : World} (h : Tab w) : 0 < w.heap.size := World.block_lt_of_cell? w _ (h 0 (by decide))
theorem Tab.below {n : Nat} {w w' : World} (h : Tab w) (b : Below n w w') (hn : 0 < n) : Tab w' := fun j hj => (b.cell (p := ⟨0, j, none⟩) hn).trans (h j hj)
theorem Tab.turns {w w' : World} (h : Tab w) (t : Turns [] w w') : Tab w' := fun j hj => t.old (h j hj)
theorem tz_is (x : Nat) (hx : x < 18446744073709551616) (w : World) (h : Tab w) : Calls Tryd.prog 54 #[.int .u64 x] w fun e w' => e = .returned (.int .i64 (Lib.ctz 64 x)) ∧ w' = w :=
  Any7.bits_TrailingZeros64 Tryd.tz x hx w (fun _ => h)
set_option maxHeartbeats 2000000 in
theorem each1_in (n : Nat) (hn : 1 ≤ n) (l Bn n₀ s : Nat) (hs : s < 18446744073709551616) (hn0 : 0 < n₀) (J Jx : List Nat → World → Prop)
    (hY : ∀ pre (x : Nat) W, J pre W → pre.length < (nod s).length → YieldAt Fence.wide (n - 1) Tryd.prog l #[.int .i64 x] W fun e W' =>
      (e = .returned (.bool true) ∧ J (pre ++ [x]) W' ∧ Below n₀ W W') ∨ (e = .returned (.bool false) ∧ Jx (pre ++ [x]) W'))
    (W : World) (hBn : W.cell? ⟨Bn, 0, none⟩ = some (.int .u64 s)) (hT : Tab W) (h0 : J [] W) :
    CallsIn Fence.wide n Tryd.prog 53 #[.func (.yield l) #[] #[], .pointer (some ⟨Bn, 0, none⟩)] W fun e W' => (∃ v, e = .returned v) ∧
      ((∃ ys, ys = nod s ∧ J ys W') ∨ (∃ pre, pre <+: nod s ∧ Jx pre W')) := by
  refine callsIn_of_wp Tryd.func53 rfl trivial ?_ rfl
  simp only [Tryd.ntmps53, List.size_toArray, List.length_cons, List.length_nil, Nat.reduceAdd, Nat.reduceSub, Array.replicate_succ, Array.replicate_zero, List.push_toArray, List.append_toArray, List.nil_append, List.cons_append]
  have hTh := Lib.hid hT
  clear hT
  gi_wp2
  gi_loopw [3] (fun p wr => ∃ (pre : List Nat) (r : Nat), p = .int .u64 r ∧ r < 18446744073709551616 ∧ nod s = pre ++ nod r ∧ J pre wr ∧ Below n₀ W wr) (fun p _ => (nod (intOf p).toNat).length)
  case atStart => exact ⟨[], s, rfl, hs, rfl, h0, Below.refl _ _⟩
  case round =>
    obtain ⟨pre, r, rfl, hr, hx, hJs, hB⟩ := hrel
    by_cases h0r : r = 0
    · subst h0r
      gi_wp2
      go_end0
      exact ⟨⟨_, rfl⟩, .inl ⟨pre, by simp [hx, nod_zero], hJs⟩⟩
    · obtain ⟨hk, hst⟩ := nod_step hr h0r
      have hst2 := Lib.hid hst
      have hx2 := Lib.hid hx
      have g1 : ((r : Int) != 0) = true := by simp; omega
      have g2 : ¬ ((r : Int) = 0) := by omega
      have g3 : IntKind.u64.wrap ((r : Int) - 1) = ((r - 1 : Nat) : Int) := by rw [IntKind.wrap_u64]; omega
      have g4 : bits .and .u64 (r : Int) ((r - 1 : Nat) : Int) = ((r &&& (r - 1) : Nat) : Int) := u64_and_nat r (r - 1) hr (by omega)
      have hrl := rest_lt r hr
      have TZ := Lib.hid (callsIn_wide (n := n - 1).2 (tz_is r hr wr (hTh.out.below hB hn0)))
      generalize Lib.ctz 64 r = k at *
      obtain ⟨fn, tmps, assign, body, hy, hR⟩ := hY pre k wr hJs (by rw [hx2.out, hst2.out]; simp)
      have hRh := Lib.hid hR
      have hBh := Lib.hid hB
      clear hx hst hR hB hY
      gi_wp2_with (refine ⟨trivial, ?_⟩; gi_at_call 54; refine TZ.out.mono ?_; rintro e w' ⟨rfl, rfl⟩)
      refine hRh.out.mono ?_
      rintro e W3 (⟨rfl, hJ3, hk3⟩ | ⟨rfl, hJx3⟩)
      · gi_wp2
        go_roundw
        case rel => exact ⟨pre ++ [k], r &&& (r - 1), by simp [g3, g4], hrl, by rw [hx2.out, hst2.out]; simp, hJ3, hBh.out.trans hk3⟩
        case measure => simp [intOf, g3, g4, hst2.out]
      · gi_wp2
        refine bodyPost_ret (results_none rfl _ _ _) rfl ?_
        exact ⟨⟨_, rfl⟩, .inr ⟨pre ++ [k], ⟨nod (r &&& (r - 1)), by rw [hx2.out, hst2.out]; simp⟩, hJx3⟩⟩
theorem each_in (n : Nat) (s : Int) (w : World) : CallsIn Fence.wide n Tryd.prog 44 #[.int .u64 s] w fun e w' => e = .returned (.func (.func 53) #[] #[.pointer (some ⟨w.heap.size, 0, none⟩)]) ∧ w' = w.alloc (.cells #[.int .u64 s] 40) := by
  refine callsIn_of_wp Tryd.func44 rfl trivial ?_ rfl
  simp only [Tryd.ntmps44, List.size_toArray, List.length_cons, List.length_nil, Nat.reduceAdd, Nat.reduceSub, Array.replicate_succ, Array.replicate_zero, List.push_toArray, List.append_toArray, List.nil_append, List.cons_append]
  gi_wp2
  go_ret
  exact ⟨rfl, rfl⟩
theorem each_stops (n : Nat) (hn : 1 ≤ n) (Bn n₀ s : Nat) (hs : s < 18446744073709551616) (w : World) (hBn : Bn < w.heap.size) (h1 : 0 < n₀) (hn₀ : n₀ ≤ w.heap.size) (hc : w.cell? ⟨Bn, 0, none⟩ = some (.int .u64 s)) (hT : Tab w) :
    SeqStopsK Fence.wide n Tryd.prog 53 #[.pointer (some ⟨Bn, 0, none⟩)] (fun x : Nat => #[Value.int .i64 x]) (Below n₀) (fun ys => ys = nod s) (fun pre => pre <+: nod s) (nod s).length w := fun l J Jx W hW _ _ hY h0 =>
  each1_in n hn l Bn n₀ s hs h1 J Jx hY W ((hW.cell (p := ⟨Bn, 0, none⟩) hBn).trans hc) (hT.below hW hT.lt) h0
end Go.Proofs.YtmaielpfeajelaaDoor.Rb
