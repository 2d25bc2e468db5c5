/- Package token: Newer, At, Pass, Fresh's good way. -/
import Derived.Test.YtmaielpfeajelaaTc
set_option linter.unusedVariables false
set_option linter.unusedSimpArgs false
set_option maxRecDepth 100000
namespace Go.Proofs.Ytmaielpfeajelaa.Td
open Go.RowKit Go.MapKept Go.Shelf Hm Hs Hf Hg Hv Hx Hy Sm Sat Ya Ta Tb Tc Rg Ss Re Rf
def newerB (g1 h1 g2 h2 : Int) : Bool := if g1 = g2 then decide (h1 > h2) else decide (g1 > g2)
theorem newer_is (g1 h1 g2 h2 : Int) (w : World) : Calls Try.prog 14 #[.agg #[.int .i64 g1, .int .i64 h1], .agg #[.int .i64 g2, .int .i64 h2]] w fun e w' => e = .returned (.bool (newerB g1 h1 g2 h2)) ∧ Turns [] w w' := by
  have T0 := ((Turns.refl [] w).alloc (.cells #[.int .i64 g1, .int .i64 h1] 45)).alloc (.cells #[.int .i64 g2, .int .i64 h2] 45)
  unfold newerB
  by_cases h : g1 = g2
  · have e1 : (g1 == g2) = true := by simpa using h
    rw [if_pos h]
    generalize hq : decide (h1 > h2) = q
    clear h
    go_enter Try.func14, Try.ntmps14
    go_wp2_with fail
    go_ret
    exact ⟨rfl, T0⟩
  · have e1 : (g1 == g2) = false := by simpa using h
    rw [if_neg h]
    generalize hq : decide (g1 > g2) = q
    go_enter Try.func14, Try.ntmps14
    go_wp2_with fail
    go_ret
    exact ⟨by simp [h], T0⟩
theorem at_is (g s m : Int) (A : Option Addr) (n c : Nat) (B : Option Addr) (k d : Nat) (w : World) : Calls Try.prog 19 #[tk g s (.slice A n c) m (.slice B k d)] w fun e w' => e = .returned (.agg #[.int .i64 g, .int .i64 s]) ∧ Turns [] w w' := by
  have H := ((Sep.start w).alloc #[.int .i64 g, .int .i64 s, .slice A n c, .int .i64 m, .slice B k d] 38).alloc #[.int .i64 g, .int .i64 s] 45
  rw [World.size_alloc] at H
  have hR := H.blk 0 rfl
  have T := H.t
  clear H
  go_enter Try.func19, Try.ntmps19
  go_wp2_with fail
  refine bodyPost_ret (res_one rfl (.cell (w.heap.size + 1) _ _ _ rfl hR Try.underlying45 rfl (by kernel_rfl) .nil)) rfl ?_
  exact ⟨rfl, T⟩
set_option maxHeartbeats 2000000 in
theorem pass_is (g s m : Int) (A : Option Addr) (n c : Nat) (B : Option Addr) (k d : Nat) (w : World) (hs : -9223372036854775808 ≤ s ∧ s < 1099511627776)
    (hC : ∀ W, Turns [] w W → Calls Try.prog 38 #[tk g s (.slice A n c) m (.slice B k d)] W fun e w' => ∃ A' n' c' B' k' d', e = .returned (tk g s (.slice A' n' c') m (.slice B' k' d')) ∧ Turns [] W w') :
    Calls Try.prog 18 #[tk g s (.slice A n c) m (.slice B k d)] w fun e w' => ∃ A' n' c' B' k' d', e = .returned (.tuple #[tk g (s + 1) (.slice A' n' c') m (.slice B' k' d'), .int .i64 0]) ∧ Turns [] w w' := by
  have H := ((Sep.start w).alloc #[.int .i64 g, .int .i64 s, .slice A n c, .int .i64 m, .slice B k d] 38).alloc #[.int .i64 0, .int .i64 0, .slice none 0 0, .int .i64 0, .slice none 0 0] 38
  rw [World.size_alloc] at H
  have C1 := Lib.hid (hC _ H.t)
  have g1 : decide (s ≥ 1099511627776) = false := decide_eq_false (by omega)
  have g2 : IntKind.i64.wrap (s + 1) = s + 1 := IntWalk.i64_in _ (by omega)
  have c0 : World.cell? (_) ⟨w.heap.size, 0, none⟩ = some _ := (H.blk 1 rfl).cell 0
  have c1 : World.cell? (_) ⟨w.heap.size, 1, none⟩ = some _ := (H.blk 1 rfl).cell 1
  have c2 : World.cell? (_) ⟨w.heap.size, 2, none⟩ = some _ := (H.blk 1 rfl).cell 2
  have c3 : World.cell? (_) ⟨w.heap.size, 3, none⟩ = some _ := (H.blk 1 rfl).cell 3
  have c4 : World.cell? (_) ⟨w.heap.size, 4, none⟩ = some _ := (H.blk 1 rfl).cell 4
  have hHh := Lib.hid H
  clear H hC
  go_enter Try.func18, Try.ntmps18
  go_wp2_with fail
  go_at_call 38
  refine Calls.mono (C1.out) ?_
  rintro e w1 ⟨A', n', c', B', k', d', rfl, t1⟩
  have H := hHh.out.turns t1
  have hB := H.blk 1 rfl
  have d0 : World.cell? (w1) ⟨w.heap.size, 0, none⟩ = some _ := (hB).cell 0
  have df0 : World.frozen? (w1) ⟨w.heap.size, 0, none⟩ = false := (hB).frozen 0
  have d1 : World.cell? (w1) ⟨w.heap.size, 1, none⟩ = some _ := (hB).cell 1
  have df1 : World.frozen? (w1) ⟨w.heap.size, 1, none⟩ = false := (hB).frozen 1
  have d2 : World.cell? (w1) ⟨w.heap.size, 2, none⟩ = some _ := (hB).cell 2
  have df2 : World.frozen? (w1) ⟨w.heap.size, 2, none⟩ = false := (hB).frozen 2
  have d3 : World.cell? (w1) ⟨w.heap.size, 3, none⟩ = some _ := (hB).cell 3
  have df3 : World.frozen? (w1) ⟨w.heap.size, 3, none⟩ = false := (hB).frozen 3
  have d4 : World.cell? (w1) ⟨w.heap.size, 4, none⟩ = some _ := (hB).cell 4
  have df4 : World.frozen? (w1) ⟨w.heap.size, 4, none⟩ = false := (hB).frozen 4
  have H5 := ((((H.set 1 rfl 0 (.int .i64 g)).set 1 rfl 1 (.int .i64 s)).set 1 rfl 2 (.slice A' n' c')).set 1 rfl 3 (.int .i64 m)).set 1 rfl 4 (.slice B' k' d')
  have H5h := Lib.hid H5
  clear H H5 t1 hHh hB C1 c0 c1 c2 c3 c4
  go_upto_region 2 with fail
  generalize (((((w1.setCell ⟨w.heap.size, 0, none⟩ (.int .i64 g)).setCell ⟨w.heap.size, 1, none⟩ (.int .i64 s)).setCell ⟨w.heap.size, 2, none⟩ (.slice A' n' c')).setCell ⟨w.heap.size, 3, none⟩ (.int .i64 m)).setCell ⟨w.heap.size, 4, none⟩ (.slice B' k' d')) = w5 at *
  clear d0 d1 d2 d3 d4 df0 df1 df2 df3 df4
  have H5 := H5h.out
  clear H5h
  have b1 : w5.cell? ⟨w.heap.size, 1, none⟩ = some (.int .i64 s) := (H5.blk 1 rfl).cell 1
  have bf1 := (H5.blk 1 rfl).frozen 1
  have H6h := Lib.hid (H5.set 1 rfl 1 (.int .i64 (s + 1)))
  clear H5
  go_upto_region 5 with fail
  generalize w5.setCell ⟨w.heap.size, 1, none⟩ (.int .i64 (s + 1)) = w6 at *
  clear b1 bf1
  have H6 := H6h.out
  clear H6h
  have hB6 := H6.blk 1 rfl
  have hZ6 := H6.blk 0 rfl
  have b0 : w6.cell? ⟨w.heap.size, 0, none⟩ = some (.int .i64 g) := hB6.cell 0
  have b1 : w6.cell? ⟨w.heap.size, 1, none⟩ = some (.int .i64 (s + 1)) := hB6.cell 1
  have b2 : w6.cell? ⟨w.heap.size, 2, none⟩ = some (.slice A' n' c') := hB6.cell 2
  have b3 : w6.cell? ⟨w.heap.size, 3, none⟩ = some (.int .i64 m) := hB6.cell 3
  have b4 : w6.cell? ⟨w.heap.size, 4, none⟩ = some (.slice B' k' d') := hB6.cell 4
  have z0 : World.cell? (w6) ⟨w.heap.size + 1, 0, none⟩ = some _ := (hZ6).cell 0
  have zf0 : World.frozen? (w6) ⟨w.heap.size + 1, 0, none⟩ = false := (hZ6).frozen 0
  have z1 : World.cell? (w6) ⟨w.heap.size + 1, 1, none⟩ = some _ := (hZ6).cell 1
  have zf1 : World.frozen? (w6) ⟨w.heap.size + 1, 1, none⟩ = false := (hZ6).frozen 1
  have z2 : World.cell? (w6) ⟨w.heap.size + 1, 2, none⟩ = some _ := (hZ6).cell 2
  have zf2 : World.frozen? (w6) ⟨w.heap.size + 1, 2, none⟩ = false := (hZ6).frozen 2
  have z3 : World.cell? (w6) ⟨w.heap.size + 1, 3, none⟩ = some _ := (hZ6).cell 3
  have zf3 : World.frozen? (w6) ⟨w.heap.size + 1, 3, none⟩ = false := (hZ6).frozen 3
  have z4 : World.cell? (w6) ⟨w.heap.size + 1, 4, none⟩ = some _ := (hZ6).cell 4
  have zf4 : World.frozen? (w6) ⟨w.heap.size + 1, 4, none⟩ = false := (hZ6).frozen 4
  have H7 := ((((H6.set 0 rfl 0 (.int .i64 g)).set 0 rfl 1 (.int .i64 (s + 1))).set 0 rfl 2 (.slice A' n' c')).set 0 rfl 3 (.int .i64 m)).set 0 rfl 4 (.slice B' k' d')
  have hR := H7.blk 0 rfl
  have T := H7.t
  clear H6 H7 hB6 hZ6
  go_wp2_with fail
  refine bodyPost_ret (res_list (rs := [.cell 2 38, .tmp 3]) rfl (by simp) (.cell (w.heap.size + 1) _ _ _ rfl hR Try.underlying38 rfl (by kernel_rfl) (.tmp .nil))) rfl ?_
  exact ⟨_, _, _, _, _, _, rfl, T⟩
def freshL (n node : Nat) (now : Int) : List Int := (List.replicate n (-1)).set node now
theorem oneI (w : World) (x : Int) : RdS 1 (w.alloc (.cells #[.int .i64 x] 3)) (.slice (some ⟨w.heap.size, 0, none⟩) 1 1) (ins [x]) :=
  RdS.of_cells (rows := ins [x]) (heap_alloc w (.cells #[.int .i64 x] 3)).1 rfl (by simp [ins]) 1 (by simp [ins]) (by decide)
set_option maxHeartbeats 2000000 in
theorem fresh_ok (g : Int) (n node : Nat) (now : Int) (w : World) (hn : 1 ≤ n ∧ n ≤ 64) (hd : node < n) (ht : 0 ≤ now ∧ now < 4611686018427387904) (hb : tokB g 0 (freshL n node now) now = true) :
    Calls Try.prog 11 #[.int .i64 g, .int .i64 n, .int .i64 node, .int .i64 now] w fun e w' => ∃ u, e = .returned (.tuple #[tk g 0 u now (.slice none 0 0), .int .i64 0]) ∧ OwnS 3 1 w' u (ins (freshL n node now)) ∧ Turns [] w w' ∧ (∀ k, u.ownBlock = some k → w.heap.size ≤ k) := by
  have H := ((Sep.start w).alloc #[.int .i64 0, .int .i64 0, .slice none 0 0, .int .i64 0, .slice none 0 0] 38).alloc #[.int .i64 (-1)] 3
  rw [World.size_alloc] at H
  have g1 : decide ((n : Int) < 1) = false := decide_eq_false (by omega)
  have g2 : decide ((n : Int) > 64) = false := decide_eq_false (by omega)
  have R1 := Lib.hid (repeat_is _ _ (-1) n (oneI (w.alloc (.cells #[.int .i64 0, .int .i64 0, .slice none 0 0, .int .i64 0, .slice none 0 0] 38)) (-1)) hn.1 hn.2)
  rw [World.size_alloc] at R1
  have S1 := Lib.hid (fun W v hr => stamp_ok g 0 now v (List.replicate n (-1)) node now W hr (by simp; omega) (by simpa using hd) ht)
  have K1 := Lib.hid (fun W v hr => token0_is g 0 now v (freshL n node now) W hr (by unfold freshL; simp; omega))
  rw [hb] at K1
  rw [show (List.replicate n (-1 : Int)).set node now = freshL n node now from rfl] at S1
  have hfl : (freshL n node now).length = n := by unfold freshL; simp
  generalize freshL n node now = L at *
  have hrl : (List.replicate n (-1 : Int)).length = n := by simp
  generalize List.replicate n (-1 : Int) = L0 at *
  have hHh := Lib.hid (H.lose [0])
  clear H hb
  go_enter Try.func11, Try.ntmps11
  go_wp2_with fail
  go_at_call 31
  refine Calls.mono (R1.out) ?_
  rintro e w1 ⟨v, rfl, o, t1, hbv⟩
  have H := hHh.out.newSlice t1 o hbv
  obtain ⟨A, c, hvv, _⟩ := formI o
  rw [hrl] at hvv
  subst hvv
  replace H := H.alloc #[.int .i64 g, .int .i64 0, .slice A n c, .int .i64 now, .slice none 0 0] 38
  have S2 := Lib.hid (S1.out _ _ (H.own 1 rfl).reads)
  have hHh2 := Lib.hid H
  clear H t1 hHh R1 o hbv S1
  go_wp2_with fail
  go_at_call 32
  refine Calls.mono (S2.out) ?_
  rintro e w2 ⟨u, rfl, o, t2, hbu⟩
  have H := hHh2.out.newSlice t2 o hbu
  obtain ⟨A2, c2, hvv, _⟩ := formI o
  rw [hfl] at hvv
  subst hvv
  have hB := H.blk 1 rfl
  have d0 : World.cell? (w2) ⟨w1.heap.size, 0, none⟩ = some _ := (hB).cell 0
  have df0 : World.frozen? (w2) ⟨w1.heap.size, 0, none⟩ = false := (hB).frozen 0
  have d1 : World.cell? (w2) ⟨w1.heap.size, 1, none⟩ = some _ := (hB).cell 1
  have df1 : World.frozen? (w2) ⟨w1.heap.size, 1, none⟩ = false := (hB).frozen 1
  have d2 : World.cell? (w2) ⟨w1.heap.size, 2, none⟩ = some _ := (hB).cell 2
  have df2 : World.frozen? (w2) ⟨w1.heap.size, 2, none⟩ = false := (hB).frozen 2
  have d3 : World.cell? (w2) ⟨w1.heap.size, 3, none⟩ = some _ := (hB).cell 3
  have df3 : World.frozen? (w2) ⟨w1.heap.size, 3, none⟩ = false := (hB).frozen 3
  have d4 : World.cell? (w2) ⟨w1.heap.size, 4, none⟩ = some _ := (hB).cell 4
  have df4 : World.frozen? (w2) ⟨w1.heap.size, 4, none⟩ = false := (hB).frozen 4
  have H5 := ((((H.set 1 rfl 0 (.int .i64 g)).set 1 rfl 1 (.int .i64 0)).set 1 rfl 2 (.slice A2 n c2)).set 1 rfl 3 (.int .i64 now)).set 1 rfl 4 (.slice none 0 0)
  have H5h := Lib.hid H5
  clear H H5 t2 hHh2 hB o hbu S2
  go_upto_region 5 with fail
  generalize (((((w2.setCell ⟨w1.heap.size, 0, none⟩ (.int .i64 g)).setCell ⟨w1.heap.size, 1, none⟩ (.int .i64 0)).setCell ⟨w1.heap.size, 2, none⟩ (.slice A2 n c2)).setCell ⟨w1.heap.size, 3, none⟩ (.int .i64 now)).setCell ⟨w1.heap.size, 4, none⟩ (.slice none 0 0)) = w5 at *
  clear d0 d1 d2 d3 d4 df0 df1 df2 df3 df4
  have H5 := H5h.out
  clear H5h
  have b0 : w5.cell? ⟨w1.heap.size, 0, none⟩ = some (.int .i64 g) := (H5.blk 1 rfl).cell 0
  have b1 : w5.cell? ⟨w1.heap.size, 1, none⟩ = some (.int .i64 0) := (H5.blk 1 rfl).cell 1
  have b2 : w5.cell? ⟨w1.heap.size, 2, none⟩ = some (.slice A2 n c2) := (H5.blk 1 rfl).cell 2
  have b3 : w5.cell? ⟨w1.heap.size, 3, none⟩ = some (.int .i64 now) := (H5.blk 1 rfl).cell 3
  have b4 : w5.cell? ⟨w1.heap.size, 4, none⟩ = some (.slice none 0 0) := (H5.blk 1 rfl).cell 4
  have K2 := Lib.hid (K1.out w5 _ (H5.own 0 rfl).reads)
  have H5h := Lib.hid H5
  clear H5 K1
  go_wp2_with fail
  go_at_call 33
  refine Calls.mono (K2.out) ?_
  rintro e w6 ⟨rfl, t6⟩
  have H6 := H5h.out.turns t6
  have hB6 := H6.blk 1 rfl
  have hZ6 := H6.blk 3 rfl
  clear b0 b1 b2 b3 b4 H5h t6 K2
  have b0 : w6.cell? ⟨w1.heap.size, 0, none⟩ = some (.int .i64 g) := hB6.cell 0
  have b1 : w6.cell? ⟨w1.heap.size, 1, none⟩ = some (.int .i64 0) := hB6.cell 1
  have b2 : w6.cell? ⟨w1.heap.size, 2, none⟩ = some (.slice A2 n c2) := hB6.cell 2
  have b3 : w6.cell? ⟨w1.heap.size, 3, none⟩ = some (.int .i64 now) := hB6.cell 3
  have b4 : w6.cell? ⟨w1.heap.size, 4, none⟩ = some (.slice none 0 0) := hB6.cell 4
  have z0 : World.cell? (w6) ⟨w.heap.size, 0, none⟩ = some _ := (hZ6).cell 0
  have zf0 : World.frozen? (w6) ⟨w.heap.size, 0, none⟩ = false := (hZ6).frozen 0
  have z1 : World.cell? (w6) ⟨w.heap.size, 1, none⟩ = some _ := (hZ6).cell 1
  have zf1 : World.frozen? (w6) ⟨w.heap.size, 1, none⟩ = false := (hZ6).frozen 1
  have z2 : World.cell? (w6) ⟨w.heap.size, 2, none⟩ = some _ := (hZ6).cell 2
  have zf2 : World.frozen? (w6) ⟨w.heap.size, 2, none⟩ = false := (hZ6).frozen 2
  have z3 : World.cell? (w6) ⟨w.heap.size, 3, none⟩ = some _ := (hZ6).cell 3
  have zf3 : World.frozen? (w6) ⟨w.heap.size, 3, none⟩ = false := (hZ6).frozen 3
  have z4 : World.cell? (w6) ⟨w.heap.size, 4, none⟩ = some _ := (hZ6).cell 4
  have zf4 : World.frozen? (w6) ⟨w.heap.size, 4, none⟩ = false := (hZ6).frozen 4
  have H7 := ((((H6.set 3 rfl 0 (.int .i64 g)).set 3 rfl 1 (.int .i64 0)).set 3 rfl 2 (.slice A2 n c2)).set 3 rfl 3 (.int .i64 now)).set 3 rfl 4 (.slice none 0 0)
  have hR := H7.blk 3 rfl
  have O := H7.own 0 rfl
  have T := H7.t
  have Mi := mine_own H7 0 rfl
  clear H6 H7 hB6 hZ6
  go_wp2_with fail
  refine bodyPost_ret (res_list (rs := [.cell 8 38, .tmp 9]) rfl (by simp) (.cell w.heap.size _ _ _ rfl hR Try.underlying38 rfl (by kernel_rfl) (.tmp .nil))) rfl ?_
  exact ⟨_, rfl, O, T, fun q hq => by simpa using Mi q hq⟩
end Go.Proofs.Ytmaielpfeajelaa.Td
