/- Package token: Until, Valid, Stamp (tokens with an empty table). -/
import Derived.Test.YtmaielpfeajelaaTb
import Derived.Test.YtmaielpfeajelaaRf
import Derived.Test.YtmaielpfeajelaaRg
import Derived.Test.YtmaielpfeajelaaHf
import Derived.Deep.Cut
set_option linter.unusedVariables false
set_option linter.unusedSimpArgs false
set_option maxRecDepth 100000
namespace Go.Proofs.Ytmaielpfeajelaa.Tc
open Go.RowKit Go.MapKept Go.Shelf Hm Hs Hf Hg Hv Hx Hy Sm Sat Ya Ta Tb Rg Ss Re Rf
def neg (x : Int) : Bool := decide (x < 0)
theorem neg_is (x : Int) (w : World) : Calls Try.prog 58 #[.int .i64 x] w fun e w' => e = .returned (.bool (neg x)) ∧ Turns [] w w' := by
  unfold neg
  generalize hq : decide (x < 0) = q
  go_enter Try.func58, Try.ntmps58
  go_wp2_with fail
  go_ret
  exact ⟨rfl, Turns.refl _ _⟩
def rest (l : List Int) : List Int := l.filter (fun x => !neg x)
def untilV (l : List Int) (span : Int) : Int := if l.length / 2 + 1 ≤ (rest l).length then two (nthV (rest l) (l.length / 2 + 1)) span else -1
theorem rest_len (l : List Int) : (rest l).length ≤ l.length := List.length_filter_le _ _
theorem sum_two (a c : Int) : sum [a, c] = two a c := by unfold sum; simp only [List.foldl_cons, List.foldl_nil]; unfold two fit; omega
theorem irow2 (w : World) (x y : Int) : IRow (w.alloc (.cells #[.int .i64 x, .int .i64 y] 3)) (some ⟨w.heap.size, 0, none⟩) [x, y] := IRow.of_blk (Blk.new w _ _) rfl (by simp)
set_option maxHeartbeats 1000000 in
theorem until_is (g s m span : Int) (sv : Value) (l : List Int) (w : World) (h : RdS 1 w sv (ins l)) (h1 : 1 ≤ l.length) (hn : l.length ≤ 1000) : Calls Try.prog 37 #[tk g s sv m (.slice none 0 0), .int .i64 span] w fun e w' => e = .returned (.int .i64 (untilV l span)) ∧ Turns [] w w' := by
  have H := (Sep.start w).alloc #[.int .i64 g, .int .i64 s, sv, .int .i64 m, .slice none 0 0] 38
  have hrd := h.mv (fun a u => H.t.old)
  have C1 := Lib.hid (cloneI_is _ sv l hrd (by omega))
  obtain ⟨A, c, rfl, _⟩ := h.form
  rw [ins_len] at *
  have Mj := Lib.hid (fun w => majority_is l.length ⟨h1, hn⟩ w)
  have hD := Lib.hid (fun W v h => delete_is W v l neg 58 (enters_of Try.func58 (by kernel_rfl) rfl) h (by omega) (Lib.hid (fun W x => neg_is x W)))
  have c2 : World.cell? (w.alloc (.cells #[.int .i64 g, .int .i64 s, .slice A l.length c, .int .i64 m, .slice none 0 0] 38)) ⟨w.heap.size, 2, none⟩ = some _ := (H.blk 0 rfl).cell 2
  have hHh := Lib.hid H
  have hlen := rest_len l
  have hu : Hid (untilV l span = if l.length / 2 + 1 ≤ (rest l).length then two (nthV (rest l) (l.length / 2 + 1)) span else -1) := Lib.hid rfl
  generalize untilV l span = r at *
  have hk1 : 1 ≤ l.length / 2 + 1 := by omega
  generalize l.length / 2 + 1 = k at *
  clear h hrd H
  go_enter Try.func37, Try.ntmps37
  go_wp2_with fail
  go_at_call 57
  refine Calls.mono (C1.out) ?_
  rintro e w1 ⟨u, rfl, o, t1, hbu⟩
  have H := hHh.out.newSlice t1 o hbu
  have D1 := Lib.hid (hD.out w1 u o)
  have hH2 := Lib.hid H
  have d2 := t1.old c2
  clear hHh H C1 t1 hbu c2 o hD
  go_wp2_with fail
  go_at_call 56
  refine Calls.mono (D1.out) ?_
  rintro e w2 ⟨u2, rfl, o2, t2, hob⟩
  rw [show l.filter (fun x => !neg x) = rest l from rfl] at o2
  have H := hH2.out.slice 0 rfl o2 t2 (.inl hob)
  have d3 : w2.cell? ⟨w.heap.size, 2, none⟩ = some (.slice A l.length c) := (H.blk 1 rfl).cell 2
  have T2 := H.t
  obtain ⟨A3, c3, rfl, _⟩ := formI o2
  have ors := Lib.hid o2.reads
  clear H hH2 D1 d2 o2 t2 hob
  go_wp2_with fail
  go_at_call 23
  refine Calls.mono (Mj.out _) ?_
  rintro e w3 ⟨rfl, t3⟩
  have T3 := T2.trans t3
  have rd3 := Lib.hid (ors.out.mv (fun a u => t3.old))
  clear d3 T2 t3 Mj ors
  have hue := hu.out
  by_cases hk : k ≤ (rest l).length
  · rw [if_pos hk] at hue
    have N := Lib.hid (nth_yes w3 _ (rest l) k rd3.out (by omega) hk1 hk)
    generalize nthV (rest l) k = x at *
    generalize (rest l).length = z at *
    have hueh := Lib.hid hue
    clear hue hk rd3
    go_wp2_with fail
    go_at_call 59
    refine Calls.mono (N.out) ?_
    rintro e w4 ⟨rfl, t4⟩
    have T4 := (T3.trans t4).alloc (.cells #[.int .i64 x, .int .i64 span] 3)
    have A5 := Lib.hid (add_is _ [x, span] 2 _ (irow2 w4 x span))
    rw [sum_two, ← hueh.out] at A5
    clear t4 N T3
    go_wp2_with fail
    go_at_call 29
    refine Calls.mono (A5.out) ?_
    rintro e w5 ⟨rfl, t5⟩
    go_wp2_with fail
    go_ret
    exact ⟨rfl, T4.trans t5⟩
  · rw [if_neg hk] at hue
    have N := Lib.hid (nth_no w3 A3 (rest l).length c3 k (.inr (by omega)))
    generalize (rest l).length = z at *
    subst hue
    clear hk rd3
    go_wp2_with fail
    go_at_call 59
    refine Calls.mono (N.out) ?_
    rintro e w4 ⟨rfl, t4⟩
    go_wp2_with fail
    go_ret
    exact ⟨rfl, T3.trans t4⟩
theorem valid_is (g s m now span : Int) (sv : Value) (l : List Int) (w : World) (h : RdS 1 w sv (ins l)) (h1 : 1 ≤ l.length) (hn : l.length ≤ 1000) : Calls Try.prog 22 #[tk g s sv m (.slice none 0 0), .int .i64 now, .int .i64 span] w fun e w' => e = .returned (.bool (decide (fit now ≤ untilV l span))) ∧ Turns [] w w' := by
  have H := ((Sep.start w).alloc #[.int .i64 g, .int .i64 s, sv, .int .i64 m, .slice none 0 0] 38).drew
  have T0 := H.t
  have F := Lib.hid (fun w => fit_is now w)
  have U := Lib.hid (fun W hr => until_is g s m span sv l W hr h1 hn)
  have hrd := Lib.hid h
  obtain ⟨A, c, rfl, _⟩ := h.form
  rw [ins_len] at *
  have c0 : World.cell? ((w.alloc (.cells #[.int .i64 g, .int .i64 s, .slice A l.length c, .int .i64 m, .slice none 0 0] 38)).drew) ⟨w.heap.size, 0, none⟩ = some _ := (H.blk 0 rfl).cell 0
  have c1 : World.cell? ((w.alloc (.cells #[.int .i64 g, .int .i64 s, .slice A l.length c, .int .i64 m, .slice none 0 0] 38)).drew) ⟨w.heap.size, 1, none⟩ = some _ := (H.blk 0 rfl).cell 1
  have c2 : World.cell? ((w.alloc (.cells #[.int .i64 g, .int .i64 s, .slice A l.length c, .int .i64 m, .slice none 0 0] 38)).drew) ⟨w.heap.size, 2, none⟩ = some _ := (H.blk 0 rfl).cell 2
  have c3 : World.cell? ((w.alloc (.cells #[.int .i64 g, .int .i64 s, .slice A l.length c, .int .i64 m, .slice none 0 0] 38)).drew) ⟨w.heap.size, 3, none⟩ = some _ := (H.blk 0 rfl).cell 3
  have c4 : World.cell? ((w.alloc (.cells #[.int .i64 g, .int .i64 s, .slice A l.length c, .int .i64 m, .slice none 0 0] 38)).drew) ⟨w.heap.size, 4, none⟩ = some _ := (H.blk 0 rfl).cell 4
  generalize untilV l span = r at *
  generalize fit now = f at *
  clear h H
  go_enter Try.func22, Try.ntmps22
  go_wp2_with fail
  refine wp_region_flo [(0, true), (2, true), (3, true), (1, false), (4, false), (5, true), (6, true)] (fun W => Turns [] (w.alloc (.cells #[.int .i64 g, .int .i64 s, .slice A l.length c, .int .i64 m, .slice none 0 0] 38)).drew W) (by kernel_rfl) rfl (by kernel_rfl) (by intro c d v a w h; cases d <;> first | (simpa [Exit.then, Exit.inBlock, Act.put] using h) | exact h) (Turns.refl _ _) ?_
  generalize (w.alloc (.cells #[.int .i64 g, .int .i64 s, .slice A l.length c, .int .i64 m, .slice none 0 0] 38)).drew = w1 at *
  refine flo_read _ rfl (fun K hK => ?_)
  go_simp
  first | (refine hK _ ?_) | (refine ⟨fun W hS => ?_, hK _ ?_⟩; · (have x0 := hS.old c0; have x1 := hS.old c1; have x2 := hS.old c2; have x3 := hS.old c3; have x4 := hS.old c4; try go_simp))
  clear hK K
  refine flo_read _ rfl (fun K hK => ?_)
  go_simp
  first | (refine hK _ ?_) | (refine ⟨fun W hS => ?_, hK _ ?_⟩; · (have x0 := hS.old c0; have x1 := hS.old c1; have x2 := hS.old c2; have x3 := hS.old c3; have x4 := hS.old c4; try go_simp))
  clear hK K
  refine flo_read _ rfl (fun K hK => ?_)
  go_simp
  first | (refine hK _ ?_) | (refine ⟨fun W hS => ?_, hK _ ?_⟩; · (have x0 := hS.old c0; have x1 := hS.old c1; have x2 := hS.old c2; have x3 := hS.old c3; have x4 := hS.old c4; try go_simp))
  clear hK K
  refine flo_alone _ rfl ?_
  go_wp2_with fail
  go_at_call 28
  refine Calls.mono (F.out _) ?_
  rintro e w2 ⟨rfl, t2⟩
  go_wp2_with fail
  refine ⟨fun W => Turns [] w2 W, fun W h => t2.trans h, Turns.refl _ _, ?_⟩
  have T2 := T0.trans t2
  have rd := Lib.hid (hrd.out.mv (fun a u => T2.old))
  clear c0 c1 c2 c3 c4 t2 T0
  refine flo_alone _ rfl ?_
  go_wp2_with fail
  go_at_call 37
  refine Calls.mono (U.out _ rd.out) ?_
  rintro e w3 ⟨rfl, t3⟩
  go_wp2_with fail
  refine ⟨fun W => Turns [] w3 W, fun W h => t3.trans h, Turns.refl _ _, ?_⟩
  refine flo_read _ rfl (fun K hK => ?_)
  go_simp
  first | (refine hK _ ?_) | (refine ⟨fun W hS => ?_, hK _ ?_⟩; · (skip; try go_simp))
  clear hK K
  refine flo_read _ rfl (fun K hK => ?_)
  go_simp
  first | (refine hK _ ?_) | (refine ⟨fun W hS => ?_, hK _ ?_⟩; · (skip; try go_simp))
  clear hK K
  refine flo_end ?_
  go_wp2_with fail
  go_ret
  exact ⟨rfl, T2.trans t3⟩
set_option maxHeartbeats 2000000 in
theorem stamp_ok (g s m : Int) (sv : Value) (l : List Int) (i : Nat) (t : Int) (w : World) (h : RdS 1 w sv (ins l)) (hn : l.length ≤ 1000) (hi : i < l.length) (ht : 0 ≤ t ∧ t < 4611686018427387904) :
    Calls Try.prog 32 #[tk g s sv m (.slice none 0 0), .int .i64 i, .int .i64 t] w fun e w' => ∃ u, e = .returned (.tuple #[tk g s u m (.slice none 0 0), .int .i64 0]) ∧ OwnS 3 1 w' u (ins (l.set i t)) ∧ Turns [] w w' ∧ (∀ k, u.ownBlock = some k → w.heap.size ≤ k) := by
  have H := ((Sep.start w).alloc #[.int .i64 g, .int .i64 s, sv, .int .i64 m, .slice none 0 0] 38).alloc #[.int .i64 0, .int .i64 0, .slice none 0 0, .int .i64 0, .slice none 0 0] 38
  have hrd := h.mv (fun a u => H.t.old)
  rw [World.size_alloc] at H
  have C1 := Lib.hid (clone0_is g s m sv l _ hrd (by omega))
  obtain ⟨A, c, rfl, _⟩ := h.form
  rw [ins_len] at *
  have g1 : decide ((i : Int) < 0) = false := decide_eq_false (by omega)
  have g2 : decide ((i : Int) ≥ (l.length : Int)) = false := decide_eq_false (by omega)
  have g3 : decide (t < 0) = false := decide_eq_false (by omega)
  have g4 : decide (t ≥ 4611686018427387904) = false := decide_eq_false (by omega)
  obtain ⟨x, hx⟩ : ∃ x, l[i]? = some x := ⟨_, List.getElem?_eq_getElem hi⟩
  have c0 : World.cell? ((w.alloc (.cells #[.int .i64 g, .int .i64 s, .slice A l.length c, .int .i64 m, .slice none 0 0] 38)).alloc (.cells #[.int .i64 0, .int .i64 0, .slice none 0 0, .int .i64 0, .slice none 0 0] 38)) ⟨w.heap.size, 0, none⟩ = some _ := (H.blk 1 rfl).cell 0
  have c1 : World.cell? ((w.alloc (.cells #[.int .i64 g, .int .i64 s, .slice A l.length c, .int .i64 m, .slice none 0 0] 38)).alloc (.cells #[.int .i64 0, .int .i64 0, .slice none 0 0, .int .i64 0, .slice none 0 0] 38)) ⟨w.heap.size, 1, none⟩ = some _ := (H.blk 1 rfl).cell 1
  have c2 : World.cell? ((w.alloc (.cells #[.int .i64 g, .int .i64 s, .slice A l.length c, .int .i64 m, .slice none 0 0] 38)).alloc (.cells #[.int .i64 0, .int .i64 0, .slice none 0 0, .int .i64 0, .slice none 0 0] 38)) ⟨w.heap.size, 2, none⟩ = some _ := (H.blk 1 rfl).cell 2
  have c3 : World.cell? ((w.alloc (.cells #[.int .i64 g, .int .i64 s, .slice A l.length c, .int .i64 m, .slice none 0 0] 38)).alloc (.cells #[.int .i64 0, .int .i64 0, .slice none 0 0, .int .i64 0, .slice none 0 0] 38)) ⟨w.heap.size, 3, none⟩ = some _ := (H.blk 1 rfl).cell 3
  have c4 : World.cell? ((w.alloc (.cells #[.int .i64 g, .int .i64 s, .slice A l.length c, .int .i64 m, .slice none 0 0] 38)).alloc (.cells #[.int .i64 0, .int .i64 0, .slice none 0 0, .int .i64 0, .slice none 0 0] 38)) ⟨w.heap.size, 4, none⟩ = some _ := (H.blk 1 rfl).cell 4
  have hHh := Lib.hid H
  have hxh := Lib.hid hx
  clear h hrd H hx
  go_enter Try.func32, Try.ntmps32
  go_wp2_with fail
  go_at_call 38
  refine Calls.mono (C1.out) ?_
  rintro e w1 ⟨u, rfl, o, t1, hbu⟩
  have H := hHh.out.newSlice t1 o hbu
  obtain ⟨ad, c', rfl, i0⟩ := Ta.icell o.reads hxh.out
  have hB := H.blk 2 rfl
  have d0 : World.cell? (w1) ⟨w.heap.size, 0, none⟩ = some _ := (hB).cell 0
  have df0 : World.frozen? (w1) ⟨w.heap.size, 0, none⟩ = false := (hB).frozen 0
  have d1 : World.cell? (w1) ⟨w.heap.size, 1, none⟩ = some _ := (hB).cell 1
  have df1 : World.frozen? (w1) ⟨w.heap.size, 1, none⟩ = false := (hB).frozen 1
  have d2 : World.cell? (w1) ⟨w.heap.size, 2, none⟩ = some _ := (hB).cell 2
  have df2 : World.frozen? (w1) ⟨w.heap.size, 2, none⟩ = false := (hB).frozen 2
  have d3 : World.cell? (w1) ⟨w.heap.size, 3, none⟩ = some _ := (hB).cell 3
  have df3 : World.frozen? (w1) ⟨w.heap.size, 3, none⟩ = false := (hB).frozen 3
  have d4 : World.cell? (w1) ⟨w.heap.size, 4, none⟩ = some _ := (hB).cell 4
  have df4 : World.frozen? (w1) ⟨w.heap.size, 4, none⟩ = false := (hB).frozen 4
  have H5 := ((((H.set 2 rfl 0 (.int .i64 g)).set 2 rfl 1 (.int .i64 s)).set 2 rfl 2 (.slice (some ad) l.length c')).set 2 rfl 3 (.int .i64 m)).set 2 rfl 4 (.slice none 0 0)
  have H5h := Lib.hid H5
  clear H H5 o t1 hbu hHh hB C1 i0 c0 c1 c2 c3 c4
  go_upto_region 2 with fail
  generalize (((((w1.setCell ⟨w.heap.size, 0, none⟩ (.int .i64 g)).setCell ⟨w.heap.size, 1, none⟩ (.int .i64 s)).setCell ⟨w.heap.size, 2, none⟩ (.slice (some ad) l.length c')).setCell ⟨w.heap.size, 3, none⟩ (.int .i64 m)).setCell ⟨w.heap.size, 4, none⟩ (.slice none 0 0)) = w5 at *
  clear d0 d1 d2 d3 d4 df0 df1 df2 df3 df4
  have H5 := H5h.out
  clear H5h
  obtain ⟨ad2, c3, hv2, hcl, hst⟩ := Hy.Sep.setAt H5 0 rfl (j := i) (r := [.int .i64 x]) (by unfold ins; rw [List.getElem?_map, hxh.out]; rfl)
  injection hv2 with e4 e5 e6
  injection e4 with e4
  subst e4
  have z0 := hcl 0 _ rfl
  rw [Nat.mul_one, Nat.add_zero] at z0
  obtain ⟨f0, hs2⟩ := hst 0 (by omega) (ad.add i) (by rw [Nat.mul_one, Nat.add_zero])
  have H6 := hs2 (.int .i64 t)
  have er : (ins l).set i ([Value.int .i64 x].set 0 (.int .i64 t)) = ins (l.set i t) := by unfold ins; rw [List.map_set]; rfl
  rw [er] at H6
  have b2 : w5.cell? ⟨w.heap.size, 2, none⟩ = some (.slice (some ad) l.length c') := (H5.blk 2 rfl).cell 2
  have H6h := Lib.hid H6
  clear H5 H6 hst hs2 hcl er e5 e6
  go_upto_region 5 with fail
  generalize w5.setCell (ad.add i) (.int .i64 t) = w6 at *
  clear z0 f0 b2
  have H6 := H6h.out
  clear H6h
  have hB6 := H6.blk 2 rfl
  have hZ6 := H6.blk 1 rfl
  have b0 : w6.cell? ⟨w.heap.size, 0, none⟩ = some (.int .i64 g) := hB6.cell 0
  have b1 : w6.cell? ⟨w.heap.size, 1, none⟩ = some (.int .i64 s) := hB6.cell 1
  have b2 : w6.cell? ⟨w.heap.size, 2, none⟩ = some (.slice (some ad) l.length c') := hB6.cell 2
  have b3 : w6.cell? ⟨w.heap.size, 3, none⟩ = some (.int .i64 m) := hB6.cell 3
  have b4 : w6.cell? ⟨w.heap.size, 4, none⟩ = some (.slice none 0 0) := hB6.cell 4
  have z0 : World.cell? (w6) ⟨w.heap.size + 1, 0, none⟩ = some _ := (hZ6).cell 0
  have zf0 : World.frozen? (w6) ⟨w.heap.size + 1, 0, none⟩ = false := (hZ6).frozen 0
  have z1 : World.cell? (w6) ⟨w.heap.size + 1, 1, none⟩ = some _ := (hZ6).cell 1
  have zf1 : World.frozen? (w6) ⟨w.heap.size + 1, 1, none⟩ = false := (hZ6).frozen 1
  have z2 : World.cell? (w6) ⟨w.heap.size + 1, 2, none⟩ = some _ := (hZ6).cell 2
  have zf2 : World.frozen? (w6) ⟨w.heap.size + 1, 2, none⟩ = false := (hZ6).frozen 2
  have z3 : World.cell? (w6) ⟨w.heap.size + 1, 3, none⟩ = some _ := (hZ6).cell 3
  have zf3 : World.frozen? (w6) ⟨w.heap.size + 1, 3, none⟩ = false := (hZ6).frozen 3
  have z4 : World.cell? (w6) ⟨w.heap.size + 1, 4, none⟩ = some _ := (hZ6).cell 4
  have zf4 : World.frozen? (w6) ⟨w.heap.size + 1, 4, none⟩ = false := (hZ6).frozen 4
  have H7 := ((((H6.set 1 rfl 0 (.int .i64 g)).set 1 rfl 1 (.int .i64 s)).set 1 rfl 2 (.slice (some ad) l.length c')).set 1 rfl 3 (.int .i64 m)).set 1 rfl 4 (.slice none 0 0)
  have hR := H7.blk 1 rfl
  have O := H7.own 0 rfl
  have T := H7.t
  have Mi := mine_own H7 0 rfl
  clear H6 H7 hB6 hZ6
  go_wp2_with fail
  refine bodyPost_ret (res_list (rs := [.cell 6 38, .tmp 7]) rfl (by simp) (.cell (w.heap.size + 1) _ _ _ rfl hR Try.underlying38 rfl (by kernel_rfl) (.tmp .nil))) rfl ?_
  exact ⟨_, rfl, O, T, fun q hq => by simpa using Mi q hq⟩
end Go.Proofs.Ytmaielpfeajelaa.Tc
