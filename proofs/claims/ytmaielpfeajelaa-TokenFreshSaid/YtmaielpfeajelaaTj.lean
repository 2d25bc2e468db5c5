/- TokenFresh. -/
import Derived.Test.YtmaielpfeajelaaTg
import Derived.Test.YtmaielpfeajelaaTi
import Derived.Test.YtmaielpfeajelaaHa
set_option linter.unusedVariables false
set_option linter.unusedSimpArgs false
set_option maxRecDepth 100000
namespace Go.Proofs.Ytmaielpfeajelaa.Tj
open Go.RowKit Go.MapKept Go.ChangeShapes Go.WideShapes Go.Shelf Hm Hs Hf Hg Ho Hn Ha Hv Hx Hy Sm Sat Ya Ta Tb Tc Td Te Tg Th Ti Rg Ss Re Rf
/-- what a Fresh gives -/
def Gives (f : Nat) (g n node now G M E : Int) (L : List Int) : Prop := ∀ W, Calls Try.prog f #[.int .i64 g, .int .i64 n, .int .i64 node, .int .i64 now] W fun e w' => ∃ u, e = .returned (.tuple #[tk G 0 u M (.slice none 0 0), .int .i64 E]) ∧ OwnS 3 1 w' u (ins L) ∧ Turns [] W w' ∧ (∀ k, u.ownBlock = some k → W.heap.size ≤ k)
theorem gives_no {f : Nat} {g n node now : Int} (h : ∀ W, Calls Try.prog f #[.int .i64 g, .int .i64 n, .int .i64 node, .int .i64 now] W fun e w' => e = .returned (.tuple #[tk 0 0 (.slice none 0 0) 0 (.slice none 0 0), .int .i64 1]) ∧ Turns [] W w') : Gives f g n node now 0 0 1 [] :=
  fun W => (h W).mono fun e w' ⟨h1, h2⟩ => ⟨_, h1, OwnS.nil _ _ _, h2, by simp [Value.ownBlock]⟩
theorem tok_now {g m : Int} {n node : Nat} {now : Int} (hd : node < n) (h : tokB g 0 (freshL n node now) m = true) : now ≤ 4611686018427387903 := by
  unfold tokB at h
  simp only [Bool.and_eq_true, Bool.not_eq_true', List.any_eq_false] at h
  have hx := freshL_get n node now hd
  rw [if_pos rfl] at hx
  have := h.2.2.2.1 now (List.mem_of_getElem? hx)
  unfold offB inB at this
  simp at this
  omega
theorem both (g n node now : Int) : ∃ (G M E : Int) (L : List Int), L.length ≤ 64 ∧ Gives 11 g n node now G M E L ∧ Gives 12 g n node now G M E L := by
  by_cases h : (1 ≤ n ∧ n ≤ 64) ∧ 0 ≤ node ∧ node < n
  · obtain ⟨hn, hd⟩ := h
    obtain ⟨N, rfl⟩ : ∃ N : Nat, n = N := ⟨n.toNat, by omega⟩
    obtain ⟨D, rfl⟩ : ∃ D : Nat, node = D := ⟨node.toNat, by omega⟩
    have hR : ∀ W, _ := fun W => rfresh_is g N D now W (by omega) (by omega)
    cases hok : okF g N D now with
    | true =>
      have h1 := hok
      unfold okF at h1
      rw [Bool.and_eq_true, decide_eq_true_eq] at h1
      have h2 := tok_now (by omega) h1.1
      refine ⟨g, now, 0, freshL N D now, by unfold freshL; simp; omega, fun W => fresh_ok g N D now W (by omega) (by omega) (by omega) h1.1, fun W => (hR W).mono fun e w' h => ?_⟩
      rcases h with ⟨_, h⟩ | ⟨h, _⟩
      · exact h
      · rw [hok] at h; cases h
    | false =>
      refine ⟨0, 0, 1, [], by simp, gives_no (fun W => ?_), gives_no (fun W => (hR W).mono fun e w' h => ?_)⟩
      · by_cases ht : 0 ≤ now ∧ now < 4611686018427387904
        · have h1 := hok
          unfold okF at h1
          rw [decide_eq_true ht.1, Bool.and_true] at h1
          exact fresh_tok g N D now W (by omega) (by omega) ht h1
        · exact fresh_st g N D now W (by omega) (fun h => ht h.2)
      · rcases h with ⟨h, _⟩ | ⟨_, h⟩
        · rw [hok] at h; cases h
        · exact h
  · refine ⟨0, 0, 1, [], by simp, gives_no (fun W => ?_), gives_no (fun W => rfresh_n g n node now W h)⟩
    by_cases hn : 1 ≤ n ∧ n ≤ 64
    · obtain ⟨N, rfl⟩ : ∃ N : Nat, n = N := ⟨n.toNat, by omega⟩
      exact fresh_st g N node now W (by omega) (fun h2 => h ⟨hn, h2.1⟩)
    · exact fresh_n g n node now W hn
set_option maxHeartbeats 2000000 in
theorem fresh_law (w : World) (g n node now a b c d : Int) :
    Calls Try.prog 4 #[.agg #[.int .i64 g, .int .i64 n, .int .i64 node, .int .i64 now], .agg #[.int .i64 a, .int .i64 b], .agg #[.int .i64 c, .int .i64 d]] w fun e w' => e = .returned (.bool true) ∧ Turns [] w w' := by
  obtain ⟨G, M, E, L, hL, F1, F2⟩ := both g n node now
  have F1h := Lib.hid F1
  have F2h := Lib.hid F2
  have H := (((Sep.start w).alloc #[.int .i64 g, .int .i64 n, .int .i64 node, .int .i64 now] 25).alloc #[.int .i64 a, .int .i64 b] 32).alloc #[.int .i64 c, .int .i64 d] 32
  simp only [World.size_alloc] at H
  have x0 : World.cell? (_) ⟨w.heap.size, 0, none⟩ = some _ := (H.blk 2 rfl).cell 0
  have x1 : World.cell? (_) ⟨w.heap.size, 1, none⟩ = some _ := (H.blk 2 rfl).cell 1
  have x2 : World.cell? (_) ⟨w.heap.size, 2, none⟩ = some _ := (H.blk 2 rfl).cell 2
  have x3 : World.cell? (_) ⟨w.heap.size, 3, none⟩ = some _ := (H.blk 2 rfl).cell 3
  have Hh := Lib.hid H
  have N1 := Lib.hid (fun W => newer_is a b c d W)
  have N2 := Lib.hid (fun W => rnewer_is a b c d W)
  generalize newerB a b c d = nb at *
  clear H F1 F2
  go_enter Try.func4, Try.ntmps4
  go_wp2_with fail
  go_at_call 11
  refine Calls.mono (F1h.out _) ?_
  rintro e w1 ⟨u, rfl, o1, t1, hb1⟩
  have H := Hh.out.newSlice t1 o1 hb1
  obtain ⟨A1, c1, rfl, _⟩ := formI o1
  replace H := H.alloc #[.int .i64 G, .int .i64 0, .slice A1 L.length c1, .int .i64 M, .slice none 0 0] 38
  clear x0 x1 x2 x3
  have y0 : World.cell? (_) ⟨w.heap.size, 0, none⟩ = some _ := (H.blk 4 rfl).cell 0
  have y1 : World.cell? (_) ⟨w.heap.size, 1, none⟩ = some _ := (H.blk 4 rfl).cell 1
  have y2 : World.cell? (_) ⟨w.heap.size, 2, none⟩ = some _ := (H.blk 4 rfl).cell 2
  have y3 : World.cell? (_) ⟨w.heap.size, 3, none⟩ = some _ := (H.blk 4 rfl).cell 3
  have Hh2 := Lib.hid H
  clear H Hh o1 t1 hb1
  go_wp2_with fail
  go_at_call 12
  refine Calls.mono (F2h.out _) ?_
  rintro e w2 ⟨u, rfl, o2, t2, hb2⟩
  have H := Hh2.out.newSlice t2 o2 hb2
  obtain ⟨A2, c2, rfl, _⟩ := formI o2
  replace H := H.alloc #[.int .i64 G, .int .i64 0, .slice A2 L.length c2, .int .i64 M, .slice none 0 0] 38
  clear y0 y1 y2 y3
  have z0 : World.cell? (_) ⟨w1.heap.size, 0, none⟩ = some _ := (H.blk 2 rfl).cell 0
  have z1 : World.cell? (_) ⟨w1.heap.size, 1, none⟩ = some _ := (H.blk 2 rfl).cell 1
  have z2 : World.cell? (_) ⟨w1.heap.size, 2, none⟩ = some _ := (H.blk 2 rfl).cell 2
  have z3 : World.cell? (_) ⟨w1.heap.size, 3, none⟩ = some _ := (H.blk 2 rfl).cell 3
  have z4 : World.cell? (_) ⟨w1.heap.size, 4, none⟩ = some _ := (H.blk 2 rfl).cell 4
  have S1 := Lib.hid (sameToken0_is G 0 M _ _ L _ (H.own 3 rfl).reads (H.own 1 rfl).reads)
  have Hh3 := Lib.hid H
  clear H Hh2 o2 t2 hb2
  go_wp2_with fail
  go_at_call 13
  refine Calls.mono (S1.out) ?_
  rintro e w3 ⟨rfl, t3⟩
  have H := (Hh3.out.turns t3).drew
  have T3 := H.t
  have p0 : w3.drew.cell? ⟨w.heap.size + 1, 0, none⟩ = some (.int .i64 a) := (H.blk 5 rfl).cell 0
  have p1 : w3.drew.cell? ⟨w.heap.size + 1, 1, none⟩ = some (.int .i64 b) := (H.blk 5 rfl).cell 1
  have r0 : w3.drew.cell? ⟨w.heap.size + 1 + 1, 0, none⟩ = some (.int .i64 c) := (H.blk 4 rfl).cell 0
  have r1 : w3.drew.cell? ⟨w.heap.size + 1 + 1, 1, none⟩ = some (.int .i64 d) := (H.blk 4 rfl).cell 1
  clear z0 z1 z2 z3 z4 Hh3 H S1 t3
  go_wp2_with fail
  go_wp2_with fail
  refine wp_region_flo [(0, true), (1, true), (2, true), (3, true), (4, true), (5, true), (6, true), (7, true), (8, true), (9, true), (11, true), (12, true), (10, false), (13, false), (14, true), (15, true)] (fun W => Turns [] w3.drew W) (by kernel_rfl) rfl (by kernel_rfl) (by intro c d v a w h; cases d <;> first | (simpa [Exit.then, Exit.inBlock, Act.put] using h) | exact h) (Turns.refl _ _) ?_
  generalize w3.drew = w4 at *
  refine flo_read _ rfl (fun K hK => ?_)
  go_simp
  first | (refine hK _ ?_) | (refine ⟨fun W hS => ?_, hK _ ?_⟩; · (have x0 := hS.old p0; have x1 := hS.old p1; have y0 := hS.old r0; have y1 := hS.old r1; try go_simp))
  clear hK K
  refine flo_read _ rfl (fun K hK => ?_)
  go_simp
  first | (refine hK _ ?_) | (refine ⟨fun W hS => ?_, hK _ ?_⟩; · (have x0 := hS.old p0; have x1 := hS.old p1; have y0 := hS.old r0; have y1 := hS.old r1; try go_simp))
  clear hK K
  refine flo_read _ rfl (fun K hK => ?_)
  go_simp
  first | (refine hK _ ?_) | (refine ⟨fun W hS => ?_, hK _ ?_⟩; · (have x0 := hS.old p0; have x1 := hS.old p1; have y0 := hS.old r0; have y1 := hS.old r1; try go_simp))
  clear hK K
  refine flo_read _ rfl (fun K hK => ?_)
  go_simp
  first | (refine hK _ ?_) | (refine ⟨fun W hS => ?_, hK _ ?_⟩; · (have x0 := hS.old p0; have x1 := hS.old p1; have y0 := hS.old r0; have y1 := hS.old r1; try go_simp))
  clear hK K
  refine flo_read _ rfl (fun K hK => ?_)
  go_simp
  first | (refine hK _ ?_) | (refine ⟨fun W hS => ?_, hK _ ?_⟩; · (have x0 := hS.old p0; have x1 := hS.old p1; have y0 := hS.old r0; have y1 := hS.old r1; try go_simp))
  clear hK K
  refine flo_read _ rfl (fun K hK => ?_)
  go_simp
  first | (refine hK _ ?_) | (refine ⟨fun W hS => ?_, hK _ ?_⟩; · (have x0 := hS.old p0; have x1 := hS.old p1; have y0 := hS.old r0; have y1 := hS.old r1; try go_simp))
  clear hK K
  refine flo_read _ rfl (fun K hK => ?_)
  go_simp
  first | (refine hK _ ?_) | (refine ⟨fun W hS => ?_, hK _ ?_⟩; · (have x0 := hS.old p0; have x1 := hS.old p1; have y0 := hS.old r0; have y1 := hS.old r1; try go_simp))
  clear hK K
  refine flo_read _ rfl (fun K hK => ?_)
  go_simp
  first | (refine hK _ ?_) | (refine ⟨fun W hS => ?_, hK _ ?_⟩; · (have x0 := hS.old p0; have x1 := hS.old p1; have y0 := hS.old r0; have y1 := hS.old r1; try go_simp))
  clear hK K
  refine flo_read _ rfl (fun K hK => ?_)
  go_simp
  first | (refine hK _ ?_) | (refine ⟨fun W hS => ?_, hK _ ?_⟩; · (have x0 := hS.old p0; have x1 := hS.old p1; have y0 := hS.old r0; have y1 := hS.old r1; try go_simp))
  clear hK K
  refine flo_read _ rfl (fun K hK => ?_)
  go_simp
  first | (refine hK _ ?_) | (refine ⟨fun W hS => ?_, hK _ ?_⟩; · (have x0 := hS.old p0; have x1 := hS.old p1; have y0 := hS.old r0; have y1 := hS.old r1; try go_simp))
  clear hK K
  refine flo_read _ rfl (fun K hK => ?_)
  go_simp
  first | (refine hK _ ?_) | (refine ⟨fun W hS => ?_, hK _ ?_⟩; · (have x0 := hS.old p0; have x1 := hS.old p1; have y0 := hS.old r0; have y1 := hS.old r1; try go_simp))
  clear hK K
  refine flo_read _ rfl (fun K hK => ?_)
  go_simp
  first | (refine hK _ ?_) | (refine ⟨fun W hS => ?_, hK _ ?_⟩; · (have x0 := hS.old p0; have x1 := hS.old p1; have y0 := hS.old r0; have y1 := hS.old r1; try go_simp))
  clear hK K
  refine flo_alone _ rfl ?_
  go_wp2_with fail
  go_at_call 14
  refine Calls.mono (N1.out _) ?_
  rintro e w5 ⟨rfl, t5⟩
  go_wp2_with fail
  refine ⟨fun W => Turns [] w5 W, fun W h => t5.trans h, Turns.refl _ _, ?_⟩
  refine flo_alone _ rfl ?_
  go_wp2_with fail
  go_at_call 15
  refine Calls.mono (N2.out _) ?_
  rintro e w6 ⟨rfl, t6⟩
  go_wp2_with fail
  refine ⟨fun W => Turns [] w6 W, fun W h => t6.trans h, Turns.refl _ _, ?_⟩
  have T6 := (T3.trans t5).trans t6
  clear p0 p1 r0 r1 t5 t6 T3
  refine flo_read _ rfl (fun K hK => ?_)
  go_simp
  first | (refine hK _ ?_) | (refine ⟨fun W hS => ?_, hK _ ?_⟩; · (skip; try go_simp))
  clear hK K
  refine flo_read _ rfl (fun K hK => ?_)
  go_simp
  first | (refine hK _ ?_) | (refine ⟨fun W hS => ?_, hK _ ?_⟩; · (skip; try go_simp))
  clear hK K
  refine flo_end ?_
  go_wp2_with fail
  go_at_call 16
  refine Calls.mono (alive_is _) ?_
  rintro e w7 ⟨rfl, t7⟩
  go_wp2_with fail
  go_ret
  exact ⟨rfl, T6.trans t7⟩
theorem fresh_opened {H : Type} (enc : TypeId × Value → H) (W : World) {base : Nat} {v0 v1 v2 : Value} {d0 d1 d2 : DataW H} {p0 p1 p2 : List MemPlace} (h0 : DataW.Trod enc Try.prog W 0 (fun _ => true) true 25 v0 d0 p0)
    (h1 : DataW.Trod enc Try.prog W 0 (fun _ => true) true 32 v1 d1 p1) (h2 : DataW.Trod enc Try.prog W 0 (fun _ => true) true 32 v2 d2 p2)
    (o0 : Value.okWide Try.prog W .any base 25 v0) (o1 : Value.okWide Try.prog W .any base 32 v1) (o2 : Value.okWide Try.prog W .any base 32 v2) :
    Calls Try.prog 4 #[v0, v1, v2] W fun e w' => e = .returned (.bool true) ∧ Below W.heap.size W w' := by
  obtain ⟨cs, rfl, kf⟩ := arg_array Try.underlying25 (nArray Try.underlying25 (nInt Try.underlying3 (by kernel_rfl)) (by kernel_rfl)) h0 o0
  obtain ⟨_, r0, rfl, ⟨n0, rfl, w0⟩, k0⟩ := (show Kds W [kInt .i64, kInt .i64, kInt .i64, kInt .i64] cs from kf).out
  obtain ⟨_, r1, rfl, ⟨n1, rfl, w1⟩, k1⟩ := k0.out
  obtain ⟨_, r2, rfl, ⟨n2, rfl, w2⟩, k2⟩ := k1.out
  obtain ⟨_, r3, rfl, ⟨n3, rfl, w3⟩, k3⟩ := k2.out
  obtain rfl := k3.none
  obtain ⟨cs, rfl, kf⟩ := arg_array Try.underlying32 (nArray Try.underlying32 (nInt Try.underlying3 (by kernel_rfl)) (by kernel_rfl)) h1 o1
  obtain ⟨_, r0, rfl, ⟨a, rfl, _⟩, k0⟩ := (show Kds W [kInt .i64, kInt .i64] cs from kf).out
  obtain ⟨_, r1, rfl, ⟨b, rfl, _⟩, k1⟩ := k0.out
  obtain rfl := k1.none
  obtain ⟨cs, rfl, kf⟩ := arg_array Try.underlying32 (nArray Try.underlying32 (nInt Try.underlying3 (by kernel_rfl)) (by kernel_rfl)) h2 o2
  obtain ⟨_, r0, rfl, ⟨c, rfl, _⟩, k0⟩ := (show Kds W [kInt .i64, kInt .i64] cs from kf).out
  obtain ⟨_, r1, rfl, ⟨d, rfl, _⟩, k1⟩ := k0.out
  obtain rfl := k1.none
  exact (fresh_law W n0 n1 n2 n3 a b c d).mono fun e w' ⟨he, t⟩ => ⟨he, t.isBelow⟩
end Go.Proofs.Ytmaielpfeajelaa.Tj
