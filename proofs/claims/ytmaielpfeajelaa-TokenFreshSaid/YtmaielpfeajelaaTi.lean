/- The document's Fresh, Newer; SameToken (tokens with an empty table). -/
import Derived.Test.YtmaielpfeajelaaTh
set_option linter.unusedVariables false
set_option linter.unusedSimpArgs false
set_option maxRecDepth 100000
namespace Go.Proofs.Ytmaielpfeajelaa.Ti
open Go.RowKit Go.MapKept Go.Shelf Hm Hs Hf Hg Hv Hx Hy Sm Sat Ya Ta Tb Tc Td Th Rg Ss Re Rf Rs
theorem rnewer_is (g1 h1 g2 h2 : Int) (w : World) : Calls Try.prog 15 #[.agg #[.int .i64 g1, .int .i64 h1], .agg #[.int .i64 g2, .int .i64 h2]] w fun e w' => e = .returned (.bool (newerB g1 h1 g2 h2)) ∧ Turns [] w w' := by
  have T0 := ((Turns.refl [] w).alloc (.cells #[.int .i64 g1, .int .i64 h1] 32)).alloc (.cells #[.int .i64 g2, .int .i64 h2] 32)
  unfold newerB
  by_cases h : g1 = g2
  · have e1 : (g1 == g2) = true := by simpa using h
    have e2 : decide (g1 > g2) = false := decide_eq_false (by omega)
    rw [if_pos h]
    generalize hq : decide (h1 > h2) = q
    clear h
    go_enter Try.func15, Try.ntmps15
    go_wp2_with fail
    go_ret
    exact ⟨rfl, T0⟩
  · have e1 : (g1 == g2) = false := by simpa using h
    rw [if_neg h]
    cases hq : decide (g1 > g2) with
    | true =>
      clear h
      go_enter Try.func15, Try.ntmps15
      go_wp2_with fail
      go_ret
      exact ⟨rfl, T0⟩
    | false =>
      clear h
      go_enter Try.func15, Try.ntmps15
      go_wp2_with fail
      go_ret
      exact ⟨rfl, T0⟩
theorem sameTable0_is (m : Int) (w : World) : Calls Try.prog 36 #[.agg #[.int .i64 m, .slice none 0 0], .agg #[.int .i64 m, .slice none 0 0]] w fun e w' => e = .returned (.bool true) ∧ Turns [] w w' := by
  have T0 := ((Turns.refl [] w).alloc (.cells #[.int .i64 m, .slice none 0 0] 36)).alloc (.cells #[.int .i64 m, .slice none 0 0] 36)
  have H := ((Sep.start w).alloc #[.int .i64 m, .slice none 0 0] 36).alloc #[.int .i64 m, .slice none 0 0] 36
  rw [World.size_alloc] at H
  have c0 : World.cell? (_) ⟨w.heap.size, 0, none⟩ = some _ := (H.blk 1 rfl).cell 0
  have c1 : World.cell? (_) ⟨w.heap.size, 1, none⟩ = some _ := (H.blk 1 rfl).cell 1
  have d0 : World.cell? (_) ⟨w.heap.size + 1, 0, none⟩ = some _ := (H.blk 0 rfl).cell 0
  have d1 : World.cell? (_) ⟨w.heap.size + 1, 1, none⟩ = some _ := (H.blk 0 rfl).cell 1
  clear H
  go_enter Try.func36, Try.ntmps36
  go_wp2_with fail
  go_loopw [5] (fun v5 wr => v5 = .int .i64 0 ∧ wr = (w.alloc (.cells #[.int .i64 m, .slice none 0 0] 36)).alloc (.cells #[.int .i64 m, .slice none 0 0] 36)) (fun v5 _ => 0)
  case atStart => exact ⟨rfl, rfl⟩
  case round =>
    obtain ⟨rfl, rfl⟩ := hrel
    go_wp2_with fail
    go_ret
    exact ⟨rfl, T0⟩
theorem sameToken0_is (g s m : Int) (v u : Value) (l : List Int) (w : World) (hv : RdS 1 w v (ins l)) (hu : RdS 1 w u (ins l)) : Calls Try.prog 13 #[tk g s v m (.slice none 0 0), tk g s u m (.slice none 0 0)] w fun e w' => e = .returned (.bool true) ∧ Turns [] w w' := by
  have H := ((Sep.start w).alloc #[.int .i64 g, .int .i64 s, v, .int .i64 m, .slice none 0 0] 38).alloc #[.int .i64 g, .int .i64 s, u, .int .i64 m, .slice none 0 0] 38
  have T0 := H.t
  have S1 := Lib.hid (same_is _ v u l (hv.mv (fun a u => T0.old)) (hu.mv (fun a u => T0.old)))
  rw [World.size_alloc] at H
  have Tb := Lib.hid (fun w => sameTable0_is m w)
  obtain ⟨A, c, rfl, _⟩ := hv.form
  obtain ⟨B, d, rfl, _⟩ := hu.form
  rw [ins_len] at *
  have c0 : World.cell? (_) ⟨w.heap.size, 0, none⟩ = some _ := (H.blk 1 rfl).cell 0
  have c1 : World.cell? (_) ⟨w.heap.size, 1, none⟩ = some _ := (H.blk 1 rfl).cell 1
  have c2 : World.cell? (_) ⟨w.heap.size, 2, none⟩ = some _ := (H.blk 1 rfl).cell 2
  have c3 : World.cell? (_) ⟨w.heap.size, 3, none⟩ = some _ := (H.blk 1 rfl).cell 3
  have c4 : World.cell? (_) ⟨w.heap.size, 4, none⟩ = some _ := (H.blk 1 rfl).cell 4
  have d0 : World.cell? (_) ⟨w.heap.size + 1, 0, none⟩ = some _ := (H.blk 0 rfl).cell 0
  have d1 : World.cell? (_) ⟨w.heap.size + 1, 1, none⟩ = some _ := (H.blk 0 rfl).cell 1
  have d2 : World.cell? (_) ⟨w.heap.size + 1, 2, none⟩ = some _ := (H.blk 0 rfl).cell 2
  have d3 : World.cell? (_) ⟨w.heap.size + 1, 3, none⟩ = some _ := (H.blk 0 rfl).cell 3
  have d4 : World.cell? (_) ⟨w.heap.size + 1, 4, none⟩ = some _ := (H.blk 0 rfl).cell 4
  clear H hv hu
  go_enter Try.func13, Try.ntmps13
  go_wp2_with fail
  go_at_call 35
  refine Calls.mono (S1.out) ?_
  rintro e w1 ⟨rfl, t1⟩
  have T1 := T0.trans t1
  have x0 := t1.old c0
  have x1 := t1.old c1
  have x3 := t1.old c3
  have x4 := t1.old c4
  have y0 := t1.old d0
  have y1 := t1.old d1
  have y3 := t1.old d3
  have y4 := t1.old d4
  clear c0 c1 c2 c3 c4 d0 d1 d2 d3 d4 t1 T0 S1
  go_wp2_with fail
  go_at_call 36
  refine Calls.mono (Tb.out _) ?_
  rintro e w2 ⟨rfl, t2⟩
  have T2 := T1.trans t2
  have X0 := t2.old x0
  have X1 := t2.old x1
  have Y0 := t2.old y0
  have Y1 := t2.old y1
  clear x0 x1 x3 x4 y0 y1 y3 y4 t2 T1
  go_wp2_with fail
  go_ret
  exact ⟨rfl, T2⟩
theorem rfresh_n (g n node now : Int) (w : World) (hn : ¬ ((1 ≤ n ∧ n ≤ 64) ∧ 0 ≤ node ∧ node < n)) :
    Calls Try.prog 12 #[.int .i64 g, .int .i64 n, .int .i64 node, .int .i64 now] w fun e w' => e = .returned (.tuple #[tk 0 0 (.slice none 0 0) 0 (.slice none 0 0), .int .i64 1]) ∧ Turns [] w w' := by
  have H := (Sep.start w).alloc #[.int .i64 0, .int .i64 0, .slice none 0 0, .int .i64 0, .slice none 0 0] 38
  have hR := H.blk 0 rfl
  have T := H.t
  have hc : n < 1 ∨ (¬ n < 1 ∧ n > 64) ∨ ((¬ n < 1 ∧ ¬ n > 64) ∧ node < 0) ∨ ((¬ n < 1 ∧ ¬ n > 64 ∧ ¬ node < 0) ∧ node ≥ n) := by omega
  clear hn H
  rcases hc with h1 | ⟨h1, h2⟩ | ⟨⟨h1, h2⟩, h3⟩ | ⟨⟨h1, h2, h3⟩, h4⟩
  · have g1 := decide_eq_true h1
    clear h1
    go_enter Try.func12, Try.ntmps12
    go_wp2_with fail
    refine bodyPost_ret (res_list (rs := [.cell 8 38, .tmp 9]) rfl (by simp) (.cell w.heap.size _ _ _ rfl hR Try.underlying38 rfl (by kernel_rfl) (.tmp .nil))) rfl ?_
    exact ⟨rfl, T⟩
  · have g1 := decide_eq_false h1
    have g2 := decide_eq_true h2
    clear h1 h2
    go_enter Try.func12, Try.ntmps12
    go_wp2_with fail
    refine bodyPost_ret (res_list (rs := [.cell 8 38, .tmp 9]) rfl (by simp) (.cell w.heap.size _ _ _ rfl hR Try.underlying38 rfl (by kernel_rfl) (.tmp .nil))) rfl ?_
    exact ⟨rfl, T⟩
  · have g1 := decide_eq_false h1
    have g2 := decide_eq_false h2
    have g3 := decide_eq_true h3
    clear h1 h2 h3
    go_enter Try.func12, Try.ntmps12
    go_wp2_with fail
    refine bodyPost_ret (res_list (rs := [.cell 8 38, .tmp 9]) rfl (by simp) (.cell w.heap.size _ _ _ rfl hR Try.underlying38 rfl (by kernel_rfl) (.tmp .nil))) rfl ?_
    exact ⟨rfl, T⟩
  · have g1 := decide_eq_false h1
    have g2 := decide_eq_false h2
    have g3 := decide_eq_false h3
    have g4 := decide_eq_true h4
    clear h1 h2 h3 h4
    go_enter Try.func12, Try.ntmps12
    go_wp2_with fail
    refine bodyPost_ret (res_list (rs := [.cell 8 38, .tmp 9]) rfl (by simp) (.cell w.heap.size _ _ _ rfl hR Try.underlying38 rfl (by kernel_rfl) (.tmp .nil))) rfl ?_
    exact ⟨rfl, T⟩
theorem freshL_get (n node : Nat) (now : Int) {k : Nat} (hk : k < n) : (freshL n node now)[k]? = some (if k = node then now else -1) := by
  unfold freshL
  rw [List.getElem?_set]
  by_cases e : node = k
  · subst e; rw [if_pos rfl, if_pos (by simpa using hk), if_pos rfl]
  · rw [if_neg e, if_neg (fun h => e h.symm), List.getElem?_replicate, if_pos hk]
def okF (g : Int) (n node : Nat) (now : Int) : Bool := tokB g 0 (freshL n node now) now && decide (0 ≤ now)
set_option maxHeartbeats 2000000 in
theorem rfresh_is (g : Int) (n node : Nat) (now : Int) (w : World) (hn : 1 ≤ n ∧ n ≤ 64) (hd : node < n) :
    Calls Try.prog 12 #[.int .i64 g, .int .i64 n, .int .i64 node, .int .i64 now] w fun e w' => (okF g n node now = true ∧ ∃ u, e = .returned (.tuple #[tk g 0 u now (.slice none 0 0), .int .i64 0]) ∧ OwnS 3 1 w' u (ins (freshL n node now)) ∧ Turns [] w w' ∧ (∀ k, u.ownBlock = some k → w.heap.size ≤ k)) ∨ (okF g n node now = false ∧ e = .returned (.tuple #[tk 0 0 (.slice none 0 0) 0 (.slice none 0 0), .int .i64 1]) ∧ Turns [] w w') := by
  have H := (((Sep.start w).alloc #[.int .i64 0, .int .i64 0, .slice none 0 0, .int .i64 0, .slice none 0 0] 38).nilSlice 3 1).alloc #[.int .i64 g, .int .i64 0, .slice none 0 0, .int .i64 now, .slice none 0 0] 38
  rw [World.size_alloc] at H
  have g1 : decide ((n : Int) < 1) = false := decide_eq_false (by omega)
  have g2 : decide ((n : Int) > 64) = false := decide_eq_false (by omega)
  have g3 : decide ((node : Int) < 0) = false := decide_eq_false (by omega)
  have g4 : decide ((node : Int) ≥ (n : Int)) = false := decide_eq_false (by omega)
  have g4b : decide (n ≤ node) = false := decide_eq_false (by omega)
  have K1 := Lib.hid (fun W v hr => rtoken0_is g 0 now v (freshL n node now) W hr (by unfold freshL; simp; omega))
  have hfl : (freshL n node now).length = n := by unfold freshL; simp
  have hget := Lib.hid (fun k h => freshL_get n node now (k := k) h)
  obtain ⟨X, hX⟩ : ∃ X : Ending → World → Prop, X = fun e w' => (okF g n node now = true ∧ ∃ u, e = .returned (.tuple #[tk g 0 u now (.slice none 0 0), .int .i64 0]) ∧ OwnS 3 1 w' u (ins (freshL n node now)) ∧ Turns [] w w' ∧ (∀ k, u.ownBlock = some k → w.heap.size ≤ k)) ∨ (okF g n node now = false ∧ e = .returned (.tuple #[tk 0 0 (.slice none 0 0) 0 (.slice none 0 0), .int .i64 1]) ∧ Turns [] w w') := ⟨_, rfl⟩
  rw [← hX]
  have hX1 : Hid (okF g n node now = true → ∀ w' u, OwnS 3 1 w' u (ins (freshL n node now)) → Turns [] w w' → (∀ k, u.ownBlock = some k → w.heap.size ≤ k) → X (.returned (.tuple #[tk g 0 u now (.slice none 0 0), .int .i64 0])) w') := Lib.hid (fun h w' u a b c => by rw [hX]; exact .inl ⟨h, u, rfl, a, b, c⟩)
  have hX2 : Hid (okF g n node now = false → ∀ w', Turns [] w w' → X (.returned (.tuple #[tk 0 0 (.slice none 0 0) 0 (.slice none 0 0), .int .i64 1])) w') := Lib.hid (fun h w' b => by rw [hX]; exact .inr ⟨h, rfl, b⟩)
  unfold okF at hX1 hX2
  generalize tokB g 0 (freshL n node now) now = tb at *
  generalize freshL n node now = L at *
  clear hX
  go_enter Try.func12, Try.ntmps12
  go_wp2_with fail
  go_loopw [11] (fun v11 wr => ∃ (k : Nat) (hv : Value), k ≤ n ∧ v11 = .int .i64 k ∧ Sep [] w [tBlk (w.heap.size + 1) #[.int .i64 g, .int .i64 0, hv, .int .i64 now, .slice none 0 0] 38, tOwn 3 1 hv (ins (L.take k)), tBlk w.heap.size #[.int .i64 0, .int .i64 0, .slice none 0 0, .int .i64 0, .slice none 0 0] 38] wr) (fun v11 _ => n - (RowKit.intOf v11).toNat)
  case atStart => exact ⟨0, _, by omega, rfl, H⟩
  case round =>
    clear H
    obtain ⟨k, hv, hk, rfl, H⟩ := hrel
    have el : (L.take k).length = k := by rw [List.length_take]; omega
    obtain ⟨A, c, hvv, _⟩ := formI (H.own 1 rfl)
    rw [el] at hvv
    subst hvv
    by_cases hlt : k < n
    · have g5 : decide ((k : Int) < (n : Int)) = true := decide_eq_true (by omega)
      have g5b : decide (k < n) = true := decide_eq_true hlt
      have c2 : World.cell? (wr) ⟨w.heap.size + 1, 2, none⟩ = some _ := (H.blk 0 rfl).cell 2
      have hg := hget.out k hlt
      by_cases e : k = node
      · have g6 : ((k : Int) == (node : Int)) = true := by simp [e]
        have g6b : decide (k = node) = true := decide_eq_true e
        have g6c : (k == node) = true := by simp [e]
        rw [if_pos e] at hg
        subst e
        have er : ins (L.take (k + 1)) = ins (L.take k) ++ ins [now] := by rw [Ta.take_next hg, ins_append]
        have O1 := Lib.hid (Td.oneI wr now)
        replace H := H.alloc #[.int .i64 now] 3
        have hHh := Lib.hid H
        have erh := Lib.hid er
        have elh : Hid (k + 1 = (ins (L.take k)).length + (ins [now]).length) := Lib.hid (by rw [ins_len, ins_len, el]; rfl)
        clear H er hg el
        go_wp2_with (at_builtin; refine stop_ ?_)
        refine Mk_.mk ?_
        refine hHh.out.append 2 rfl O1.out (k + 1) elh.out (ins (L.take (k + 1))) erh.out rfl _ _ _ rfl (.int .i64 0) 8 Try.underlying33 Ya.infoI rfl (by decide) rfl rfl (ins_one _) (by omega) (by omega) ?_
        clear hHh O1 elh erh c2
        intro A4 c4 wn H tn _
        clear tn
        have d2 : World.cell? (wn) ⟨w.heap.size + 1, 2, none⟩ = some _ := (H.blk 1 rfl).cell 2
        have df2 : World.frozen? (wn) ⟨w.heap.size + 1, 2, none⟩ = false := (H.blk 1 rfl).frozen 2
        have H2 := Lib.hid ((H.set 1 rfl 2 (.slice A4 (k + 1) c4)).keep [1, 2, 3])
        clear H
        go_wp2_with fail
        go_roundw
        case rel => exact ⟨k + 1, _, by omega, by go_num, H2.out⟩
        case measure => simp [RowKit.intOf]; omega
      · have g6 : ((k : Int) == (node : Int)) = false := by simp; omega
        have g6b : decide (k = node) = false := decide_eq_false e
        have g6c : (k == node) = false := by simpa using e
        rw [if_neg e] at hg
        have er : ins (L.take (k + 1)) = ins (L.take k) ++ ins [(-1)] := by rw [Ta.take_next hg, ins_append]
        have O1 := Lib.hid (Td.oneI wr (-1))
        replace H := H.alloc #[.int .i64 (-1)] 3
        have hHh := Lib.hid H
        have erh := Lib.hid er
        have elh : Hid (k + 1 = (ins (L.take k)).length + (ins [(-1)]).length) := Lib.hid (by rw [ins_len, ins_len, el]; rfl)
        clear H er hg el
        go_wp2_with (at_builtin; refine stop_ ?_)
        refine Mk_.mk ?_
        refine hHh.out.append 2 rfl O1.out (k + 1) elh.out (ins (L.take (k + 1))) erh.out rfl _ _ _ rfl (.int .i64 0) 8 Try.underlying33 Ya.infoI rfl (by decide) rfl rfl (ins_one _) (by omega) (by omega) ?_
        clear hHh O1 elh erh c2
        intro A4 c4 wn H tn _
        clear tn
        have d2 : World.cell? (wn) ⟨w.heap.size + 1, 2, none⟩ = some _ := (H.blk 1 rfl).cell 2
        have df2 : World.frozen? (wn) ⟨w.heap.size + 1, 2, none⟩ = false := (H.blk 1 rfl).frozen 2
        have H2 := Lib.hid ((H.set 1 rfl 2 (.slice A4 (k + 1) c4)).keep [1, 2, 3])
        clear H
        go_wp2_with fail
        go_roundw
        case rel => exact ⟨k + 1, _, by omega, by go_num, H2.out⟩
        case measure => simp [RowKit.intOf]; omega
    · obtain rfl : k = n := by omega
      have g5 : decide ((k : Int) < (k : Int)) = false := by simp
      rw [List.take_of_length_le (by omega)] at H
      have c0 : World.cell? (wr) ⟨w.heap.size + 1, 0, none⟩ = some _ := (H.blk 0 rfl).cell 0
      have c1 : World.cell? (wr) ⟨w.heap.size + 1, 1, none⟩ = some _ := (H.blk 0 rfl).cell 1
      have c2 : World.cell? (wr) ⟨w.heap.size + 1, 2, none⟩ = some _ := (H.blk 0 rfl).cell 2
      have c3 : World.cell? (wr) ⟨w.heap.size + 1, 3, none⟩ = some _ := (H.blk 0 rfl).cell 3
      have c4 : World.cell? (wr) ⟨w.heap.size + 1, 4, none⟩ = some _ := (H.blk 0 rfl).cell 4
      have K2 := Lib.hid (K1.out wr _ (H.own 1 rfl).reads)
      have Hh := Lib.hid H
      clear H K1 hget
      go_wp2_with fail
      go_at_call 34
      refine Calls.mono (K2.out) ?_
      rintro e w6 ⟨rfl, t6⟩
      have H6 := Hh.out.turns t6
      clear c0 c1 c2 c3 c4 Hh K2 t6
      have hB6 := H6.blk 0 rfl
      have hZ6 := H6.blk 2 rfl
      have b0 : w6.cell? ⟨w.heap.size + 1, 0, none⟩ = some (.int .i64 g) := hB6.cell 0
      have b1 : w6.cell? ⟨w.heap.size + 1, 1, none⟩ = some (.int .i64 0) := hB6.cell 1
      have b2 : w6.cell? ⟨w.heap.size + 1, 2, none⟩ = some (.slice A k c) := hB6.cell 2
      have b3 : w6.cell? ⟨w.heap.size + 1, 3, none⟩ = some (.int .i64 now) := hB6.cell 3
      have b4 : w6.cell? ⟨w.heap.size + 1, 4, none⟩ = some (.slice none 0 0) := hB6.cell 4
      have z0 : World.cell? (w6) ⟨w.heap.size, 0, none⟩ = some _ := (hZ6).cell 0
      have zf0 : World.frozen? (w6) ⟨w.heap.size, 0, none⟩ = false := (hZ6).frozen 0
      have z1 : World.cell? (w6) ⟨w.heap.size, 1, none⟩ = some _ := (hZ6).cell 1
      have zf1 : World.frozen? (w6) ⟨w.heap.size, 1, none⟩ = false := (hZ6).frozen 1
      have z2 : World.cell? (w6) ⟨w.heap.size, 2, none⟩ = some _ := (hZ6).cell 2
      have zf2 : World.frozen? (w6) ⟨w.heap.size, 2, none⟩ = false := (hZ6).frozen 2
      have z3 : World.cell? (w6) ⟨w.heap.size, 3, none⟩ = some _ := (hZ6).cell 3
      have zf3 : World.frozen? (w6) ⟨w.heap.size, 3, none⟩ = false := (hZ6).frozen 3
      have z4 : World.cell? (w6) ⟨w.heap.size, 4, none⟩ = some _ := (hZ6).cell 4
      have zf4 : World.frozen? (w6) ⟨w.heap.size, 4, none⟩ = false := (hZ6).frozen 4
      have HG := ((((H6.set 2 rfl 0 (.int .i64 g)).set 2 rfl 1 (.int .i64 0)).set 2 rfl 2 (.slice A k c)).set 2 rfl 3 (.int .i64 now)).set 2 rfl 4 (.slice none 0 0)
      have HZ := ((((H6.set 2 rfl 0 (.int .i64 0)).set 2 rfl 1 (.int .i64 0)).set 2 rfl 2 (.slice none 0 0)).set 2 rfl 3 (.int .i64 0)).set 2 rfl 4 (.slice none 0 0)
      have hRG := HG.blk 2 rfl
      have OG := HG.own 1 rfl
      have TG := HG.t
      have MG := mine_own HG 1 rfl
      have hRZ := HZ.blk 2 rfl
      have TZ := HZ.t
      clear H6 HG HZ hB6 hZ6 el
      cases tb with
      | false =>
        have hX := hX2.out (by simp) _ TZ
        go_wp2_with fail
        exact bodyPost_ret (res_list (rs := [.cell 8 38, .tmp 9]) rfl (by simp) (.cell w.heap.size _ _ _ rfl hRZ Try.underlying38 rfl (by kernel_rfl) (.tmp .nil))) rfl hX
      | true =>
        by_cases hnw : now < 0
        · have q1 := decide_eq_true hnw
          have hX := hX2.out (by simp; omega) _ TZ
          clear hnw
          go_wp2_with fail
          exact bodyPost_ret (res_list (rs := [.cell 8 38, .tmp 9]) rfl (by simp) (.cell w.heap.size _ _ _ rfl hRZ Try.underlying38 rfl (by kernel_rfl) (.tmp .nil))) rfl hX
        · have q1 : decide (now < 0) = false := decide_eq_false hnw
          have hX := hX1.out (by simp; omega) _ _ OG TG (fun q hq => by simpa using MG q hq)
          clear hnw
          go_wp2_with fail
          exact bodyPost_ret (res_list (rs := [.cell 8 38, .tmp 9]) rfl (by simp) (.cell w.heap.size _ _ _ rfl hRG Try.underlying38 rfl (by kernel_rfl) (.tmp .nil))) rfl hX
end Go.Proofs.Ytmaielpfeajelaa.Ti
