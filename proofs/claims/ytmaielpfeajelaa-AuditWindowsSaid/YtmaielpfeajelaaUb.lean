/- The walks of package audit: Allowed, Spent, times, Budget. -/
import Derived.Test.YtmaielpfeajelaaSs
import Derived.Test.YtmaielpfeajelaaUa
import Derived.Test.YtmaielpfeajelaaMu
import Derived.Test.YtmaielpfeajelaaHf
import Derived.Test.YtmaielpfeajelaaHg
import Derived.Test.YtmaielpfeajelaaHy
import Derived.Lib.Hide
import Derived.WalkSpells
import Derived.StillTailTactics
import Derived.BigQuiet
import Derived.Deep.QuietTactic
set_option linter.unusedVariables false
set_option linter.unusedSimpArgs false
set_option maxRecDepth 100000
namespace Go.Proofs.Ytmaielpfeajelaa.Ub
open Go.RowKit Go.MapKept Hm Hs Hf Hg Hv Hx Hy Sm Sat Mu Ss Ua
def Gr.cells (x : Gr) : List Value := [.int .i64 x.time, .int .i64 x.key, .int .i64 x.cost, .int .i64 x.gen]
structure GCells (w : World) (ad : Addr) (m : Nat) (x : Gr) : Prop where
  t : w.cell? (ad.add m) = some (.int .i64 x.time)
  k : w.cell? ⟨(ad.add m).block, (ad.add m).off + 1, none⟩ = some (.int .i64 x.key)
  c : w.cell? ⟨(ad.add m).block, (ad.add m).off + 2, none⟩ = some (.int .i64 x.cost)
  g : w.cell? ⟨(ad.add m).block, (ad.add m).off + 3, none⟩ = some (.int .i64 x.gen)
theorem GCells.turns {w w' : World} {ad : Addr} {m : Nat} {x : Gr} (h : GCells w ad m x) (t : Turns [] w w') : GCells w' ad m x := ⟨t.old h.t, t.old h.k, t.old h.c, t.old h.g⟩
theorem gcells_of {w : World} {ad : Addr} {m : Nat} {x : Gr} (h : ∀ i u, (Gr.cells x)[i]? = some u → w.cell? (ad.add (m + i)) = some u) : GCells w ad m x := by
  have h0 := h 0 _ rfl
  have h1 := h 1 _ rfl
  have h2 := h 2 _ rfl
  have h3 := h 3 _ rfl
  rw [Nat.add_zero] at h0
  rw [add_field _ _ _ (by omega)] at h1 h2 h3
  exact ⟨h0, h1, h2, h3⟩
theorem gcells_at {w : World} {v : Value} {l : List Gr} {j : Nat} {x : Gr} (h : RdS 4 w v (l.map Gr.cells)) (hj : l[j]? = some x) : ∃ ad c, v = .slice (some ad) l.length c ∧ GCells w ad (j * 4) x := by
  obtain ⟨ad, c, hv, _, hc⟩ := h.at_ (j := j) (r := Gr.cells x) (by rw [List.getElem?_map, hj]; rfl)
  rw [List.length_map] at hv
  exact ⟨ad, c, hv, gcells_of hc⟩
theorem infoI : (Try.prog.info? 3).map (fun i => (i.zero, i.size, i.bytes)) = some (some (.int .i64 0), 1, 8) := by kernel_rfl
theorem irow2 (w : World) (x y : Int) : IRow (w.alloc (.cells #[.int .i64 x, .int .i64 y] 3)) (some ⟨w.heap.size, 0, none⟩) [x, y] := IRow.of_blk (Blk.new w _ _) rfl (by simp)
theorem irow3 (w : World) (x y z : Int) : IRow (w.alloc (.cells #[.int .i64 x, .int .i64 y, .int .i64 z] 3)) (some ⟨w.heap.size, 0, none⟩) [x, y, z] := IRow.of_blk (Blk.new w _ _) rfl (by simp)
theorem oneI (w : World) (x : Int) : RdS 1 (w.alloc (.cells #[.int .i64 x] 3)) (.slice (some ⟨w.heap.size, 0, none⟩) 1 1) (ins [x]) :=
  RdS.of_cells (rows := ins [x]) (heap_alloc w (.cells #[.int .i64 x] 3)).1 rfl (by simp [ins]) 1 (by simp [ins]) (by decide)
set_option maxHeartbeats 1000000 in
theorem allowed_is (R B skew ticks : Int) (w : World) : Calls Try.prog 10 #[.agg #[.int .i64 R, .int .i64 B], .int .i64 skew, .int .i64 ticks] w fun e w' => e = .returned (.int .i64 (allowed R B skew ticks)) ∧ Turns [] w w' := by
  have T0 := ((Turns.refl [] w).alloc (.cells #[.int .i64 R, .int .i64 B] 24)).drew
  have b0 := (Blk.new w #[.int .i64 R, .int .i64 B] 24).drew
  obtain ⟨r, hr⟩ : ∃ r, allowed R B skew ticks = r := ⟨_, rfl⟩
  rw [hr]
  unfold allowed at hr
  have hrh := Lib.hid hr
  clear hr
  go_enter Try.func10, Try.ntmps10
  go_wp2_with fail
  refine wp_region_flo [(0, true), (1, true), (2, true), (4, true), (5, true), (6, true), (7, true), (8, true), (3, false), (9, false), (10, false), (11, false), (12, false), (13, true)] (fun W => Turns [] (w.alloc (.cells #[.int .i64 R, .int .i64 B] 24)).drew W) (by kernel_rfl) rfl (by kernel_rfl) (by intro c d v a w h; cases d <;> first | (simpa [Exit.then, Exit.inBlock, Act.put] using h) | exact h) (Turns.refl _ _) ?_
  generalize hw1 : (w.alloc (.cells #[.int .i64 R, .int .i64 B] 24)).drew = w1 at *
  clear hw1
  have c0 : World.cell? (w1) ⟨w.heap.size, 0, none⟩ = some _ := (b0).cell 0
  have c1 : World.cell? (w1) ⟨w.heap.size, 1, none⟩ = some _ := (b0).cell 1
  refine flo_read _ rfl (fun K hK => ?_)
  go_simp
  first | (refine hK _ ?_) | (refine ⟨fun W hS => ?_, hK _ ?_⟩; · (have x0 := hS.old c0; have x1 := hS.old c1; try go_simp))
  clear hK K
  refine flo_read _ rfl (fun K hK => ?_)
  go_simp
  first | (refine hK _ ?_) | (refine ⟨fun W hS => ?_, hK _ ?_⟩; · (have x0 := hS.old c0; have x1 := hS.old c1; try go_simp))
  clear hK K
  refine flo_read _ rfl (fun K hK => ?_)
  go_simp
  first | (refine hK _ ?_) | (refine ⟨fun W hS => ?_, hK _ ?_⟩; · (have x0 := hS.old c0; have x1 := hS.old c1; try go_simp))
  clear hK K
  refine flo_read _ rfl (fun K hK => ?_)
  go_simp
  first | (refine hK _ ?_) | (refine ⟨fun W hS => ?_, hK _ ?_⟩; · (have x0 := hS.old c0; have x1 := hS.old c1; try go_simp))
  clear hK K
  refine flo_read _ rfl (fun K hK => ?_)
  go_simp
  first | (refine hK _ ?_) | (refine ⟨fun W hS => ?_, hK _ ?_⟩; · (have x0 := hS.old c0; have x1 := hS.old c1; try go_simp))
  clear hK K
  refine flo_read _ rfl (fun K hK => ?_)
  go_simp
  first | (refine hK _ ?_) | (refine ⟨fun W hS => ?_, hK _ ?_⟩; · (have x0 := hS.old c0; have x1 := hS.old c1; try go_simp))
  clear hK K
  refine flo_read _ rfl (fun K hK => ?_)
  go_simp
  first | (refine hK _ ?_) | (refine ⟨fun W hS => ?_, hK _ ?_⟩; · (have x0 := hS.old c0; have x1 := hS.old c1; try go_simp))
  clear hK K
  refine flo_read _ rfl (fun K hK => ?_)
  go_simp
  first | (refine hK _ ?_) | (refine ⟨fun W hS => ?_, hK _ ?_⟩; · (have x0 := hS.old c0; have x1 := hS.old c1; try go_simp))
  clear hK K
  refine flo_alone _ rfl ?_
  go_wp2_with fail
  go_at_call 30
  refine Calls.mono (mul_walk R ticks _) ?_
  rintro e w2 ⟨rfl, t2⟩
  go_wp2_with fail
  refine ⟨fun W => Turns [] w2 W, fun W h => t2.trans h, Turns.refl _ _, ?_⟩
  refine flo_alone _ rfl ?_
  go_wp2_with fail
  go_at_call 30
  refine Calls.mono (mul_walk 2 skew _) ?_
  rintro e w3 ⟨rfl, t3⟩
  go_wp2_with fail
  refine ⟨fun W => Turns [] w3 W, fun W h => t3.trans h, Turns.refl _ _, ?_⟩
  refine flo_alone _ rfl ?_
  go_wp2_with fail
  go_at_call 30
  refine Calls.mono (mul_walk R (mul 2 skew) _) ?_
  rintro e w4 ⟨rfl, t4⟩
  go_wp2_with fail
  refine ⟨fun W => Turns [] w4 W, fun W h => t4.trans h, Turns.refl _ _, ?_⟩
  have T4 := ((T0.trans t2).trans t3).trans t4
  clear c0 c1 t2 t3 t4 b0
  refine flo_alone _ rfl ?_
  go_wp2_with fail
  have ir := irow3 w4 (mul R ticks) B (mul R (mul 2 skew))
  have T5 := T4.alloc (.cells #[.int .i64 (mul R ticks), .int .i64 B, .int .i64 (mul R (mul 2 skew))] 3)
  refine ⟨fun W => Turns [] (w4.alloc (.cells #[.int .i64 (mul R ticks), .int .i64 B, .int .i64 (mul R (mul 2 skew))] 3)) W, fun W h => ((Turns.refl [] w4).alloc _).trans h, Turns.refl _ _, ?_⟩
  refine flo_alone _ rfl ?_
  go_wp2_with fail
  go_at_call 29
  refine Calls.mono (add_is (some ⟨w4.heap.size, 0, none⟩) [mul R ticks, B, mul R (mul 2 skew)] 3 _ ir) ?_
  rintro e w6 ⟨rfl, t6⟩
  go_wp2_with fail
  refine ⟨fun W => Turns [] w6 W, fun W h => t6.trans h, Turns.refl _ _, ?_⟩
  have T6 := T5.trans t6
  have hr2 := hrh.out
  rw [hr2]
  clear ir T5 t6 T4
  refine flo_read _ rfl (fun K hK => ?_)
  go_simp
  first | (refine hK _ ?_) | (refine ⟨fun W hS => ?_, hK _ ?_⟩; · (skip; try go_simp))
  clear hK K
  refine flo_end ?_
  go_wp2_with fail
  go_ret
  exact ⟨rfl, T6⟩
theorem spent_next {l : List Gr} {key after upto : Int} {j : Nat} {x : Gr} (hx : l[j]? = some x) : spent (l.take (j + 1)) key after upto = spst key after upto (spent (l.take j) key after upto) x := by
  unfold spent
  rw [List.take_add_one, hx, List.foldl_append]
  rfl
set_option maxHeartbeats 1000000 in
theorem spent_is (w : World) (v : Value) (l : List Gr) (key after upto : Int) (h : RdS 4 w v (l.map Gr.cells)) (hn : l.length ≤ 100000) : Calls Try.prog 9 #[v, .int .i64 key, .int .i64 after, .int .i64 upto] w fun e w' => e = .returned (.int .i64 (spent l key after upto)) ∧ Turns [] w w' := by
  have hh := Lib.hid h
  obtain ⟨A, c, rfl, _⟩ := h.form
  rw [List.length_map]
  clear h
  go_enter Try.func9, Try.ntmps9
  go_wp2_with fail
  go_loopw [9, 15] (fun v9 v15 wr => ∃ (j : Nat), j ≤ l.length ∧ v15 = .int .i64 j ∧ v9 = .int .i64 (spent (l.take j) key after upto) ∧ Turns [] w wr) (fun _ v15 _ => l.length - (RowKit.intOf v15).toNat)
  case atStart => exact ⟨0, by omega, rfl, rfl, Turns.refl _ _⟩
  case round =>
    obtain ⟨j, hj, rfl, rfl, T⟩ := hrel
    by_cases hlt : j < l.length
    · have g1 : decide ((j : Int) < (l.length : Int)) = true := by simp; omega
      obtain ⟨x, hx⟩ : ∃ x, l[j]? = some x := ⟨_, List.getElem?_eq_getElem hlt⟩
      obtain ⟨ad, c', hv, L⟩ := gcells_at hh.out hx
      rw [List.length_map] at hv
      injection hv with e1 e2 e3
      subst e1 e3
      obtain ⟨i0, i1, i2, i3⟩ := L.turns T
      have hsn := spent_next (key := key) (after := after) (upto := upto) hx
      have hsh := Lib.hid hsn
      have T1 := T.alloc (.cells #[.int .i64 x.time, .int .i64 x.key, .int .i64 x.cost, .int .i64 x.gen] 62)
      have b1 := Blk.new wr #[.int .i64 x.time, .int .i64 x.key, .int .i64 x.cost, .int .i64 x.gen] 62
      generalize spent (l.take j) key after upto = s at *
      clear hx L e2 hsn
      go_wp2_with fail
      go_at_call 28
      refine Calls.mono (fit_is x.time _) ?_
      rintro e w2 ⟨rfl, t2⟩
      have T2 := T1.trans t2
      have b2 := b1.turns t2 (by simp)
      have d1 : World.cell? (w2) ⟨wr.heap.size, 1, none⟩ = some _ := (b2).cell 1
      have d2 : World.cell? (w2) ⟨wr.heap.size, 2, none⟩ = some _ := (b2).cell 2
      clear i0 i1 i2 i3 t2 T1 b1
      by_cases a1 : x.key = key
      · have g2 : (x.key == key) = true := by simpa using a1
        by_cases a2 : fit x.time > after
        · have g3 := decide_eq_true a2
          by_cases a3 : fit x.time ≤ upto
          · have g4 := decide_eq_true a3
            have hit1 : spst key after upto s x = sum [s, x.cost] := by unfold spst hit; rw [if_pos (decide_eq_true ⟨a1, a2, a3⟩)]
            have ir := irow2 w2 s x.cost
            have T3 := T2.alloc (.cells #[.int .i64 s, .int .i64 x.cost] 3)
            have hith := Lib.hid hit1
            clear hit1 a1 a2 a3
            go_wp2_with fail
            go_at_call 29
            refine Calls.mono (add_is (some ⟨w2.heap.size, 0, none⟩) [s, x.cost] 2 _ ir) ?_
            rintro e w3 ⟨rfl, t3⟩
            have T4 := T3.trans t3
            clear ir T3 t3
            go_wp2_with fail
            go_roundw
            case rel => exact ⟨j + 1, by omega, by go_num, by rw [hsh.out, hith.out], T4⟩
            case measure => simp [RowKit.intOf]; omega
          · have g4 : decide (fit x.time ≤ upto) = false := decide_eq_false a3
            have hit1 : spst key after upto s x = s := by unfold spst hit; rw [if_neg (by simp [a3])]
            have hith := Lib.hid hit1
            clear hit1 a1 a2 a3
            go_wp2_with fail
            go_roundw
            case rel => exact ⟨j + 1, by omega, by go_num, by rw [hsh.out, hith.out], T2⟩
            case measure => simp [RowKit.intOf]; omega
        · have g3 : decide (fit x.time > after) = false := decide_eq_false a2
          have hit1 : spst key after upto s x = s := by unfold spst hit; rw [if_neg (by simp [a2])]
          have hith := Lib.hid hit1
          clear hit1 a1 a2
          go_wp2_with fail
          go_roundw
          case rel => exact ⟨j + 1, by omega, by go_num, by rw [hsh.out, hith.out], T2⟩
          case measure => simp [RowKit.intOf]; omega
      · have g2 : (x.key == key) = false := by simpa using a1
        have hit1 : spst key after upto s x = s := by unfold spst hit; rw [if_neg (by simp [a1])]
        have hith := Lib.hid hit1
        clear hit1 a1
        go_wp2_with fail
        go_roundw
        case rel => exact ⟨j + 1, by omega, by go_num, by rw [hsh.out, hith.out], T2⟩
        case measure => simp [RowKit.intOf]; omega
    · obtain rfl : j = l.length := by omega
      have g1 : decide ((l.length : Int) < (l.length : Int)) = false := by simp
      rw [List.take_length]
      go_wp2_with fail
      go_ret
      exact ⟨rfl, T⟩
theorem tms_next {l : List Gr} {key : Int} {j : Nat} {x : Gr} (hx : l[j]? = some x) : tms (l.take (j + 1)) key = tms (l.take j) key ++ if x.key = key then [fit x.time] else [] := by
  unfold tms
  rw [List.take_add_one, hx, List.filter_append, List.map_append]
  congr 1
  by_cases h : x.key = key <;> simp [h]
theorem tms_len (l : List Gr) (key : Int) : (tms l key).length ≤ l.length := by unfold tms; rw [List.length_map]; exact List.length_filter_le _ _
set_option maxHeartbeats 1000000 in
theorem times_is (w : World) (v : Value) (l : List Gr) (key : Int) (h : RdS 4 w v (l.map Gr.cells)) (hn : l.length ≤ 100000) : Calls Try.prog 27 #[v, .int .i64 key] w fun e w' => ∃ u, e = .returned u ∧ OwnS 3 1 w' u (ins (onces (tms l key))) ∧ Turns [] w w' := by
  have hh := Lib.hid h
  obtain ⟨A, c, rfl, _⟩ := h.form
  rw [List.length_map]
  have H := (Sep.start w).nilSlice 3 1
  obtain ⟨X, hX⟩ : ∃ X : Ending → World → Prop, X = fun e w' => ∃ u, e = .returned u ∧ OwnS 3 1 w' u (ins (onces (tms l key))) ∧ Turns [] w w' := ⟨_, rfl⟩
  rw [← hX]
  have hXh : Hid (∀ w' u, OwnS 3 1 w' u (ins (onces (tms l key))) → Turns [] w w' → X (.returned u) w') := Lib.hid (fun w' u h t => by rw [hX]; exact ⟨u, rfl, h, t⟩)
  clear h hX
  go_enter Try.func27, Try.ntmps27
  go_wp2_with fail
  go_loopw [5, 10] (fun v5 v10 wr => ∃ (j : Nat), j ≤ l.length ∧ v10 = .int .i64 j ∧ Sep [] w [tOwn 3 1 v5 (ins (tms (l.take j) key))] wr) (fun _ v10 _ => l.length - (RowKit.intOf v10).toNat)
  case atStart => exact ⟨0, by omega, rfl, H⟩
  case round =>
    obtain ⟨j, hj, rfl, H1⟩ := hrel
    clear H
    have H := H1
    clear H1
    obtain ⟨N, c3, rfl, _⟩ := formI (H.own 0 rfl)
    have hle := tms_len (l.take j) key
    rw [List.length_take] at hle
    by_cases hlt : j < l.length
    · have g1 : decide ((j : Int) < (l.length : Int)) = true := by simp; omega
      obtain ⟨x, hx⟩ : ∃ x, l[j]? = some x := ⟨_, List.getElem?_eq_getElem hlt⟩
      obtain ⟨ad, c', hv, L⟩ := gcells_at hh.out hx
      rw [List.length_map] at hv
      injection hv with e1 e2 e3
      subst e1 e3
      obtain ⟨i0, i1, i2, i3⟩ := L.turns H.t
      have hsn := tms_next (key := key) hx
      generalize tms (l.take j) key = ts at *
      have hle2 : ts.length ≤ 100000 := by omega
      replace H := H.alloc #[.int .i64 x.time, .int .i64 x.key, .int .i64 x.cost, .int .i64 x.gen] 62
      clear hx L e2 hle
      by_cases a1 : x.key = key
      · have g2 : (x.key == key) = true := by simpa using a1
        rw [if_pos a1] at hsn
        have hsh := Lib.hid hsn
        clear hsn a1
        have n0 : World.cell? (wr.alloc (.cells #[.int .i64 x.time, .int .i64 x.key, .int .i64 x.cost, .int .i64 x.gen] 62)) ⟨wr.heap.size, 0, none⟩ = some _ := (H.blk 0 rfl).cell 0
        have n1 : World.cell? (wr.alloc (.cells #[.int .i64 x.time, .int .i64 x.key, .int .i64 x.cost, .int .i64 x.gen] 62)) ⟨wr.heap.size, 1, none⟩ = some _ := (H.blk 0 rfl).cell 1
        have hHh := Lib.hid H
        clear H
        go_wp2_with fail
        go_at_call 28
        refine Calls.mono (fit_is x.time _) ?_
        rintro e w2 ⟨rfl, t2⟩
        have H := hHh.out.turns t2
        have O1 := oneI w2 (fit x.time)
        replace H := H.alloc #[.int .i64 (fit x.time)] 3
        clear hHh t2 i0 i1 i2 i3 n0 n1
        have hOh := Lib.hid O1
        clear O1
        go_wp2_with (at_builtin; refine stop_ ?_)
        refine Mk_.mk ?_
        refine H.append 2 rfl hOh.out (ts.length + 1) (by simp) (ins (ts ++ [fit x.time])) (by rw [ins_append]) rfl _ _ _ rfl (.int .i64 0) 8 Try.underlying33 infoI rfl (by decide) rfl rfl (ins_one _) (by omega) (by omega) ?_
        clear H hOh
        intro A4 c4 wn H tn _
        clear tn
        replace H := H.keep [2]
        go_wp2_with fail
        go_roundw
        case rel => exact ⟨j + 1, by omega, by go_num, by rw [hsh.out]; exact H⟩
        case measure => simp [RowKit.intOf]; omega
      · have g2 : (x.key == key) = false := by simpa using a1
        rw [if_neg a1, List.append_nil] at hsn
        have hsh := Lib.hid hsn
        clear hsn a1
        have n0 : World.cell? (wr.alloc (.cells #[.int .i64 x.time, .int .i64 x.key, .int .i64 x.cost, .int .i64 x.gen] 62)) ⟨wr.heap.size, 0, none⟩ = some _ := (H.blk 0 rfl).cell 0
        have n1 : World.cell? (wr.alloc (.cells #[.int .i64 x.time, .int .i64 x.key, .int .i64 x.cost, .int .i64 x.gen] 62)) ⟨wr.heap.size, 1, none⟩ = some _ := (H.blk 0 rfl).cell 1
        replace H := H.keep [1]
        go_wp2_with fail
        go_roundw
        case rel => exact ⟨j + 1, by omega, by go_num, by rw [hsh.out]; exact H⟩
        case measure => simp [RowKit.intOf]; omega
    · obtain rfl : j = l.length := by omega
      have g1 : decide ((l.length : Int) < (l.length : Int)) = false := by simp
      have hle3 := tms_len l key
      rw [List.take_length] at H ⊢
      have hX2 := hXh.out
      unfold onces at hX2
      generalize tms l key = ts at hX2 H hle3
      have hX2h := Lib.hid hX2
      clear hX2 hXh
      have Sh := Lib.hid (sort_is wr 3 _ ts (H.own 0 rfl) (by omega))
      have hHh := Lib.hid H
      clear H
      go_wp2_with fail
      go_at_call 44
      refine Calls.mono (Sh.out) ?_
      rintro e w2 ⟨rfl, o2, t2⟩
      have H := hHh.out.slice 0 rfl o2 t2 (.inl rfl)
      clear hHh o2 t2 Sh
      have l2 := srt_len ts
      have Ch := Lib.hid (compact_is w2 3 _ (srt ts) (H.own 0 rfl) (by omega))
      have hHh := Lib.hid H
      clear H l2
      go_wp2_with fail
      go_at_call 45
      refine Calls.mono (Ch.out) ?_
      rintro e w3 ⟨u, rfl, o3, t3, hb⟩
      have H := hHh.out.slice 0 rfl o3 t3 (.inl hb)
      clear hHh t3 Ch hb
      have hX := hX2h.out _ _ o3 H.t
      clear H o3
      go_wp2_with fail
      exact hX
end Go.Proofs.Ytmaielpfeajelaa.Ub
