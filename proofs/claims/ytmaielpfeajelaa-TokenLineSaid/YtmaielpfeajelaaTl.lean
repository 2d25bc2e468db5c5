/- TokenLine. -/
import Derived.Test.YtmaielpfeajelaaTk
set_option linter.unusedVariables false
set_option linter.unusedSimpArgs false
set_option maxRecDepth 100000
namespace Go.Proofs.Ytmaielpfeajelaa.Tl
open Go.RowKit Go.MapKept Go.ChangeShapes Go.WideShapes Go.Shelf Hm Hs Hf Hg Ho Hn Ha Hv Hx Hy Sm Sat Ya Ta Tb Tc Td Te Tk Rg Ss Re Rf
set_option maxHeartbeats 2000000 in
theorem pass_no (g s m : Int) (A : Option Addr) (n c : Nat) (B : Option Addr) (k d : Nat) (w : World) (hs : 1099511627776 ≤ s)
    (hC : ∀ W, Turns [] w W → Calls Try.prog 38 #[tk g s (.slice A n c) m (.slice B k d)] W fun e w' => ∃ A' n' c' B' k' d', e = .returned (tk g s (.slice A' n' c') m (.slice B' k' d')) ∧ Turns [] W w') :
    Calls Try.prog 18 #[tk g s (.slice A n c) m (.slice B k d)] w fun e w' => ∃ A' n' c' B' k' d', e = .returned (.tuple #[tk g s (.slice A' n' c') m (.slice B' k' d'), .int .i64 6]) ∧ Turns [] w w' := by
  have H := ((Sep.start w).alloc #[.int .i64 g, .int .i64 s, .slice A n c, .int .i64 m, .slice B k d] 38).alloc #[.int .i64 0, .int .i64 0, .slice none 0 0, .int .i64 0, .slice none 0 0] 38
  rw [World.size_alloc] at H
  have C1 := Lib.hid (hC _ H.t)
  have g1 : decide (s ≥ 1099511627776) = true := decide_eq_true (by omega)
  have c0 : World.cell? (_) ⟨w.heap.size, 0, none⟩ = some _ := (H.blk 1 rfl).cell 0
  have c1 : World.cell? (_) ⟨w.heap.size, 1, none⟩ = some _ := (H.blk 1 rfl).cell 1
  have c2 : World.cell? (_) ⟨w.heap.size, 2, none⟩ = some _ := (H.blk 1 rfl).cell 2
  have c3 : World.cell? (_) ⟨w.heap.size, 3, none⟩ = some _ := (H.blk 1 rfl).cell 3
  have c4 : World.cell? (_) ⟨w.heap.size, 4, none⟩ = some _ := (H.blk 1 rfl).cell 4
  have hHh := Lib.hid H
  clear H hC
  go_enter Try.func18, Try.ntmps18
  go_wp2_with fail
  go_at_call 38
  refine Calls.mono (C1.out) ?_
  rintro e w1 ⟨A', n', c', B', k', d', rfl, t1⟩
  have H := hHh.out.turns t1
  have hB := H.blk 1 rfl
  have d0 : World.cell? (w1) ⟨w.heap.size, 0, none⟩ = some _ := (hB).cell 0
  have df0 : World.frozen? (w1) ⟨w.heap.size, 0, none⟩ = false := (hB).frozen 0
  have d1 : World.cell? (w1) ⟨w.heap.size, 1, none⟩ = some _ := (hB).cell 1
  have df1 : World.frozen? (w1) ⟨w.heap.size, 1, none⟩ = false := (hB).frozen 1
  have d2 : World.cell? (w1) ⟨w.heap.size, 2, none⟩ = some _ := (hB).cell 2
  have df2 : World.frozen? (w1) ⟨w.heap.size, 2, none⟩ = false := (hB).frozen 2
  have d3 : World.cell? (w1) ⟨w.heap.size, 3, none⟩ = some _ := (hB).cell 3
  have df3 : World.frozen? (w1) ⟨w.heap.size, 3, none⟩ = false := (hB).frozen 3
  have d4 : World.cell? (w1) ⟨w.heap.size, 4, none⟩ = some _ := (hB).cell 4
  have df4 : World.frozen? (w1) ⟨w.heap.size, 4, none⟩ = false := (hB).frozen 4
  have H5 := ((((H.set 1 rfl 0 (.int .i64 g)).set 1 rfl 1 (.int .i64 s)).set 1 rfl 2 (.slice A' n' c')).set 1 rfl 3 (.int .i64 m)).set 1 rfl 4 (.slice B' k' d')
  have H5h := Lib.hid H5
  clear H H5 t1 hHh hB C1 c0 c1 c2 c3 c4
  go_upto_region 2 with fail
  generalize (((((w1.setCell ⟨w.heap.size, 0, none⟩ (.int .i64 g)).setCell ⟨w.heap.size, 1, none⟩ (.int .i64 s)).setCell ⟨w.heap.size, 2, none⟩ (.slice A' n' c')).setCell ⟨w.heap.size, 3, none⟩ (.int .i64 m)).setCell ⟨w.heap.size, 4, none⟩ (.slice B' k' d')) = w6 at *
  clear d0 d1 d2 d3 d4 df0 df1 df2 df3 df4
  have H6 := H5h.out
  clear H5h
  have hB6 := H6.blk 1 rfl
  have hZ6 := H6.blk 0 rfl
  have b0 : w6.cell? ⟨w.heap.size, 0, none⟩ = some (.int .i64 g) := hB6.cell 0
  have b1 : w6.cell? ⟨w.heap.size, 1, none⟩ = some (.int .i64 s) := hB6.cell 1
  have b2 : w6.cell? ⟨w.heap.size, 2, none⟩ = some (.slice A' n' c') := hB6.cell 2
  have b3 : w6.cell? ⟨w.heap.size, 3, none⟩ = some (.int .i64 m) := hB6.cell 3
  have b4 : w6.cell? ⟨w.heap.size, 4, none⟩ = some (.slice B' k' d') := hB6.cell 4
  have z0 : World.cell? (w6) ⟨w.heap.size + 1, 0, none⟩ = some _ := (hZ6).cell 0
  have zf0 : World.frozen? (w6) ⟨w.heap.size + 1, 0, none⟩ = false := (hZ6).frozen 0
  have z1 : World.cell? (w6) ⟨w.heap.size + 1, 1, none⟩ = some _ := (hZ6).cell 1
  have zf1 : World.frozen? (w6) ⟨w.heap.size + 1, 1, none⟩ = false := (hZ6).frozen 1
  have z2 : World.cell? (w6) ⟨w.heap.size + 1, 2, none⟩ = some _ := (hZ6).cell 2
  have zf2 : World.frozen? (w6) ⟨w.heap.size + 1, 2, none⟩ = false := (hZ6).frozen 2
  have z3 : World.cell? (w6) ⟨w.heap.size + 1, 3, none⟩ = some _ := (hZ6).cell 3
  have zf3 : World.frozen? (w6) ⟨w.heap.size + 1, 3, none⟩ = false := (hZ6).frozen 3
  have z4 : World.cell? (w6) ⟨w.heap.size + 1, 4, none⟩ = some _ := (hZ6).cell 4
  have zf4 : World.frozen? (w6) ⟨w.heap.size + 1, 4, none⟩ = false := (hZ6).frozen 4
  have H7 := ((((H6.set 0 rfl 0 (.int .i64 g)).set 0 rfl 1 (.int .i64 s)).set 0 rfl 2 (.slice A' n' c')).set 0 rfl 3 (.int .i64 m)).set 0 rfl 4 (.slice B' k' d')
  have hR := H7.blk 0 rfl
  have T := H7.t
  clear H6 H7 hB6 hZ6
  go_wp2_with fail
  refine bodyPost_ret (res_list (rs := [.cell 2 38, .tmp 3]) rfl (by simp) (.cell (w.heap.size + 1) _ _ _ rfl hR Try.underlying38 rfl (by kernel_rfl) (.tmp .nil))) rfl ?_
  exact ⟨_, _, _, _, _, _, rfl, T⟩
theorem newer_next (g s : Int) : newerB g (s + 1) g s = true := by unfold newerB; rw [if_pos rfl]; exact decide_eq_true (by omega)
theorem newer_iff (a b c d : Int) : newerB a b c d = true ↔ (a > c ∨ (a = c ∧ b > d)) := by
  unfold newerB
  split
  · rw [decide_eq_true_eq]; omega
  · rw [decide_eq_true_eq]; omega
theorem line_key (a0 b0 a1 b1 a2 b2 : Int) :
    (newerB a0 b0 a1 b1 = true ∧ newerB a1 b1 a0 b0 = false ∧ (¬ a0 = a1 ∨ (a0 = a1 ∧ ¬ b0 = b1)) ∧ (newerB a1 b1 a2 b2 = false ∨ (newerB a1 b1 a2 b2 = true ∧ newerB a0 b0 a2 b2 = true))) ∨
    (newerB a0 b0 a1 b1 = false ∧ newerB a1 b1 a0 b0 = true ∧ (¬ a0 = a1 ∨ (a0 = a1 ∧ ¬ b0 = b1))) ∨
    (newerB a0 b0 a1 b1 = false ∧ newerB a1 b1 a0 b0 = false ∧ a0 = a1 ∧ b0 = b1) := by
  have h1 := newer_iff a0 b0 a1 b1
  have h2 := newer_iff a1 b1 a0 b0
  have h3 := newer_iff a1 b1 a2 b2
  have h4 := newer_iff a0 b0 a2 b2
  generalize newerB a0 b0 a1 b1 = ab at *
  generalize newerB a1 b1 a0 b0 = ba at *
  generalize newerB a1 b1 a2 b2 = bc at *
  generalize newerB a0 b0 a2 b2 = ac at *
  cases ab <;> cases ba <;> cases bc <;> cases ac <;> simp at h1 h2 h3 h4 ⊢ <;> omega
set_option maxHeartbeats 4000000 in
theorem line_law (w : World) (a0 b0 a1 b1 a2 b2 : Int) (g s m : Int) (hs : -9223372036854775808 ≤ s) (sv rv : Value) (l : List Int) (R : List Rw) (h : RdS 1 w sv (ins l)) (hr : RdS 4 w rv (R.map Rw.cells)) (hR : ∀ x ∈ R, outOk w x) :
    Calls Try.prog 5 #[.agg #[.int .i64 a0, .int .i64 b0, .int .i64 a1, .int .i64 b1, .int .i64 a2, .int .i64 b2], tk g s sv m rv] w fun e w' => e = .returned (.bool true) ∧ Turns [] w w' := by
  have H := ((Sep.start w).alloc #[.int .i64 a0, .int .i64 b0, .int .i64 a1, .int .i64 b1, .int .i64 a2, .int .i64 b2] 48).alloc #[.int .i64 g, .int .i64 s, sv, .int .i64 m, rv] 38
  rw [World.size_alloc] at H
  have ok2 : ∀ {W : World}, Turns [] w W → ∀ x ∈ R, outOk W x := fun t x hx => by
    obtain ⟨ls, h⟩ := hR x hx
    exact ⟨ls, h.mv (fun a u => t.old)⟩
  have Fi := Lib.hid (fun W (t : Turns [] w W) => fits_is g s m sv rv l R W (h.mv (fun a u => t.old)) (hr.mv (fun a u => t.old)) (ok2 t))
  have Cl := Lib.hid (fun (hf : fitsP l R) W (t : Turns [] w W) => clone_is g s m sv rv l R W (h.mv (fun a u => t.old)) (hr.mv (fun a u => t.old)) (ok2 t) hf)
  obtain ⟨A, c, rfl, _⟩ := h.form
  obtain ⟨B, d, rfl, _⟩ := hr.form
  rw [ins_len] at *
  rw [List.length_map] at *
  have hkey := Lib.hid (line_key a0 b0 a1 b1 a2 b2)
  have Nab := Lib.hid (fun W => newer_is a0 b0 a1 b1 W)
  have Nba := Lib.hid (fun W => newer_is a1 b1 a0 b0 W)
  have Nbc := Lib.hid (fun W => newer_is a1 b1 a2 b2 W)
  have Nac := Lib.hid (fun W => newer_is a0 b0 a2 b2 W)
  generalize newerB a0 b0 a1 b1 = ab at *
  generalize newerB a1 b1 a0 b0 = ba at *
  generalize newerB a1 b1 a2 b2 = bc at *
  generalize newerB a0 b0 a2 b2 = ac at *
  have y0 : World.cell? (_) ⟨w.heap.size + 1, 0, none⟩ = some (.int .i64 g) := (H.blk 0 rfl).cell 0
  have y1 : World.cell? (_) ⟨w.heap.size + 1, 1, none⟩ = some (.int .i64 s) := (H.blk 0 rfl).cell 1
  have y2 : World.cell? (_) ⟨w.heap.size + 1, 2, none⟩ = some (.slice A l.length c) := (H.blk 0 rfl).cell 2
  have y3 : World.cell? (_) ⟨w.heap.size + 1, 3, none⟩ = some (.int .i64 m) := (H.blk 0 rfl).cell 3
  have y4 : World.cell? (_) ⟨w.heap.size + 1, 4, none⟩ = some (.slice B R.length d) := (H.blk 0 rfl).cell 4
  have Hh := Lib.hid H
  clear h hr hR ok2 H
  go_enter Try.func5, Try.ntmps5
  go_wp2_with fail
  go_at_call 17
  refine Calls.mono (Fi.out _ Hh.out.t) ?_
  rintro e w1 (⟨rfl, hf, t1⟩ | ⟨rfl, t1⟩)
  rotate_left
  · have T := (Hh.out.turns t1).t
    clear y0 y1 y2 y3 y4 Hh Fi Cl t1
    go_wp2_with fail
    go_at_call 16
    refine Calls.mono (alive_is _) ?_
    rintro e w2 ⟨rfl, t2⟩
    go_wp2_with fail
    go_ret
    exact ⟨rfl, T.trans t2⟩
  have H := Hh.out.turns t1
  clear y0 y1 y2 y3 y4
  clear Fi t1
  have x0 : World.cell? (w1) ⟨w.heap.size, 0, none⟩ = some _ := (H.blk 1 rfl).cell 0
  have x1 : World.cell? (w1) ⟨w.heap.size, 1, none⟩ = some _ := (H.blk 1 rfl).cell 1
  have x2 : World.cell? (w1) ⟨w.heap.size, 2, none⟩ = some _ := (H.blk 1 rfl).cell 2
  have x3 : World.cell? (w1) ⟨w.heap.size, 3, none⟩ = some _ := (H.blk 1 rfl).cell 3
  have x4 : World.cell? (w1) ⟨w.heap.size, 4, none⟩ = some _ := (H.blk 1 rfl).cell 4
  have x5 : World.cell? (w1) ⟨w.heap.size, 5, none⟩ = some _ := (H.blk 1 rfl).cell 5
  have Hh := Lib.hid H
  clear H
  go_wp2_with fail
  go_at_call 14
  refine Calls.mono (Nab.out _) ?_
  rintro e w2 ⟨rfl, t2⟩
  have H := Hh.out.turns t2
  clear Hh t2 Nab
  clear x0 x1 x2 x3 x4 x5
  have x0 : World.cell? (w2) ⟨w.heap.size, 0, none⟩ = some _ := (H.blk 1 rfl).cell 0
  have x1 : World.cell? (w2) ⟨w.heap.size, 1, none⟩ = some _ := (H.blk 1 rfl).cell 1
  have x2 : World.cell? (w2) ⟨w.heap.size, 2, none⟩ = some _ := (H.blk 1 rfl).cell 2
  have x3 : World.cell? (w2) ⟨w.heap.size, 3, none⟩ = some _ := (H.blk 1 rfl).cell 3
  have x4 : World.cell? (w2) ⟨w.heap.size, 4, none⟩ = some _ := (H.blk 1 rfl).cell 4
  have x5 : World.cell? (w2) ⟨w.heap.size, 5, none⟩ = some _ := (H.blk 1 rfl).cell 5
  have Hh := Lib.hid H
  clear H
  go_wp2_with fail
  go_at_call 14
  refine Calls.mono (Nba.out _) ?_
  rintro e w3 ⟨rfl, t3⟩
  have H := Hh.out.turns t3
  clear Hh t3 Nba
  clear x0 x1 x2 x3 x4 x5
  have x0 : World.cell? (w3) ⟨w.heap.size, 0, none⟩ = some _ := (H.blk 1 rfl).cell 0
  have x1 : World.cell? (w3) ⟨w.heap.size, 1, none⟩ = some _ := (H.blk 1 rfl).cell 1
  have x2 : World.cell? (w3) ⟨w.heap.size, 2, none⟩ = some _ := (H.blk 1 rfl).cell 2
  have x3 : World.cell? (w3) ⟨w.heap.size, 3, none⟩ = some _ := (H.blk 1 rfl).cell 3
  have x4 : World.cell? (w3) ⟨w.heap.size, 4, none⟩ = some _ := (H.blk 1 rfl).cell 4
  have x5 : World.cell? (w3) ⟨w.heap.size, 5, none⟩ = some _ := (H.blk 1 rfl).cell 5
  have Hh := Lib.hid H
  clear H
  go_wp2_with fail
  go_at_call 14
  refine Calls.mono (Nbc.out _) ?_
  rintro e w4 ⟨rfl, t4⟩
  have H := Hh.out.turns t4
  clear Hh t4 Nbc
  clear x0 x1 x2 x3 x4 x5
  have x0 : World.cell? (w4) ⟨w.heap.size, 0, none⟩ = some _ := (H.blk 1 rfl).cell 0
  have x1 : World.cell? (w4) ⟨w.heap.size, 1, none⟩ = some _ := (H.blk 1 rfl).cell 1
  have x2 : World.cell? (w4) ⟨w.heap.size, 2, none⟩ = some _ := (H.blk 1 rfl).cell 2
  have x3 : World.cell? (w4) ⟨w.heap.size, 3, none⟩ = some _ := (H.blk 1 rfl).cell 3
  have x4 : World.cell? (w4) ⟨w.heap.size, 4, none⟩ = some _ := (H.blk 1 rfl).cell 4
  have x5 : World.cell? (w4) ⟨w.heap.size, 5, none⟩ = some _ := (H.blk 1 rfl).cell 5
  have Hh := Lib.hid H
  clear H
  go_wp2_with fail
  go_at_call 14
  refine Calls.mono (Nac.out _) ?_
  rintro e w5 ⟨rfl, t5⟩
  have H := Hh.out.turns t5
  clear Hh t5 Nac
  clear x0 x1 x2 x3 x4 x5
  have y0 : World.cell? (w5) ⟨w.heap.size + 1, 0, none⟩ = some (.int .i64 g) := (H.blk 0 rfl).cell 0
  have y1 : World.cell? (w5) ⟨w.heap.size + 1, 1, none⟩ = some (.int .i64 s) := (H.blk 0 rfl).cell 1
  have y2 : World.cell? (w5) ⟨w.heap.size + 1, 2, none⟩ = some (.slice A l.length c) := (H.blk 0 rfl).cell 2
  have y3 : World.cell? (w5) ⟨w.heap.size + 1, 3, none⟩ = some (.int .i64 m) := (H.blk 0 rfl).cell 3
  have y4 : World.cell? (w5) ⟨w.heap.size + 1, 4, none⟩ = some (.slice B R.length d) := (H.blk 0 rfl).cell 4
  have Hh := Lib.hid H
  clear H
  by_cases hop : s < 1099511627776
  · have Pp := Lib.hid (pass_is g s m A l.length c B R.length d w5 ⟨hs, hop⟩ (fun W t => Cl.out hf W (Hh.out.t.trans t)))
    go_wp2_with fail
    go_at_call 18
    refine Calls.mono (Pp.out) ?_
    rintro e w6 ⟨A', n', c', B', k', d', rfl, t6⟩
    have H := ((Hh.out.turns t6).alloc #[.int .i64 g, .int .i64 (s + 1), .slice A' n' c', .int .i64 m, .slice B' k' d'] 38).drew
    clear y0 y1 y2 y3 y4 Hh t6 Pp Cl hf
    have y0 : World.cell? ((w6.alloc (.cells #[.int .i64 g, .int .i64 (s + 1), .slice A' n' c', .int .i64 m, .slice B' k' d'] 38)).drew) ⟨w.heap.size + 1, 0, none⟩ = some (.int .i64 g) := (H.blk 1 rfl).cell 0
    have y1 : World.cell? ((w6.alloc (.cells #[.int .i64 g, .int .i64 (s + 1), .slice A' n' c', .int .i64 m, .slice B' k' d'] 38)).drew) ⟨w.heap.size + 1, 1, none⟩ = some (.int .i64 s) := (H.blk 1 rfl).cell 1
    have y2 : World.cell? ((w6.alloc (.cells #[.int .i64 g, .int .i64 (s + 1), .slice A' n' c', .int .i64 m, .slice B' k' d'] 38)).drew) ⟨w.heap.size + 1, 2, none⟩ = some (.slice A l.length c) := (H.blk 1 rfl).cell 2
    have y3 : World.cell? ((w6.alloc (.cells #[.int .i64 g, .int .i64 (s + 1), .slice A' n' c', .int .i64 m, .slice B' k' d'] 38)).drew) ⟨w.heap.size + 1, 3, none⟩ = some (.int .i64 m) := (H.blk 1 rfl).cell 3
    have y4 : World.cell? ((w6.alloc (.cells #[.int .i64 g, .int .i64 (s + 1), .slice A' n' c', .int .i64 m, .slice B' k' d'] 38)).drew) ⟨w.heap.size + 1, 4, none⟩ = some (.slice B R.length d) := (H.blk 1 rfl).cell 4
    have z0 : World.cell? ((w6.alloc (.cells #[.int .i64 g, .int .i64 (s + 1), .slice A' n' c', .int .i64 m, .slice B' k' d'] 38)).drew) ⟨w6.heap.size, 0, none⟩ = some (.int .i64 g) := (H.blk 0 rfl).cell 0
    have z1 : World.cell? ((w6.alloc (.cells #[.int .i64 g, .int .i64 (s + 1), .slice A' n' c', .int .i64 m, .slice B' k' d'] 38)).drew) ⟨w6.heap.size, 1, none⟩ = some (.int .i64 (s + 1)) := (H.blk 0 rfl).cell 1
    have z2 : World.cell? ((w6.alloc (.cells #[.int .i64 g, .int .i64 (s + 1), .slice A' n' c', .int .i64 m, .slice B' k' d'] 38)).drew) ⟨w6.heap.size, 2, none⟩ = some (.slice A' n' c') := (H.blk 0 rfl).cell 2
    have z3 : World.cell? ((w6.alloc (.cells #[.int .i64 g, .int .i64 (s + 1), .slice A' n' c', .int .i64 m, .slice B' k' d'] 38)).drew) ⟨w6.heap.size, 3, none⟩ = some (.int .i64 m) := (H.blk 0 rfl).cell 3
    have z4 : World.cell? ((w6.alloc (.cells #[.int .i64 g, .int .i64 (s + 1), .slice A' n' c', .int .i64 m, .slice B' k' d'] 38)).drew) ⟨w6.heap.size, 4, none⟩ = some (.slice B' k' d') := (H.blk 0 rfl).cell 4
    have Hh := Lib.hid H
    clear H
    go_wp2_with fail
    go_wp2_with fail
    refine wp_region_flo [(0, true), (1, true), (2, true), (3, true), (5, true), (4, false), (6, false), (7, false), (8, true), (9, true)] (fun W => Turns [] (w6.alloc (.cells #[.int .i64 g, .int .i64 (s + 1), .slice A' n' c', .int .i64 m, .slice B' k' d'] 38)).drew W) (by kernel_rfl) rfl (by kernel_rfl) (by intro c d v a w h; cases d <;> first | (simpa [Exit.then, Exit.inBlock, Act.put] using h) | exact h) (Turns.refl _ _) ?_
    generalize (w6.alloc (.cells #[.int .i64 g, .int .i64 (s + 1), .slice A' n' c', .int .i64 m, .slice B' k' d'] 38)).drew = w7 at *
    refine flo_read _ rfl (fun K hK => ?_)
    go_simp
    first | (refine hK _ ?_) | (refine ⟨fun W hS => ?_, hK _ ?_⟩; · (have p0 := hS.old y0; have p1 := hS.old y1; have p2 := hS.old y2; have p3 := hS.old y3; have p4 := hS.old y4; have q0 := hS.old z0; have q1 := hS.old z1; have q2 := hS.old z2; have q3 := hS.old z3; have q4 := hS.old z4; try go_simp))
    clear hK K
    refine flo_read _ rfl (fun K hK => ?_)
    go_simp
    first | (refine hK _ ?_) | (refine ⟨fun W hS => ?_, hK _ ?_⟩; · (have p0 := hS.old y0; have p1 := hS.old y1; have p2 := hS.old y2; have p3 := hS.old y3; have p4 := hS.old y4; have q0 := hS.old z0; have q1 := hS.old z1; have q2 := hS.old z2; have q3 := hS.old z3; have q4 := hS.old z4; try go_simp))
    clear hK K
    refine flo_read _ rfl (fun K hK => ?_)
    go_simp
    first | (refine hK _ ?_) | (refine ⟨fun W hS => ?_, hK _ ?_⟩; · (have p0 := hS.old y0; have p1 := hS.old y1; have p2 := hS.old y2; have p3 := hS.old y3; have p4 := hS.old y4; have q0 := hS.old z0; have q1 := hS.old z1; have q2 := hS.old z2; have q3 := hS.old z3; have q4 := hS.old z4; try go_simp))
    clear hK K
    refine flo_read _ rfl (fun K hK => ?_)
    go_simp
    first | (refine hK _ ?_) | (refine ⟨fun W hS => ?_, hK _ ?_⟩; · (have p0 := hS.old y0; have p1 := hS.old y1; have p2 := hS.old y2; have p3 := hS.old y3; have p4 := hS.old y4; have q0 := hS.old z0; have q1 := hS.old z1; have q2 := hS.old z2; have q3 := hS.old z3; have q4 := hS.old z4; try go_simp))
    clear hK K
    refine flo_read _ rfl (fun K hK => ?_)
    go_simp
    first | (refine hK _ ?_) | (refine ⟨fun W hS => ?_, hK _ ?_⟩; · (have p0 := hS.old y0; have p1 := hS.old y1; have p2 := hS.old y2; have p3 := hS.old y3; have p4 := hS.old y4; have q0 := hS.old z0; have q1 := hS.old z1; have q2 := hS.old z2; have q3 := hS.old z3; have q4 := hS.old z4; try go_simp))
    clear hK K
    clear y0 y1 y2 y3 y4 z0 z1 z2 z3 z4
    refine flo_alone _ rfl ?_
    go_wp2_with fail
    go_at_call 19
    refine Calls.mono (at_is g (s + 1) m A' n' c' B' k' d' w7) ?_
    rintro e w8 ⟨rfl, t8⟩
    go_wp2_with fail
    refine ⟨fun W => Turns [] w8 W, fun W h => t8.trans h, Turns.refl _ _, ?_⟩
    refine flo_alone _ rfl ?_
    go_wp2_with fail
    go_at_call 19
    refine Calls.mono (at_is g s m A l.length c B R.length d w8) ?_
    rintro e w9 ⟨rfl, t9⟩
    go_wp2_with fail
    refine ⟨fun W => Turns [] w9 W, fun W h => t9.trans h, Turns.refl _ _, ?_⟩
    have eN := newer_is g (s + 1) g s w9
    rw [newer_next] at eN
    have eNh := Lib.hid eN
    clear eN
    refine flo_alone _ rfl ?_
    go_wp2_with fail
    go_at_call 14
    refine Calls.mono (eNh.out) ?_
    rintro e w10 ⟨rfl, t10⟩
    go_wp2_with fail
    refine ⟨fun W => Turns [] w10 W, fun W h => t10.trans h, Turns.refl _ _, ?_⟩
    refine flo_read _ rfl (fun K hK => ?_)
    go_simp
    first | (refine hK _ ?_) | (refine ⟨fun W hS => ?_, hK _ ?_⟩; · (skip; try go_simp))
    clear hK K
    refine flo_read _ rfl (fun K hK => ?_)
    go_simp
    first | (refine hK _ ?_) | (refine ⟨fun W hS => ?_, hK _ ?_⟩; · (skip; try go_simp))
    clear hK K
    refine flo_end ?_
    have H := Hh.out.turns ((t8.trans t9).trans t10)
    have T9 := H.t
    have x0 : World.cell? (w10) ⟨w.heap.size, 0, none⟩ = some _ := (H.blk 2 rfl).cell 0
    have x1 : World.cell? (w10) ⟨w.heap.size, 1, none⟩ = some _ := (H.blk 2 rfl).cell 1
    have x2 : World.cell? (w10) ⟨w.heap.size, 2, none⟩ = some _ := (H.blk 2 rfl).cell 2
    have x3 : World.cell? (w10) ⟨w.heap.size, 3, none⟩ = some _ := (H.blk 2 rfl).cell 3
    clear Hh t8 t9 t10 eNh H
    rcases hkey.out with ⟨rfl, rfl, hne, hbc⟩ | ⟨rfl, rfl, hne⟩ | ⟨rfl, rfl, rfl, rfl⟩
    · rcases hne with hne | ⟨rfl, hne⟩
      · have e1 : (a0 == a1) = false := by simpa using hne
        rcases hbc with rfl | ⟨rfl, rfl⟩
        · go_wp2_with fail
          go_at_call 16
          refine Calls.mono (alive_is _) ?_
          rintro e wA ⟨rfl, tA⟩
          have TA := T9.trans tA
          have xx0 := tA.old x0
          have xx1 := tA.old x1
          have xx2 := tA.old x2
          have xx3 := tA.old x3
          clear x0 x1 x2 x3
          go_wp2_with fail
          go_ret
          exact ⟨by simp, TA⟩
        · go_wp2_with fail
          go_at_call 16
          refine Calls.mono (alive_is _) ?_
          rintro e wA ⟨rfl, tA⟩
          have TA := T9.trans tA
          have xx0 := tA.old x0
          have xx1 := tA.old x1
          have xx2 := tA.old x2
          have xx3 := tA.old x3
          clear x0 x1 x2 x3
          go_wp2_with fail
          go_ret
          exact ⟨by simp, TA⟩
      · have e1 : (b0 == b1) = false := by simpa using hne
        rcases hbc with rfl | ⟨rfl, rfl⟩
        · go_wp2_with fail
          go_at_call 16
          refine Calls.mono (alive_is _) ?_
          rintro e wA ⟨rfl, tA⟩
          have TA := T9.trans tA
          have xx0 := tA.old x0
          have xx1 := tA.old x1
          have xx2 := tA.old x2
          have xx3 := tA.old x3
          clear x0 x1 x2 x3
          go_wp2_with fail
          go_ret
          exact ⟨by simp, TA⟩
        · go_wp2_with fail
          go_at_call 16
          refine Calls.mono (alive_is _) ?_
          rintro e wA ⟨rfl, tA⟩
          have TA := T9.trans tA
          have xx0 := tA.old x0
          have xx1 := tA.old x1
          have xx2 := tA.old x2
          have xx3 := tA.old x3
          clear x0 x1 x2 x3
          go_wp2_with fail
          go_ret
          exact ⟨by simp, TA⟩
    · rcases hne with hne | ⟨rfl, hne⟩
      · have e1 : (a0 == a1) = false := by simpa using hne
        go_wp2_with fail
        go_at_call 16
        refine Calls.mono (alive_is _) ?_
        rintro e wA ⟨rfl, tA⟩
        have TA := T9.trans tA
        have xx0 := tA.old x0
        have xx1 := tA.old x1
        have xx2 := tA.old x2
        have xx3 := tA.old x3
        clear x0 x1 x2 x3
        go_wp2_with fail
        go_ret
        exact ⟨by simp, TA⟩
      · have e1 : (b0 == b1) = false := by simpa using hne
        go_wp2_with fail
        go_at_call 16
        refine Calls.mono (alive_is _) ?_
        rintro e wA ⟨rfl, tA⟩
        have TA := T9.trans tA
        have xx0 := tA.old x0
        have xx1 := tA.old x1
        have xx2 := tA.old x2
        have xx3 := tA.old x3
        clear x0 x1 x2 x3
        go_wp2_with fail
        go_ret
        exact ⟨by simp, TA⟩
    · go_wp2_with fail
      go_at_call 16
      refine Calls.mono (alive_is _) ?_
      rintro e wA ⟨rfl, tA⟩
      have TA := T9.trans tA
      have xx0 := tA.old x0
      have xx1 := tA.old x1
      have xx2 := tA.old x2
      have xx3 := tA.old x3
      clear x0 x1 x2 x3
      go_wp2_with fail
      go_ret
      exact ⟨by simp, TA⟩
  · have Pp := Lib.hid (pass_no g s m A l.length c B R.length d w5 (by omega) (fun W t => Cl.out hf W (Hh.out.t.trans t)))
    go_wp2_with fail
    go_at_call 18
    refine Calls.mono (Pp.out) ?_
    rintro e w6 ⟨A', n', c', B', k', d', rfl, t6⟩
    have H := ((Hh.out.turns t6).alloc #[.int .i64 g, .int .i64 s, .slice A' n' c', .int .i64 m, .slice B' k' d'] 38).drew
    clear y0 y1 y2 y3 y4 Hh t6 Pp Cl hf
    have y0 : World.cell? ((w6.alloc (.cells #[.int .i64 g, .int .i64 s, .slice A' n' c', .int .i64 m, .slice B' k' d'] 38)).drew) ⟨w.heap.size + 1, 0, none⟩ = some (.int .i64 g) := (H.blk 1 rfl).cell 0
    have y1 : World.cell? ((w6.alloc (.cells #[.int .i64 g, .int .i64 s, .slice A' n' c', .int .i64 m, .slice B' k' d'] 38)).drew) ⟨w.heap.size + 1, 1, none⟩ = some (.int .i64 s) := (H.blk 1 rfl).cell 1
    have y2 : World.cell? ((w6.alloc (.cells #[.int .i64 g, .int .i64 s, .slice A' n' c', .int .i64 m, .slice B' k' d'] 38)).drew) ⟨w.heap.size + 1, 2, none⟩ = some (.slice A l.length c) := (H.blk 1 rfl).cell 2
    have y3 : World.cell? ((w6.alloc (.cells #[.int .i64 g, .int .i64 s, .slice A' n' c', .int .i64 m, .slice B' k' d'] 38)).drew) ⟨w.heap.size + 1, 3, none⟩ = some (.int .i64 m) := (H.blk 1 rfl).cell 3
    have y4 : World.cell? ((w6.alloc (.cells #[.int .i64 g, .int .i64 s, .slice A' n' c', .int .i64 m, .slice B' k' d'] 38)).drew) ⟨w.heap.size + 1, 4, none⟩ = some (.slice B R.length d) := (H.blk 1 rfl).cell 4
    have z0 : World.cell? ((w6.alloc (.cells #[.int .i64 g, .int .i64 s, .slice A' n' c', .int .i64 m, .slice B' k' d'] 38)).drew) ⟨w6.heap.size, 0, none⟩ = some (.int .i64 g) := (H.blk 0 rfl).cell 0
    have z1 : World.cell? ((w6.alloc (.cells #[.int .i64 g, .int .i64 s, .slice A' n' c', .int .i64 m, .slice B' k' d'] 38)).drew) ⟨w6.heap.size, 1, none⟩ = some (.int .i64 s) := (H.blk 0 rfl).cell 1
    have z2 : World.cell? ((w6.alloc (.cells #[.int .i64 g, .int .i64 s, .slice A' n' c', .int .i64 m, .slice B' k' d'] 38)).drew) ⟨w6.heap.size, 2, none⟩ = some (.slice A' n' c') := (H.blk 0 rfl).cell 2
    have z3 : World.cell? ((w6.alloc (.cells #[.int .i64 g, .int .i64 s, .slice A' n' c', .int .i64 m, .slice B' k' d'] 38)).drew) ⟨w6.heap.size, 3, none⟩ = some (.int .i64 m) := (H.blk 0 rfl).cell 3
    have z4 : World.cell? ((w6.alloc (.cells #[.int .i64 g, .int .i64 s, .slice A' n' c', .int .i64 m, .slice B' k' d'] 38)).drew) ⟨w6.heap.size, 4, none⟩ = some (.slice B' k' d') := (H.blk 0 rfl).cell 4
    have Hh := Lib.hid H
    clear H
    go_wp2_with fail
    go_wp2_with fail
    refine wp_region_flo [(0, true), (1, true), (2, true), (3, true), (5, true), (4, false), (6, false), (7, false), (8, true), (9, true)] (fun W => Turns [] (w6.alloc (.cells #[.int .i64 g, .int .i64 s, .slice A' n' c', .int .i64 m, .slice B' k' d'] 38)).drew W) (by kernel_rfl) rfl (by kernel_rfl) (by intro c d v a w h; cases d <;> first | (simpa [Exit.then, Exit.inBlock, Act.put] using h) | exact h) (Turns.refl _ _) ?_
    generalize (w6.alloc (.cells #[.int .i64 g, .int .i64 s, .slice A' n' c', .int .i64 m, .slice B' k' d'] 38)).drew = w7 at *
    refine flo_read _ rfl (fun K hK => ?_)
    go_simp
    first | (refine hK _ ?_) | (refine ⟨fun W hS => ?_, hK _ ?_⟩; · (skip; try go_simp))
    clear hK K
    refine flo_read _ rfl (fun K hK => ?_)
    go_simp
    first | (refine hK _ ?_) | (refine ⟨fun W hS => ?_, hK _ ?_⟩; · (skip; try go_simp))
    clear hK K
    refine flo_read _ rfl (fun K hK => ?_)
    go_simp
    first | (refine hK _ ?_) | (refine ⟨fun W hS => ?_, hK _ ?_⟩; · (skip; try go_simp))
    clear hK K
    refine flo_read _ rfl (fun K hK => ?_)
    go_simp
    first | (refine hK _ ?_) | (refine ⟨fun W hS => ?_, hK _ ?_⟩; · (skip; try go_simp))
    clear hK K
    refine flo_read _ rfl (fun K hK => ?_)
    go_simp
    first | (refine hK _ ?_) | (refine ⟨fun W hS => ?_, hK _ ?_⟩; · (skip; try go_simp))
    clear hK K
    refine flo_alone _ rfl ?_
    go_wp2_with fail
    refine ⟨fun W => Turns [] w7 W, fun W h => h, Turns.refl _ _, ?_⟩
    refine flo_alone _ rfl ?_
    go_wp2_with fail
    refine ⟨fun W => Turns [] w7 W, fun W h => h, Turns.refl _ _, ?_⟩
    refine flo_alone _ rfl ?_
    go_wp2_with fail
    refine ⟨fun W => Turns [] w7 W, fun W h => h, Turns.refl _ _, ?_⟩
    refine flo_read _ rfl (fun K hK => ?_)
    go_simp
    first | (refine hK _ ?_) | (refine ⟨fun W hS => ?_, hK _ ?_⟩; · (skip; try go_simp))
    clear hK K
    refine flo_read _ rfl (fun K hK => ?_)
    go_simp
    first | (refine hK _ ?_) | (refine ⟨fun W hS => ?_, hK _ ?_⟩; · (skip; try go_simp))
    clear hK K
    refine flo_end ?_
    have H := Hh.out
    have T9 := H.t
    have x0 : World.cell? (w7) ⟨w.heap.size, 0, none⟩ = some _ := (H.blk 2 rfl).cell 0
    have x1 : World.cell? (w7) ⟨w.heap.size, 1, none⟩ = some _ := (H.blk 2 rfl).cell 1
    have x2 : World.cell? (w7) ⟨w.heap.size, 2, none⟩ = some _ := (H.blk 2 rfl).cell 2
    have x3 : World.cell? (w7) ⟨w.heap.size, 3, none⟩ = some _ := (H.blk 2 rfl).cell 3
    clear Hh H y0 y1 y2 y3 y4 z0 z1 z2 z3 z4
    rcases hkey.out with ⟨rfl, rfl, hne, hbc⟩ | ⟨rfl, rfl, hne⟩ | ⟨rfl, rfl, rfl, rfl⟩
    · rcases hne with hne | ⟨rfl, hne⟩
      · have e1 : (a0 == a1) = false := by simpa using hne
        rcases hbc with rfl | ⟨rfl, rfl⟩
        · go_wp2_with fail
          go_at_call 16
          refine Calls.mono (alive_is _) ?_
          rintro e wA ⟨rfl, tA⟩
          have TA := T9.trans tA
          have xx0 := tA.old x0
          have xx1 := tA.old x1
          have xx2 := tA.old x2
          have xx3 := tA.old x3
          clear x0 x1 x2 x3
          go_wp2_with fail
          go_ret
          exact ⟨by simp, TA⟩
        · go_wp2_with fail
          go_at_call 16
          refine Calls.mono (alive_is _) ?_
          rintro e wA ⟨rfl, tA⟩
          have TA := T9.trans tA
          have xx0 := tA.old x0
          have xx1 := tA.old x1
          have xx2 := tA.old x2
          have xx3 := tA.old x3
          clear x0 x1 x2 x3
          go_wp2_with fail
          go_ret
          exact ⟨by simp, TA⟩
      · have e1 : (b0 == b1) = false := by simpa using hne
        rcases hbc with rfl | ⟨rfl, rfl⟩
        · go_wp2_with fail
          go_at_call 16
          refine Calls.mono (alive_is _) ?_
          rintro e wA ⟨rfl, tA⟩
          have TA := T9.trans tA
          have xx0 := tA.old x0
          have xx1 := tA.old x1
          have xx2 := tA.old x2
          have xx3 := tA.old x3
          clear x0 x1 x2 x3
          go_wp2_with fail
          go_ret
          exact ⟨by simp, TA⟩
        · go_wp2_with fail
          go_at_call 16
          refine Calls.mono (alive_is _) ?_
          rintro e wA ⟨rfl, tA⟩
          have TA := T9.trans tA
          have xx0 := tA.old x0
          have xx1 := tA.old x1
          have xx2 := tA.old x2
          have xx3 := tA.old x3
          clear x0 x1 x2 x3
          go_wp2_with fail
          go_ret
          exact ⟨by simp, TA⟩
    · rcases hne with hne | ⟨rfl, hne⟩
      · have e1 : (a0 == a1) = false := by simpa using hne
        go_wp2_with fail
        go_at_call 16
        refine Calls.mono (alive_is _) ?_
        rintro e wA ⟨rfl, tA⟩
        have TA := T9.trans tA
        have xx0 := tA.old x0
        have xx1 := tA.old x1
        have xx2 := tA.old x2
        have xx3 := tA.old x3
        clear x0 x1 x2 x3
        go_wp2_with fail
        go_ret
        exact ⟨by simp, TA⟩
      · have e1 : (b0 == b1) = false := by simpa using hne
        go_wp2_with fail
        go_at_call 16
        refine Calls.mono (alive_is _) ?_
        rintro e wA ⟨rfl, tA⟩
        have TA := T9.trans tA
        have xx0 := tA.old x0
        have xx1 := tA.old x1
        have xx2 := tA.old x2
        have xx3 := tA.old x3
        clear x0 x1 x2 x3
        go_wp2_with fail
        go_ret
        exact ⟨by simp, TA⟩
    · go_wp2_with fail
      go_at_call 16
      refine Calls.mono (alive_is _) ?_
      rintro e wA ⟨rfl, tA⟩
      have TA := T9.trans tA
      have xx0 := tA.old x0
      have xx1 := tA.old x1
      have xx2 := tA.old x2
      have xx3 := tA.old x3
      clear x0 x1 x2 x3
      go_wp2_with fail
      go_ret
      exact ⟨by simp, TA⟩

theorem nestLs : Nest Try.prog 100 [kInt .i64, kInt .i64] :=
  nStruct Try.underlying100 (ncons rfl (nInt Try.underlying3 (by kernel_rfl)) (ncons rfl (nInt Try.underlying3 (by kernel_rfl)) nnil rfl) rfl) (by kernel_rfl)
theorem nestRow : Nest Try.prog 75 [kInt .i64, kInt .i64, kInt .i64, kSlice [kInt .i64, kInt .i64]] :=
  nStruct Try.underlying75 (ncons rfl (nInt Try.underlying3 (by kernel_rfl)) (ncons rfl (nInt Try.underlying3 (by kernel_rfl)) (ncons rfl (nInt Try.underlying3 (by kernel_rfl)) (ncons rfl (nSlice Try.underlying73 nestLs (by kernel_rfl)) nnil rfl) rfl) rfl) rfl) (by kernel_rfl)
theorem nestTab : Nest Try.prog 36 [kInt .i64, kSlice [kInt .i64, kInt .i64, kInt .i64, kSlice [kInt .i64, kInt .i64]]] :=
  nStruct Try.underlying36 (ncons rfl (nInt Try.underlying3 (by kernel_rfl)) (ncons rfl (nSlice Try.underlying34 nestRow (by kernel_rfl)) nnil rfl) rfl) (by kernel_rfl)
theorem nestTok : Nest Try.prog 38 [kInt .i64, kInt .i64, kSlice [kInt .i64], kInt .i64, kSlice [kInt .i64, kInt .i64, kInt .i64, kSlice [kInt .i64, kInt .i64]]] :=
  nStruct Try.underlying38 (ncons rfl (nInt Try.underlying3 (by kernel_rfl)) (ncons rfl (nInt Try.underlying3 (by kernel_rfl)) (ncons rfl (nSlice Try.underlying33 (nInt Try.underlying3 (by kernel_rfl)) (by kernel_rfl)) (ncons rfl nestTab nnil rfl) rfl) rfl) rfl) (by kernel_rfl)
theorem nestPlace : Nest Try.prog 45 [kInt .i64, kInt .i64] :=
  nStruct Try.underlying45 (ncons rfl (nInt Try.underlying3 (by kernel_rfl)) (ncons rfl (nInt Try.underlying3 (by kernel_rfl)) nnil rfl) rfl) (by kernel_rfl)
theorem line_opened {H : Type} (enc : TypeId × Value → H) (W : World) {base : Nat} {v0 v1 : Value} {d0 d1 : DataW H} {p0 p1 : List MemPlace} (h0 : DataW.Trod enc Try.prog W 0 (fun _ => true) true 48 v0 d0 p0)
    (h1 : DataW.Trod enc Try.prog W 0 (fun _ => true) true 38 v1 d1 p1)
    (o0 : Value.okWide Try.prog W .any base 48 v0) (o1 : Value.okWide Try.prog W .any base 38 v1) :
    Calls Try.prog 5 #[v0, v1] W fun e w' => e = .returned (.bool true) ∧ Below W.heap.size W w' := by
  obtain ⟨cs, rfl, kf⟩ := arg_array Try.underlying48 (nArray Try.underlying48 nestPlace (by kernel_rfl)) h0 o0
  obtain ⟨_, r0, rfl, ⟨a0, rfl, _⟩, k0⟩ := (show Kds W [kInt .i64, kInt .i64, kInt .i64, kInt .i64, kInt .i64, kInt .i64] cs from kf).out
  obtain ⟨_, r1, rfl, ⟨b0, rfl, _⟩, k1⟩ := k0.out
  obtain ⟨_, r2, rfl, ⟨a1, rfl, _⟩, k2⟩ := k1.out
  obtain ⟨_, r3, rfl, ⟨b1, rfl, _⟩, k3⟩ := k2.out
  obtain ⟨_, r4, rfl, ⟨a2, rfl, _⟩, k4⟩ := k3.out
  obtain ⟨_, r5, rfl, ⟨b2, rfl, _⟩, k5⟩ := k4.out
  obtain rfl := k5.none
  obtain ⟨cs, rfl, kr⟩ := arg_struct Try.underlying38 nestTok h1 o1
  obtain ⟨_, r0, rfl, ⟨g, rfl, _⟩, k0⟩ := kr.out
  obtain ⟨_, r1, rfl, ⟨s, rfl, ws⟩, k1⟩ := k0.out
  obtain ⟨sv, r2, rfl, ks, k2⟩ := k1.out
  obtain ⟨_, r3, rfl, ⟨m, rfl, _⟩, k3⟩ := k2.out
  obtain ⟨rv, r4, rfl, kv, k4⟩ := k3.out
  obtain rfl := k4.none
  obtain ⟨l, hl, _⟩ := ks.ints
  obtain ⟨R, hR, hRo⟩ := kv.list (f := Rw.cells) (p := outOk W) (fun r hr => by
    obtain ⟨_, r0, rfl, ⟨a, rfl, _⟩, k0⟩ := hr.out
    obtain ⟨_, r1, rfl, ⟨b, rfl, _⟩, k1⟩ := k0.out
    obtain ⟨_, r2, rfl, ⟨c, rfl, _⟩, k2⟩ := k1.out
    obtain ⟨ov, r3, rfl, ko, k3⟩ := k2.out
    obtain rfl := k3.none
    obtain ⟨ls, hls, _⟩ := ko.list (f := fun p : Int × Int => [.int .i64 p.1, .int .i64 p.2]) (p := fun _ => True) (fun r hr => by
      obtain ⟨_, r0, rfl, ⟨x, rfl, _⟩, k0⟩ := hr.out
      obtain ⟨_, r1, rfl, ⟨y, rfl, _⟩, k1⟩ := k0.out
      obtain rfl := k1.none
      exact ⟨(x, y), rfl, trivial⟩)
    exact ⟨⟨a, b, c, ov⟩, rfl, ls, hls⟩)
  exact (line_law W a0 b0 a1 b1 a2 b2 g s m (int_bd ws).1 sv rv l R hl hR hRo).mono fun e w' ⟨he, t⟩ => ⟨he, t.isBelow⟩
end Go.Proofs.Ytmaielpfeajelaa.Tl
