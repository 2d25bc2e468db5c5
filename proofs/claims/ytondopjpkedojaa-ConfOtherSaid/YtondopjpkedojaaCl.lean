/- The laws ConfNumbers, ConfOther. -/
import Derived.Test.YtondopjpkedojaaCa
import Derived.Test.YtondopjpkedojaaHa
set_option linter.unusedVariables false
set_option linter.unusedSimpArgs false
set_option maxRecDepth 100000
namespace Go.Proofs.Ytondopjpkedojaa.Cl
open Go.RowKit Go.MapKept Hm Hs Hr Hb Hf Hv Hn Ho Ha Cf Cn Sm Sat Mu Ca Go.ChangeShapes Go.WideShapes
def nextS (n above node : Int) : Int × Int := if (1 ≤ n ∧ n ≤ 64) ∧ 0 ≤ node ∧ node < n then (if above ≥ 1099511627776 then (0, 6) else nextR n above node) else (0, 1)
theorem next_all (n above node : Int) (w : World) : Calls Try.prog 71 #[.int .i64 n, .int .i64 above, .int .i64 node] w fun e w' => e = .returned (.tuple #[.int .i64 (nextS n above node).1, .int .i64 (nextS n above node).2]) ∧ Turns [] w w' := by
  unfold nextS
  by_cases h : (1 ≤ n ∧ n ≤ 64) ∧ 0 ≤ node ∧ node < n
  · rw [if_pos h]
    by_cases ha : above ≥ 1099511627776
    · rw [if_pos ha]; exact next_over n above node w h ha
    · rw [if_neg ha]; exact next_is n above node w h (by omega)
  · rw [if_neg h]; exact next_bad n above node w h
theorem rnext_all (n above node : Int) (w : World) (hm : -9223372036854775808 ≤ above) : Calls Try.prog 72 #[.int .i64 n, .int .i64 above, .int .i64 node] w fun e w' => e = .returned (.tuple #[.int .i64 (nextS n above node).1, .int .i64 (nextS n above node).2]) ∧ Turns [] w w' := by
  unfold nextS
  by_cases h : (1 ≤ n ∧ n ≤ 64) ∧ 0 ≤ node ∧ node < n
  · rw [if_pos h]
    by_cases ha : above ≥ 1099511627776
    · rw [if_pos ha]; exact rnext_over n above node w h ha
    · rw [if_neg ha]; exact rnext_is n above node w h (by omega) hm
  · rw [if_neg h]; exact rnext_bad n above node w h
set_option maxHeartbeats 8000000 in
theorem numbers_is (p m n x y : Int) (w : World) (hx : -9223372036854775808 ≤ x) : Calls Try.prog 13 #[.agg #[.int .i64 p, .int .i64 m], .int .i64 n, .agg #[.int .i64 x, .int .i64 y]] w
    fun e w' => e = .returned (.bool true) ∧ Turns [] w w' := by
  have TA := (Turns.refl [] w).alloc (.cells #[.int .i64 p, .int .i64 m] 25)
  have TB := TA.alloc (.cells #[.int .i64 x, .int .i64 y] 25)
  have hB := (Blk.new w #[.int .i64 p, .int .i64 m] 25).alloc (.cells #[.int .i64 x, .int .i64 y] 25)
  have hC := Blk.new (w.alloc (.cells #[.int .i64 p, .int .i64 m] 25)) #[.int .i64 x, .int .i64 y] 25
  simp only [World.size_alloc] at hC
  by_cases h : 0 ≤ p ∧ p < 8 ∧ 0 ≤ m ∧ m ≤ 65535
  · obtain ⟨h1, h2, h3, h4⟩ := h
    have g1 : decide (p ≥ 0) = true := decide_eq_true h1
    have g2 : decide (p < 8) = true := decide_eq_true h2
    have g3 : decide (m ≥ 0) = true := decide_eq_true h3
    have g4 : decide (m ≤ 65535) = true := decide_eq_true h4
    go_enter Try.func13, Try.ntmps13
    go_wp2_with fail
    go_at_call 70
    refine (key_yes p m _ ⟨h1, h2, h3, h4⟩).mono ?_
    rintro e w1 ⟨rfl, t1⟩
    replace hB := hB.turns t1 (by simp)
    replace hC := hC.turns t1 (by simp)
    have b0 : w1.cell? ⟨w.heap.size, 0, none⟩ = some _ := hB.cell 0
    have b1 : w1.cell? ⟨w.heap.size, 1, none⟩ = some _ := hB.cell 1
    have c0 : w1.cell? ⟨w.heap.size + 1, 0, none⟩ = some _ := hC.cell 0
    have c1 : w1.cell? ⟨w.heap.size + 1, 1, none⟩ = some _ := hC.cell 1
    have T1 := TB.trans t1
    clear TA TB t1
    have g5 : (p * 65536 + m != 65536 * p + m) = false := by rw [Int.mul_comm]; simp
    go_wp2_with fail
    go_at_call 71
    refine (next_all n x y _).mono ?_
    rintro e w2 ⟨rfl, t2⟩
    have T2 := T1.trans t2
    replace hC := hC.turns t2 (by simp)
    have c0 : w2.cell? ⟨w.heap.size + 1, 0, none⟩ = some _ := hC.cell 0
    have c1 : w2.cell? ⟨w.heap.size + 1, 1, none⟩ = some _ := hC.cell 1
    go_wp2_with fail
    go_at_call 72
    refine (rnext_all n x y _ hx).mono ?_
    rintro e w3 ⟨rfl, t3⟩
    have T3 := T2.trans t3
    replace hC := hC.turns t3 (by simp)
    obtain ⟨a, e⟩ := nextS n x y
    clear hB b0 b1 c0 c1 t2 t3 T1 T2
    have Td := T3.drew
    have hCd : Blk w3.drew (w.heap.size + 1) #[.int .i64 x, .int .i64 y] 25 := hC
    go_wp2_with fail
    refine wp_region_flo [(0, false), (1, true), (2, true), (3, true), (4, true), (5, true), (6, true), (7, true), (8, true), (9, true), (10, true), (11, true), (12, true), (13, true), (14, true), (16, true), (17, true), (18, true), (15, false), (19, false), (20, true), (21, true), (22, true)] (fun W => Blk W (w.heap.size + 1) #[.int .i64 x, .int .i64 y] 25) (by kernel_rfl) rfl (by kernel_rfl) (by intro c d v a w h; cases d <;> first | (simpa [Exit.then, Exit.inBlock, Act.put] using h) | exact h) (hCd) ?_
    clear T3 hC
    generalize w3.drew = w4 at *
    refine flo_alone _ rfl ?_
    go_wp2_with fail
    go_at_call 73
    refine (alive_any _).mono ?_
    rintro e w5 ⟨rfl, t5⟩
    go_wp2_with fail
    refine ⟨fun W => Blk W (w.heap.size + 1) #[.int .i64 x, .int .i64 y] 25, fun W h => h, hCd.turns t5 (by simp), ?_⟩
    replace hCd := hCd.turns t5 (by simp)
    have T5 := Td.trans t5
    have c0 : w5.cell? ⟨w.heap.size + 1, 0, none⟩ = some _ := hCd.cell 0
    refine flo_read _ rfl (fun K hK => ?_)
    go_simp
    first | (refine hK _ ?_) | (refine ⟨fun W hS => ?_, hK _ ?_⟩; · (have x0 : W.cell? ⟨w.heap.size + 1, 0, none⟩ = some _ := hS.cell 0; try go_simp))
    clear hK K
    refine flo_read _ rfl (fun K hK => ?_)
    go_simp
    first | (refine hK _ ?_) | (refine ⟨fun W hS => ?_, hK _ ?_⟩; · (have x0 : W.cell? ⟨w.heap.size + 1, 0, none⟩ = some _ := hS.cell 0; try go_simp))
    clear hK K
    refine flo_read _ rfl (fun K hK => ?_)
    go_simp
    first | (refine hK _ ?_) | (refine ⟨fun W hS => ?_, hK _ ?_⟩; · (have x0 : W.cell? ⟨w.heap.size + 1, 0, none⟩ = some _ := hS.cell 0; try go_simp))
    clear hK K
    refine flo_read _ rfl (fun K hK => ?_)
    go_simp
    first | (refine hK _ ?_) | (refine ⟨fun W hS => ?_, hK _ ?_⟩; · (have x0 : W.cell? ⟨w.heap.size + 1, 0, none⟩ = some _ := hS.cell 0; try go_simp))
    clear hK K
    refine flo_read _ rfl (fun K hK => ?_)
    go_simp
    first | (refine hK _ ?_) | (refine ⟨fun W hS => ?_, hK _ ?_⟩; · (have x0 : W.cell? ⟨w.heap.size + 1, 0, none⟩ = some _ := hS.cell 0; try go_simp))
    clear hK K
    refine flo_read _ rfl (fun K hK => ?_)
    go_simp
    first | (refine hK _ ?_) | (refine ⟨fun W hS => ?_, hK _ ?_⟩; · (have x0 : W.cell? ⟨w.heap.size + 1, 0, none⟩ = some _ := hS.cell 0; try go_simp))
    clear hK K
    refine flo_read _ rfl (fun K hK => ?_)
    go_simp
    first | (refine hK _ ?_) | (refine ⟨fun W hS => ?_, hK _ ?_⟩; · (have x0 : W.cell? ⟨w.heap.size + 1, 0, none⟩ = some _ := hS.cell 0; try go_simp))
    clear hK K
    refine flo_read _ rfl (fun K hK => ?_)
    go_simp
    first | (refine hK _ ?_) | (refine ⟨fun W hS => ?_, hK _ ?_⟩; · (have x0 : W.cell? ⟨w.heap.size + 1, 0, none⟩ = some _ := hS.cell 0; try go_simp))
    clear hK K
    refine flo_read _ rfl (fun K hK => ?_)
    go_simp
    first | (refine hK _ ?_) | (refine ⟨fun W hS => ?_, hK _ ?_⟩; · (have x0 : W.cell? ⟨w.heap.size + 1, 0, none⟩ = some _ := hS.cell 0; try go_simp))
    clear hK K
    refine flo_read _ rfl (fun K hK => ?_)
    go_simp
    first | (refine hK _ ?_) | (refine ⟨fun W hS => ?_, hK _ ?_⟩; · (have x0 : W.cell? ⟨w.heap.size + 1, 0, none⟩ = some _ := hS.cell 0; try go_simp))
    clear hK K
    refine flo_read _ rfl (fun K hK => ?_)
    go_simp
    first | (refine hK _ ?_) | (refine ⟨fun W hS => ?_, hK _ ?_⟩; · (have x0 : W.cell? ⟨w.heap.size + 1, 0, none⟩ = some _ := hS.cell 0; try go_simp))
    clear hK K
    refine flo_read _ rfl (fun K hK => ?_)
    go_simp
    first | (refine hK _ ?_) | (refine ⟨fun W hS => ?_, hK _ ?_⟩; · (have x0 : W.cell? ⟨w.heap.size + 1, 0, none⟩ = some _ := hS.cell 0; try go_simp))
    clear hK K
    refine flo_read _ rfl (fun K hK => ?_)
    go_simp
    first | (refine hK _ ?_) | (refine ⟨fun W hS => ?_, hK _ ?_⟩; · (have x0 : W.cell? ⟨w.heap.size + 1, 0, none⟩ = some _ := hS.cell 0; try go_simp))
    clear hK K
    refine flo_read _ rfl (fun K hK => ?_)
    go_simp
    first | (refine hK _ ?_) | (refine ⟨fun W hS => ?_, hK _ ?_⟩; · (have x0 : W.cell? ⟨w.heap.size + 1, 0, none⟩ = some _ := hS.cell 0; try go_simp))
    clear hK K
    refine flo_read _ rfl (fun K hK => ?_)
    go_simp
    first | (refine hK _ ?_) | (refine ⟨fun W hS => ?_, hK _ ?_⟩; · (have x0 : W.cell? ⟨w.heap.size + 1, 0, none⟩ = some _ := hS.cell 0; try go_simp))
    clear hK K
    refine flo_read _ rfl (fun K hK => ?_)
    go_simp
    first | (refine hK _ ?_) | (refine ⟨fun W hS => ?_, hK _ ?_⟩; · (have x0 : W.cell? ⟨w.heap.size + 1, 0, none⟩ = some _ := hS.cell 0; try go_simp))
    clear hK K
    refine flo_read _ rfl (fun K hK => ?_)
    go_simp
    first | (refine hK _ ?_) | (refine ⟨fun W hS => ?_, hK _ ?_⟩; · (have x0 : W.cell? ⟨w.heap.size + 1, 0, none⟩ = some _ := hS.cell 0; try go_simp))
    clear hK K
    clear c0
    refine flo_alone _ rfl ?_
    go_wp2_with fail
    go_at_call 74
    refine (owner_is n x _).mono ?_
    rintro e w6 ⟨rfl, t6⟩
    go_wp2_with fail
    refine ⟨fun W => Blk W (w.heap.size + 1) #[.int .i64 x, .int .i64 y] 25, fun W h => h, hCd.turns t6 (by simp), ?_⟩
    replace hCd := hCd.turns t6 (by simp)
    refine flo_alone _ rfl ?_
    go_wp2_with fail
    go_at_call 75
    refine (rowner_is n x _).mono ?_
    rintro e w7 ⟨rfl, t7⟩
    go_wp2_with fail
    refine ⟨fun W => Blk W (w.heap.size + 1) #[.int .i64 x, .int .i64 y] 25, fun W h => h, hCd.turns t7 (by simp), ?_⟩
    refine flo_read _ rfl (fun K hK => ?_)
    go_simp
    first | (refine hK _ ?_) | (refine ⟨fun W hS => ?_, hK _ ?_⟩; · (skip; try go_simp))
    clear hK K
    refine flo_read _ rfl (fun K hK => ?_)
    go_simp
    first | (refine hK _ ?_) | (refine ⟨fun W hS => ?_, hK _ ?_⟩; · (skip; try go_simp))
    clear hK K
    refine flo_read _ rfl (fun K hK => ?_)
    go_simp
    first | (refine hK _ ?_) | (refine ⟨fun W hS => ?_, hK _ ?_⟩; · (skip; try go_simp))
    clear hK K
    refine flo_end ?_
    go_wp2_with fail
    go_ret
    exact ⟨rfl, (T5.trans t6).trans t7⟩
  · by_cases h1 : p ≥ 0
    · have g1 := decide_eq_true h1
      by_cases h2 : p < 8
      · have g2 := decide_eq_true h2
        by_cases h3 : m ≥ 0
        · have g3 := decide_eq_true h3
          have g4 : decide (m ≤ 65535) = false := decide_eq_false (by omega)
          go_enter Try.func13, Try.ntmps13
          go_wp2_with fail
          go_at_call 70
          refine (key_no p m _ h).mono ?_
          rintro e w1 ⟨rfl, t1⟩
          replace hB := hB.turns t1 (by simp)
          replace hC := hC.turns t1 (by simp)
          have b0 : w1.cell? ⟨w.heap.size, 0, none⟩ = some _ := hB.cell 0
          have b1 : w1.cell? ⟨w.heap.size, 1, none⟩ = some _ := hB.cell 1
          have c0 : w1.cell? ⟨w.heap.size + 1, 0, none⟩ = some _ := hC.cell 0
          have c1 : w1.cell? ⟨w.heap.size + 1, 1, none⟩ = some _ := hC.cell 1
          have T1 := TB.trans t1
          clear TA TB t1
          go_wp2_with fail
          go_at_call 71
          refine (next_all n x y _).mono ?_
          rintro e w2 ⟨rfl, t2⟩
          have T2 := T1.trans t2
          replace hC := hC.turns t2 (by simp)
          have c0 : w2.cell? ⟨w.heap.size + 1, 0, none⟩ = some _ := hC.cell 0
          have c1 : w2.cell? ⟨w.heap.size + 1, 1, none⟩ = some _ := hC.cell 1
          go_wp2_with fail
          go_at_call 72
          refine (rnext_all n x y _ hx).mono ?_
          rintro e w3 ⟨rfl, t3⟩
          have T3 := T2.trans t3
          replace hC := hC.turns t3 (by simp)
          obtain ⟨a, e⟩ := nextS n x y
          clear hB b0 b1 c0 c1 t2 t3 T1 T2
          have Td := T3.drew
          have hCd : Blk w3.drew (w.heap.size + 1) #[.int .i64 x, .int .i64 y] 25 := hC
          go_wp2_with fail
          refine wp_region_flo [(0, false), (1, true), (2, true), (3, true), (4, true), (5, true), (6, true), (7, true), (8, true), (9, true), (10, true), (11, true), (12, true), (13, true), (14, true), (16, true), (17, true), (18, true), (15, false), (19, false), (20, true), (21, true), (22, true)] (fun W => Blk W (w.heap.size + 1) #[.int .i64 x, .int .i64 y] 25) (by kernel_rfl) rfl (by kernel_rfl) (by intro c d v a w h; cases d <;> first | (simpa [Exit.then, Exit.inBlock, Act.put] using h) | exact h) (hCd) ?_
          clear T3 hC
          generalize w3.drew = w4 at *
          refine flo_alone _ rfl ?_
          go_wp2_with fail
          go_at_call 73
          refine (alive_any _).mono ?_
          rintro e w5 ⟨rfl, t5⟩
          go_wp2_with fail
          refine ⟨fun W => Blk W (w.heap.size + 1) #[.int .i64 x, .int .i64 y] 25, fun W h => h, hCd.turns t5 (by simp), ?_⟩
          replace hCd := hCd.turns t5 (by simp)
          have T5 := Td.trans t5
          have c0 : w5.cell? ⟨w.heap.size + 1, 0, none⟩ = some _ := hCd.cell 0
          refine flo_read _ rfl (fun K hK => ?_)
          go_simp
          first | (refine hK _ ?_) | (refine ⟨fun W hS => ?_, hK _ ?_⟩; · (have x0 : W.cell? ⟨w.heap.size + 1, 0, none⟩ = some _ := hS.cell 0; try go_simp))
          clear hK K
          refine flo_read _ rfl (fun K hK => ?_)
          go_simp
          first | (refine hK _ ?_) | (refine ⟨fun W hS => ?_, hK _ ?_⟩; · (have x0 : W.cell? ⟨w.heap.size + 1, 0, none⟩ = some _ := hS.cell 0; try go_simp))
          clear hK K
          refine flo_read _ rfl (fun K hK => ?_)
          go_simp
          first | (refine hK _ ?_) | (refine ⟨fun W hS => ?_, hK _ ?_⟩; · (have x0 : W.cell? ⟨w.heap.size + 1, 0, none⟩ = some _ := hS.cell 0; try go_simp))
          clear hK K
          refine flo_read _ rfl (fun K hK => ?_)
          go_simp
          first | (refine hK _ ?_) | (refine ⟨fun W hS => ?_, hK _ ?_⟩; · (have x0 : W.cell? ⟨w.heap.size + 1, 0, none⟩ = some _ := hS.cell 0; try go_simp))
          clear hK K
          refine flo_read _ rfl (fun K hK => ?_)
          go_simp
          first | (refine hK _ ?_) | (refine ⟨fun W hS => ?_, hK _ ?_⟩; · (have x0 : W.cell? ⟨w.heap.size + 1, 0, none⟩ = some _ := hS.cell 0; try go_simp))
          clear hK K
          refine flo_read _ rfl (fun K hK => ?_)
          go_simp
          first | (refine hK _ ?_) | (refine ⟨fun W hS => ?_, hK _ ?_⟩; · (have x0 : W.cell? ⟨w.heap.size + 1, 0, none⟩ = some _ := hS.cell 0; try go_simp))
          clear hK K
          refine flo_read _ rfl (fun K hK => ?_)
          go_simp
          first | (refine hK _ ?_) | (refine ⟨fun W hS => ?_, hK _ ?_⟩; · (have x0 : W.cell? ⟨w.heap.size + 1, 0, none⟩ = some _ := hS.cell 0; try go_simp))
          clear hK K
          refine flo_read _ rfl (fun K hK => ?_)
          go_simp
          first | (refine hK _ ?_) | (refine ⟨fun W hS => ?_, hK _ ?_⟩; · (have x0 : W.cell? ⟨w.heap.size + 1, 0, none⟩ = some _ := hS.cell 0; try go_simp))
          clear hK K
          refine flo_read _ rfl (fun K hK => ?_)
          go_simp
          first | (refine hK _ ?_) | (refine ⟨fun W hS => ?_, hK _ ?_⟩; · (have x0 : W.cell? ⟨w.heap.size + 1, 0, none⟩ = some _ := hS.cell 0; try go_simp))
          clear hK K
          refine flo_read _ rfl (fun K hK => ?_)
          go_simp
          first | (refine hK _ ?_) | (refine ⟨fun W hS => ?_, hK _ ?_⟩; · (have x0 : W.cell? ⟨w.heap.size + 1, 0, none⟩ = some _ := hS.cell 0; try go_simp))
          clear hK K
          refine flo_read _ rfl (fun K hK => ?_)
          go_simp
          first | (refine hK _ ?_) | (refine ⟨fun W hS => ?_, hK _ ?_⟩; · (have x0 : W.cell? ⟨w.heap.size + 1, 0, none⟩ = some _ := hS.cell 0; try go_simp))
          clear hK K
          refine flo_read _ rfl (fun K hK => ?_)
          go_simp
          first | (refine hK _ ?_) | (refine ⟨fun W hS => ?_, hK _ ?_⟩; · (have x0 : W.cell? ⟨w.heap.size + 1, 0, none⟩ = some _ := hS.cell 0; try go_simp))
          clear hK K
          refine flo_read _ rfl (fun K hK => ?_)
          go_simp
          first | (refine hK _ ?_) | (refine ⟨fun W hS => ?_, hK _ ?_⟩; · (have x0 : W.cell? ⟨w.heap.size + 1, 0, none⟩ = some _ := hS.cell 0; try go_simp))
          clear hK K
          refine flo_read _ rfl (fun K hK => ?_)
          go_simp
          first | (refine hK _ ?_) | (refine ⟨fun W hS => ?_, hK _ ?_⟩; · (have x0 : W.cell? ⟨w.heap.size + 1, 0, none⟩ = some _ := hS.cell 0; try go_simp))
          clear hK K
          refine flo_read _ rfl (fun K hK => ?_)
          go_simp
          first | (refine hK _ ?_) | (refine ⟨fun W hS => ?_, hK _ ?_⟩; · (have x0 : W.cell? ⟨w.heap.size + 1, 0, none⟩ = some _ := hS.cell 0; try go_simp))
          clear hK K
          refine flo_read _ rfl (fun K hK => ?_)
          go_simp
          first | (refine hK _ ?_) | (refine ⟨fun W hS => ?_, hK _ ?_⟩; · (have x0 : W.cell? ⟨w.heap.size + 1, 0, none⟩ = some _ := hS.cell 0; try go_simp))
          clear hK K
          refine flo_read _ rfl (fun K hK => ?_)
          go_simp
          first | (refine hK _ ?_) | (refine ⟨fun W hS => ?_, hK _ ?_⟩; · (have x0 : W.cell? ⟨w.heap.size + 1, 0, none⟩ = some _ := hS.cell 0; try go_simp))
          clear hK K
          clear c0
          refine flo_alone _ rfl ?_
          go_wp2_with fail
          go_at_call 74
          refine (owner_is n x _).mono ?_
          rintro e w6 ⟨rfl, t6⟩
          go_wp2_with fail
          refine ⟨fun W => Blk W (w.heap.size + 1) #[.int .i64 x, .int .i64 y] 25, fun W h => h, hCd.turns t6 (by simp), ?_⟩
          replace hCd := hCd.turns t6 (by simp)
          refine flo_alone _ rfl ?_
          go_wp2_with fail
          go_at_call 75
          refine (rowner_is n x _).mono ?_
          rintro e w7 ⟨rfl, t7⟩
          go_wp2_with fail
          refine ⟨fun W => Blk W (w.heap.size + 1) #[.int .i64 x, .int .i64 y] 25, fun W h => h, hCd.turns t7 (by simp), ?_⟩
          refine flo_read _ rfl (fun K hK => ?_)
          go_simp
          first | (refine hK _ ?_) | (refine ⟨fun W hS => ?_, hK _ ?_⟩; · (skip; try go_simp))
          clear hK K
          refine flo_read _ rfl (fun K hK => ?_)
          go_simp
          first | (refine hK _ ?_) | (refine ⟨fun W hS => ?_, hK _ ?_⟩; · (skip; try go_simp))
          clear hK K
          refine flo_read _ rfl (fun K hK => ?_)
          go_simp
          first | (refine hK _ ?_) | (refine ⟨fun W hS => ?_, hK _ ?_⟩; · (skip; try go_simp))
          clear hK K
          refine flo_end ?_
          go_wp2_with fail
          go_ret
          exact ⟨rfl, (T5.trans t6).trans t7⟩
        · have g3 := decide_eq_false h3
          go_enter Try.func13, Try.ntmps13
          go_wp2_with fail
          go_at_call 70
          refine (key_no p m _ h).mono ?_
          rintro e w1 ⟨rfl, t1⟩
          replace hB := hB.turns t1 (by simp)
          replace hC := hC.turns t1 (by simp)
          have b0 : w1.cell? ⟨w.heap.size, 0, none⟩ = some _ := hB.cell 0
          have b1 : w1.cell? ⟨w.heap.size, 1, none⟩ = some _ := hB.cell 1
          have c0 : w1.cell? ⟨w.heap.size + 1, 0, none⟩ = some _ := hC.cell 0
          have c1 : w1.cell? ⟨w.heap.size + 1, 1, none⟩ = some _ := hC.cell 1
          have T1 := TB.trans t1
          clear TA TB t1
          go_wp2_with fail
          go_at_call 71
          refine (next_all n x y _).mono ?_
          rintro e w2 ⟨rfl, t2⟩
          have T2 := T1.trans t2
          replace hC := hC.turns t2 (by simp)
          have c0 : w2.cell? ⟨w.heap.size + 1, 0, none⟩ = some _ := hC.cell 0
          have c1 : w2.cell? ⟨w.heap.size + 1, 1, none⟩ = some _ := hC.cell 1
          go_wp2_with fail
          go_at_call 72
          refine (rnext_all n x y _ hx).mono ?_
          rintro e w3 ⟨rfl, t3⟩
          have T3 := T2.trans t3
          replace hC := hC.turns t3 (by simp)
          obtain ⟨a, e⟩ := nextS n x y
          clear hB b0 b1 c0 c1 t2 t3 T1 T2
          have Td := T3.drew
          have hCd : Blk w3.drew (w.heap.size + 1) #[.int .i64 x, .int .i64 y] 25 := hC
          go_wp2_with fail
          refine wp_region_flo [(0, false), (1, true), (2, true), (3, true), (4, true), (5, true), (6, true), (7, true), (8, true), (9, true), (10, true), (11, true), (12, true), (13, true), (14, true), (16, true), (17, true), (18, true), (15, false), (19, false), (20, true), (21, true), (22, true)] (fun W => Blk W (w.heap.size + 1) #[.int .i64 x, .int .i64 y] 25) (by kernel_rfl) rfl (by kernel_rfl) (by intro c d v a w h; cases d <;> first | (simpa [Exit.then, Exit.inBlock, Act.put] using h) | exact h) (hCd) ?_
          clear T3 hC
          generalize w3.drew = w4 at *
          refine flo_alone _ rfl ?_
          go_wp2_with fail
          go_at_call 73
          refine (alive_any _).mono ?_
          rintro e w5 ⟨rfl, t5⟩
          go_wp2_with fail
          refine ⟨fun W => Blk W (w.heap.size + 1) #[.int .i64 x, .int .i64 y] 25, fun W h => h, hCd.turns t5 (by simp), ?_⟩
          replace hCd := hCd.turns t5 (by simp)
          have T5 := Td.trans t5
          have c0 : w5.cell? ⟨w.heap.size + 1, 0, none⟩ = some _ := hCd.cell 0
          refine flo_read _ rfl (fun K hK => ?_)
          go_simp
          first | (refine hK _ ?_) | (refine ⟨fun W hS => ?_, hK _ ?_⟩; · (have x0 : W.cell? ⟨w.heap.size + 1, 0, none⟩ = some _ := hS.cell 0; try go_simp))
          clear hK K
          refine flo_read _ rfl (fun K hK => ?_)
          go_simp
          first | (refine hK _ ?_) | (refine ⟨fun W hS => ?_, hK _ ?_⟩; · (have x0 : W.cell? ⟨w.heap.size + 1, 0, none⟩ = some _ := hS.cell 0; try go_simp))
          clear hK K
          refine flo_read _ rfl (fun K hK => ?_)
          go_simp
          first | (refine hK _ ?_) | (refine ⟨fun W hS => ?_, hK _ ?_⟩; · (have x0 : W.cell? ⟨w.heap.size + 1, 0, none⟩ = some _ := hS.cell 0; try go_simp))
          clear hK K
          refine flo_read _ rfl (fun K hK => ?_)
          go_simp
          first | (refine hK _ ?_) | (refine ⟨fun W hS => ?_, hK _ ?_⟩; · (have x0 : W.cell? ⟨w.heap.size + 1, 0, none⟩ = some _ := hS.cell 0; try go_simp))
          clear hK K
          refine flo_read _ rfl (fun K hK => ?_)
          go_simp
          first | (refine hK _ ?_) | (refine ⟨fun W hS => ?_, hK _ ?_⟩; · (have x0 : W.cell? ⟨w.heap.size + 1, 0, none⟩ = some _ := hS.cell 0; try go_simp))
          clear hK K
          refine flo_read _ rfl (fun K hK => ?_)
          go_simp
          first | (refine hK _ ?_) | (refine ⟨fun W hS => ?_, hK _ ?_⟩; · (have x0 : W.cell? ⟨w.heap.size + 1, 0, none⟩ = some _ := hS.cell 0; try go_simp))
          clear hK K
          refine flo_read _ rfl (fun K hK => ?_)
          go_simp
          first | (refine hK _ ?_) | (refine ⟨fun W hS => ?_, hK _ ?_⟩; · (have x0 : W.cell? ⟨w.heap.size + 1, 0, none⟩ = some _ := hS.cell 0; try go_simp))
          clear hK K
          refine flo_read _ rfl (fun K hK => ?_)
          go_simp
          first | (refine hK _ ?_) | (refine ⟨fun W hS => ?_, hK _ ?_⟩; · (have x0 : W.cell? ⟨w.heap.size + 1, 0, none⟩ = some _ := hS.cell 0; try go_simp))
          clear hK K
          refine flo_read _ rfl (fun K hK => ?_)
          go_simp
          first | (refine hK _ ?_) | (refine ⟨fun W hS => ?_, hK _ ?_⟩; · (have x0 : W.cell? ⟨w.heap.size + 1, 0, none⟩ = some _ := hS.cell 0; try go_simp))
          clear hK K
          refine flo_read _ rfl (fun K hK => ?_)
          go_simp
          first | (refine hK _ ?_) | (refine ⟨fun W hS => ?_, hK _ ?_⟩; · (have x0 : W.cell? ⟨w.heap.size + 1, 0, none⟩ = some _ := hS.cell 0; try go_simp))
          clear hK K
          refine flo_read _ rfl (fun K hK => ?_)
          go_simp
          first | (refine hK _ ?_) | (refine ⟨fun W hS => ?_, hK _ ?_⟩; · (have x0 : W.cell? ⟨w.heap.size + 1, 0, none⟩ = some _ := hS.cell 0; try go_simp))
          clear hK K
          refine flo_read _ rfl (fun K hK => ?_)
          go_simp
          first | (refine hK _ ?_) | (refine ⟨fun W hS => ?_, hK _ ?_⟩; · (have x0 : W.cell? ⟨w.heap.size + 1, 0, none⟩ = some _ := hS.cell 0; try go_simp))
          clear hK K
          refine flo_read _ rfl (fun K hK => ?_)
          go_simp
          first | (refine hK _ ?_) | (refine ⟨fun W hS => ?_, hK _ ?_⟩; · (have x0 : W.cell? ⟨w.heap.size + 1, 0, none⟩ = some _ := hS.cell 0; try go_simp))
          clear hK K
          refine flo_read _ rfl (fun K hK => ?_)
          go_simp
          first | (refine hK _ ?_) | (refine ⟨fun W hS => ?_, hK _ ?_⟩; · (have x0 : W.cell? ⟨w.heap.size + 1, 0, none⟩ = some _ := hS.cell 0; try go_simp))
          clear hK K
          refine flo_read _ rfl (fun K hK => ?_)
          go_simp
          first | (refine hK _ ?_) | (refine ⟨fun W hS => ?_, hK _ ?_⟩; · (have x0 : W.cell? ⟨w.heap.size + 1, 0, none⟩ = some _ := hS.cell 0; try go_simp))
          clear hK K
          refine flo_read _ rfl (fun K hK => ?_)
          go_simp
          first | (refine hK _ ?_) | (refine ⟨fun W hS => ?_, hK _ ?_⟩; · (have x0 : W.cell? ⟨w.heap.size + 1, 0, none⟩ = some _ := hS.cell 0; try go_simp))
          clear hK K
          refine flo_read _ rfl (fun K hK => ?_)
          go_simp
          first | (refine hK _ ?_) | (refine ⟨fun W hS => ?_, hK _ ?_⟩; · (have x0 : W.cell? ⟨w.heap.size + 1, 0, none⟩ = some _ := hS.cell 0; try go_simp))
          clear hK K
          clear c0
          refine flo_alone _ rfl ?_
          go_wp2_with fail
          go_at_call 74
          refine (owner_is n x _).mono ?_
          rintro e w6 ⟨rfl, t6⟩
          go_wp2_with fail
          refine ⟨fun W => Blk W (w.heap.size + 1) #[.int .i64 x, .int .i64 y] 25, fun W h => h, hCd.turns t6 (by simp), ?_⟩
          replace hCd := hCd.turns t6 (by simp)
          refine flo_alone _ rfl ?_
          go_wp2_with fail
          go_at_call 75
          refine (rowner_is n x _).mono ?_
          rintro e w7 ⟨rfl, t7⟩
          go_wp2_with fail
          refine ⟨fun W => Blk W (w.heap.size + 1) #[.int .i64 x, .int .i64 y] 25, fun W h => h, hCd.turns t7 (by simp), ?_⟩
          refine flo_read _ rfl (fun K hK => ?_)
          go_simp
          first | (refine hK _ ?_) | (refine ⟨fun W hS => ?_, hK _ ?_⟩; · (skip; try go_simp))
          clear hK K
          refine flo_read _ rfl (fun K hK => ?_)
          go_simp
          first | (refine hK _ ?_) | (refine ⟨fun W hS => ?_, hK _ ?_⟩; · (skip; try go_simp))
          clear hK K
          refine flo_read _ rfl (fun K hK => ?_)
          go_simp
          first | (refine hK _ ?_) | (refine ⟨fun W hS => ?_, hK _ ?_⟩; · (skip; try go_simp))
          clear hK K
          refine flo_end ?_
          go_wp2_with fail
          go_ret
          exact ⟨rfl, (T5.trans t6).trans t7⟩
      · have g2 := decide_eq_false h2
        go_enter Try.func13, Try.ntmps13
        go_wp2_with fail
        go_at_call 70
        refine (key_no p m _ h).mono ?_
        rintro e w1 ⟨rfl, t1⟩
        replace hB := hB.turns t1 (by simp)
        replace hC := hC.turns t1 (by simp)
        have b0 : w1.cell? ⟨w.heap.size, 0, none⟩ = some _ := hB.cell 0
        have b1 : w1.cell? ⟨w.heap.size, 1, none⟩ = some _ := hB.cell 1
        have c0 : w1.cell? ⟨w.heap.size + 1, 0, none⟩ = some _ := hC.cell 0
        have c1 : w1.cell? ⟨w.heap.size + 1, 1, none⟩ = some _ := hC.cell 1
        have T1 := TB.trans t1
        clear TA TB t1
        go_wp2_with fail
        go_at_call 71
        refine (next_all n x y _).mono ?_
        rintro e w2 ⟨rfl, t2⟩
        have T2 := T1.trans t2
        replace hC := hC.turns t2 (by simp)
        have c0 : w2.cell? ⟨w.heap.size + 1, 0, none⟩ = some _ := hC.cell 0
        have c1 : w2.cell? ⟨w.heap.size + 1, 1, none⟩ = some _ := hC.cell 1
        go_wp2_with fail
        go_at_call 72
        refine (rnext_all n x y _ hx).mono ?_
        rintro e w3 ⟨rfl, t3⟩
        have T3 := T2.trans t3
        replace hC := hC.turns t3 (by simp)
        obtain ⟨a, e⟩ := nextS n x y
        clear hB b0 b1 c0 c1 t2 t3 T1 T2
        have Td := T3.drew
        have hCd : Blk w3.drew (w.heap.size + 1) #[.int .i64 x, .int .i64 y] 25 := hC
        go_wp2_with fail
        refine wp_region_flo [(0, false), (1, true), (2, true), (3, true), (4, true), (5, true), (6, true), (7, true), (8, true), (9, true), (10, true), (11, true), (12, true), (13, true), (14, true), (16, true), (17, true), (18, true), (15, false), (19, false), (20, true), (21, true), (22, true)] (fun W => Blk W (w.heap.size + 1) #[.int .i64 x, .int .i64 y] 25) (by kernel_rfl) rfl (by kernel_rfl) (by intro c d v a w h; cases d <;> first | (simpa [Exit.then, Exit.inBlock, Act.put] using h) | exact h) (hCd) ?_
        clear T3 hC
        generalize w3.drew = w4 at *
        refine flo_alone _ rfl ?_
        go_wp2_with fail
        go_at_call 73
        refine (alive_any _).mono ?_
        rintro e w5 ⟨rfl, t5⟩
        go_wp2_with fail
        refine ⟨fun W => Blk W (w.heap.size + 1) #[.int .i64 x, .int .i64 y] 25, fun W h => h, hCd.turns t5 (by simp), ?_⟩
        replace hCd := hCd.turns t5 (by simp)
        have T5 := Td.trans t5
        have c0 : w5.cell? ⟨w.heap.size + 1, 0, none⟩ = some _ := hCd.cell 0
        refine flo_read _ rfl (fun K hK => ?_)
        go_simp
        first | (refine hK _ ?_) | (refine ⟨fun W hS => ?_, hK _ ?_⟩; · (have x0 : W.cell? ⟨w.heap.size + 1, 0, none⟩ = some _ := hS.cell 0; try go_simp))
        clear hK K
        refine flo_read _ rfl (fun K hK => ?_)
        go_simp
        first | (refine hK _ ?_) | (refine ⟨fun W hS => ?_, hK _ ?_⟩; · (have x0 : W.cell? ⟨w.heap.size + 1, 0, none⟩ = some _ := hS.cell 0; try go_simp))
        clear hK K
        refine flo_read _ rfl (fun K hK => ?_)
        go_simp
        first | (refine hK _ ?_) | (refine ⟨fun W hS => ?_, hK _ ?_⟩; · (have x0 : W.cell? ⟨w.heap.size + 1, 0, none⟩ = some _ := hS.cell 0; try go_simp))
        clear hK K
        refine flo_read _ rfl (fun K hK => ?_)
        go_simp
        first | (refine hK _ ?_) | (refine ⟨fun W hS => ?_, hK _ ?_⟩; · (have x0 : W.cell? ⟨w.heap.size + 1, 0, none⟩ = some _ := hS.cell 0; try go_simp))
        clear hK K
        refine flo_read _ rfl (fun K hK => ?_)
        go_simp
        first | (refine hK _ ?_) | (refine ⟨fun W hS => ?_, hK _ ?_⟩; · (have x0 : W.cell? ⟨w.heap.size + 1, 0, none⟩ = some _ := hS.cell 0; try go_simp))
        clear hK K
        refine flo_read _ rfl (fun K hK => ?_)
        go_simp
        first | (refine hK _ ?_) | (refine ⟨fun W hS => ?_, hK _ ?_⟩; · (have x0 : W.cell? ⟨w.heap.size + 1, 0, none⟩ = some _ := hS.cell 0; try go_simp))
        clear hK K
        refine flo_read _ rfl (fun K hK => ?_)
        go_simp
        first | (refine hK _ ?_) | (refine ⟨fun W hS => ?_, hK _ ?_⟩; · (have x0 : W.cell? ⟨w.heap.size + 1, 0, none⟩ = some _ := hS.cell 0; try go_simp))
        clear hK K
        refine flo_read _ rfl (fun K hK => ?_)
        go_simp
        first | (refine hK _ ?_) | (refine ⟨fun W hS => ?_, hK _ ?_⟩; · (have x0 : W.cell? ⟨w.heap.size + 1, 0, none⟩ = some _ := hS.cell 0; try go_simp))
        clear hK K
        refine flo_read _ rfl (fun K hK => ?_)
        go_simp
        first | (refine hK _ ?_) | (refine ⟨fun W hS => ?_, hK _ ?_⟩; · (have x0 : W.cell? ⟨w.heap.size + 1, 0, none⟩ = some _ := hS.cell 0; try go_simp))
        clear hK K
        refine flo_read _ rfl (fun K hK => ?_)
        go_simp
        first | (refine hK _ ?_) | (refine ⟨fun W hS => ?_, hK _ ?_⟩; · (have x0 : W.cell? ⟨w.heap.size + 1, 0, none⟩ = some _ := hS.cell 0; try go_simp))
        clear hK K
        refine flo_read _ rfl (fun K hK => ?_)
        go_simp
        first | (refine hK _ ?_) | (refine ⟨fun W hS => ?_, hK _ ?_⟩; · (have x0 : W.cell? ⟨w.heap.size + 1, 0, none⟩ = some _ := hS.cell 0; try go_simp))
        clear hK K
        refine flo_read _ rfl (fun K hK => ?_)
        go_simp
        first | (refine hK _ ?_) | (refine ⟨fun W hS => ?_, hK _ ?_⟩; · (have x0 : W.cell? ⟨w.heap.size + 1, 0, none⟩ = some _ := hS.cell 0; try go_simp))
        clear hK K
        refine flo_read _ rfl (fun K hK => ?_)
        go_simp
        first | (refine hK _ ?_) | (refine ⟨fun W hS => ?_, hK _ ?_⟩; · (have x0 : W.cell? ⟨w.heap.size + 1, 0, none⟩ = some _ := hS.cell 0; try go_simp))
        clear hK K
        refine flo_read _ rfl (fun K hK => ?_)
        go_simp
        first | (refine hK _ ?_) | (refine ⟨fun W hS => ?_, hK _ ?_⟩; · (have x0 : W.cell? ⟨w.heap.size + 1, 0, none⟩ = some _ := hS.cell 0; try go_simp))
        clear hK K
        refine flo_read _ rfl (fun K hK => ?_)
        go_simp
        first | (refine hK _ ?_) | (refine ⟨fun W hS => ?_, hK _ ?_⟩; · (have x0 : W.cell? ⟨w.heap.size + 1, 0, none⟩ = some _ := hS.cell 0; try go_simp))
        clear hK K
        refine flo_read _ rfl (fun K hK => ?_)
        go_simp
        first | (refine hK _ ?_) | (refine ⟨fun W hS => ?_, hK _ ?_⟩; · (have x0 : W.cell? ⟨w.heap.size + 1, 0, none⟩ = some _ := hS.cell 0; try go_simp))
        clear hK K
        refine flo_read _ rfl (fun K hK => ?_)
        go_simp
        first | (refine hK _ ?_) | (refine ⟨fun W hS => ?_, hK _ ?_⟩; · (have x0 : W.cell? ⟨w.heap.size + 1, 0, none⟩ = some _ := hS.cell 0; try go_simp))
        clear hK K
        clear c0
        refine flo_alone _ rfl ?_
        go_wp2_with fail
        go_at_call 74
        refine (owner_is n x _).mono ?_
        rintro e w6 ⟨rfl, t6⟩
        go_wp2_with fail
        refine ⟨fun W => Blk W (w.heap.size + 1) #[.int .i64 x, .int .i64 y] 25, fun W h => h, hCd.turns t6 (by simp), ?_⟩
        replace hCd := hCd.turns t6 (by simp)
        refine flo_alone _ rfl ?_
        go_wp2_with fail
        go_at_call 75
        refine (rowner_is n x _).mono ?_
        rintro e w7 ⟨rfl, t7⟩
        go_wp2_with fail
        refine ⟨fun W => Blk W (w.heap.size + 1) #[.int .i64 x, .int .i64 y] 25, fun W h => h, hCd.turns t7 (by simp), ?_⟩
        refine flo_read _ rfl (fun K hK => ?_)
        go_simp
        first | (refine hK _ ?_) | (refine ⟨fun W hS => ?_, hK _ ?_⟩; · (skip; try go_simp))
        clear hK K
        refine flo_read _ rfl (fun K hK => ?_)
        go_simp
        first | (refine hK _ ?_) | (refine ⟨fun W hS => ?_, hK _ ?_⟩; · (skip; try go_simp))
        clear hK K
        refine flo_read _ rfl (fun K hK => ?_)
        go_simp
        first | (refine hK _ ?_) | (refine ⟨fun W hS => ?_, hK _ ?_⟩; · (skip; try go_simp))
        clear hK K
        refine flo_end ?_
        go_wp2_with fail
        go_ret
        exact ⟨rfl, (T5.trans t6).trans t7⟩
    · have g1 := decide_eq_false h1
      go_enter Try.func13, Try.ntmps13
      go_wp2_with fail
      go_at_call 70
      refine (key_no p m _ h).mono ?_
      rintro e w1 ⟨rfl, t1⟩
      replace hB := hB.turns t1 (by simp)
      replace hC := hC.turns t1 (by simp)
      have b0 : w1.cell? ⟨w.heap.size, 0, none⟩ = some _ := hB.cell 0
      have b1 : w1.cell? ⟨w.heap.size, 1, none⟩ = some _ := hB.cell 1
      have c0 : w1.cell? ⟨w.heap.size + 1, 0, none⟩ = some _ := hC.cell 0
      have c1 : w1.cell? ⟨w.heap.size + 1, 1, none⟩ = some _ := hC.cell 1
      have T1 := TB.trans t1
      clear TA TB t1
      go_wp2_with fail
      go_at_call 71
      refine (next_all n x y _).mono ?_
      rintro e w2 ⟨rfl, t2⟩
      have T2 := T1.trans t2
      replace hC := hC.turns t2 (by simp)
      have c0 : w2.cell? ⟨w.heap.size + 1, 0, none⟩ = some _ := hC.cell 0
      have c1 : w2.cell? ⟨w.heap.size + 1, 1, none⟩ = some _ := hC.cell 1
      go_wp2_with fail
      go_at_call 72
      refine (rnext_all n x y _ hx).mono ?_
      rintro e w3 ⟨rfl, t3⟩
      have T3 := T2.trans t3
      replace hC := hC.turns t3 (by simp)
      obtain ⟨a, e⟩ := nextS n x y
      clear hB b0 b1 c0 c1 t2 t3 T1 T2
      have Td := T3.drew
      have hCd : Blk w3.drew (w.heap.size + 1) #[.int .i64 x, .int .i64 y] 25 := hC
      go_wp2_with fail
      refine wp_region_flo [(0, false), (1, true), (2, true), (3, true), (4, true), (5, true), (6, true), (7, true), (8, true), (9, true), (10, true), (11, true), (12, true), (13, true), (14, true), (16, true), (17, true), (18, true), (15, false), (19, false), (20, true), (21, true), (22, true)] (fun W => Blk W (w.heap.size + 1) #[.int .i64 x, .int .i64 y] 25) (by kernel_rfl) rfl (by kernel_rfl) (by intro c d v a w h; cases d <;> first | (simpa [Exit.then, Exit.inBlock, Act.put] using h) | exact h) (hCd) ?_
      clear T3 hC
      generalize w3.drew = w4 at *
      refine flo_alone _ rfl ?_
      go_wp2_with fail
      go_at_call 73
      refine (alive_any _).mono ?_
      rintro e w5 ⟨rfl, t5⟩
      go_wp2_with fail
      refine ⟨fun W => Blk W (w.heap.size + 1) #[.int .i64 x, .int .i64 y] 25, fun W h => h, hCd.turns t5 (by simp), ?_⟩
      replace hCd := hCd.turns t5 (by simp)
      have T5 := Td.trans t5
      have c0 : w5.cell? ⟨w.heap.size + 1, 0, none⟩ = some _ := hCd.cell 0
      refine flo_read _ rfl (fun K hK => ?_)
      go_simp
      first | (refine hK _ ?_) | (refine ⟨fun W hS => ?_, hK _ ?_⟩; · (have x0 : W.cell? ⟨w.heap.size + 1, 0, none⟩ = some _ := hS.cell 0; try go_simp))
      clear hK K
      refine flo_read _ rfl (fun K hK => ?_)
      go_simp
      first | (refine hK _ ?_) | (refine ⟨fun W hS => ?_, hK _ ?_⟩; · (have x0 : W.cell? ⟨w.heap.size + 1, 0, none⟩ = some _ := hS.cell 0; try go_simp))
      clear hK K
      refine flo_read _ rfl (fun K hK => ?_)
      go_simp
      first | (refine hK _ ?_) | (refine ⟨fun W hS => ?_, hK _ ?_⟩; · (have x0 : W.cell? ⟨w.heap.size + 1, 0, none⟩ = some _ := hS.cell 0; try go_simp))
      clear hK K
      refine flo_read _ rfl (fun K hK => ?_)
      go_simp
      first | (refine hK _ ?_) | (refine ⟨fun W hS => ?_, hK _ ?_⟩; · (have x0 : W.cell? ⟨w.heap.size + 1, 0, none⟩ = some _ := hS.cell 0; try go_simp))
      clear hK K
      refine flo_read _ rfl (fun K hK => ?_)
      go_simp
      first | (refine hK _ ?_) | (refine ⟨fun W hS => ?_, hK _ ?_⟩; · (have x0 : W.cell? ⟨w.heap.size + 1, 0, none⟩ = some _ := hS.cell 0; try go_simp))
      clear hK K
      refine flo_read _ rfl (fun K hK => ?_)
      go_simp
      first | (refine hK _ ?_) | (refine ⟨fun W hS => ?_, hK _ ?_⟩; · (have x0 : W.cell? ⟨w.heap.size + 1, 0, none⟩ = some _ := hS.cell 0; try go_simp))
      clear hK K
      refine flo_read _ rfl (fun K hK => ?_)
      go_simp
      first | (refine hK _ ?_) | (refine ⟨fun W hS => ?_, hK _ ?_⟩; · (have x0 : W.cell? ⟨w.heap.size + 1, 0, none⟩ = some _ := hS.cell 0; try go_simp))
      clear hK K
      refine flo_read _ rfl (fun K hK => ?_)
      go_simp
      first | (refine hK _ ?_) | (refine ⟨fun W hS => ?_, hK _ ?_⟩; · (have x0 : W.cell? ⟨w.heap.size + 1, 0, none⟩ = some _ := hS.cell 0; try go_simp))
      clear hK K
      refine flo_read _ rfl (fun K hK => ?_)
      go_simp
      first | (refine hK _ ?_) | (refine ⟨fun W hS => ?_, hK _ ?_⟩; · (have x0 : W.cell? ⟨w.heap.size + 1, 0, none⟩ = some _ := hS.cell 0; try go_simp))
      clear hK K
      refine flo_read _ rfl (fun K hK => ?_)
      go_simp
      first | (refine hK _ ?_) | (refine ⟨fun W hS => ?_, hK _ ?_⟩; · (have x0 : W.cell? ⟨w.heap.size + 1, 0, none⟩ = some _ := hS.cell 0; try go_simp))
      clear hK K
      refine flo_read _ rfl (fun K hK => ?_)
      go_simp
      first | (refine hK _ ?_) | (refine ⟨fun W hS => ?_, hK _ ?_⟩; · (have x0 : W.cell? ⟨w.heap.size + 1, 0, none⟩ = some _ := hS.cell 0; try go_simp))
      clear hK K
      refine flo_read _ rfl (fun K hK => ?_)
      go_simp
      first | (refine hK _ ?_) | (refine ⟨fun W hS => ?_, hK _ ?_⟩; · (have x0 : W.cell? ⟨w.heap.size + 1, 0, none⟩ = some _ := hS.cell 0; try go_simp))
      clear hK K
      refine flo_read _ rfl (fun K hK => ?_)
      go_simp
      first | (refine hK _ ?_) | (refine ⟨fun W hS => ?_, hK _ ?_⟩; · (have x0 : W.cell? ⟨w.heap.size + 1, 0, none⟩ = some _ := hS.cell 0; try go_simp))
      clear hK K
      refine flo_read _ rfl (fun K hK => ?_)
      go_simp
      first | (refine hK _ ?_) | (refine ⟨fun W hS => ?_, hK _ ?_⟩; · (have x0 : W.cell? ⟨w.heap.size + 1, 0, none⟩ = some _ := hS.cell 0; try go_simp))
      clear hK K
      refine flo_read _ rfl (fun K hK => ?_)
      go_simp
      first | (refine hK _ ?_) | (refine ⟨fun W hS => ?_, hK _ ?_⟩; · (have x0 : W.cell? ⟨w.heap.size + 1, 0, none⟩ = some _ := hS.cell 0; try go_simp))
      clear hK K
      refine flo_read _ rfl (fun K hK => ?_)
      go_simp
      first | (refine hK _ ?_) | (refine ⟨fun W hS => ?_, hK _ ?_⟩; · (have x0 : W.cell? ⟨w.heap.size + 1, 0, none⟩ = some _ := hS.cell 0; try go_simp))
      clear hK K
      refine flo_read _ rfl (fun K hK => ?_)
      go_simp
      first | (refine hK _ ?_) | (refine ⟨fun W hS => ?_, hK _ ?_⟩; · (have x0 : W.cell? ⟨w.heap.size + 1, 0, none⟩ = some _ := hS.cell 0; try go_simp))
      clear hK K
      clear c0
      refine flo_alone _ rfl ?_
      go_wp2_with fail
      go_at_call 74
      refine (owner_is n x _).mono ?_
      rintro e w6 ⟨rfl, t6⟩
      go_wp2_with fail
      refine ⟨fun W => Blk W (w.heap.size + 1) #[.int .i64 x, .int .i64 y] 25, fun W h => h, hCd.turns t6 (by simp), ?_⟩
      replace hCd := hCd.turns t6 (by simp)
      refine flo_alone _ rfl ?_
      go_wp2_with fail
      go_at_call 75
      refine (rowner_is n x _).mono ?_
      rintro e w7 ⟨rfl, t7⟩
      go_wp2_with fail
      refine ⟨fun W => Blk W (w.heap.size + 1) #[.int .i64 x, .int .i64 y] 25, fun W h => h, hCd.turns t7 (by simp), ?_⟩
      refine flo_read _ rfl (fun K hK => ?_)
      go_simp
      first | (refine hK _ ?_) | (refine ⟨fun W hS => ?_, hK _ ?_⟩; · (skip; try go_simp))
      clear hK K
      refine flo_read _ rfl (fun K hK => ?_)
      go_simp
      first | (refine hK _ ?_) | (refine ⟨fun W hS => ?_, hK _ ?_⟩; · (skip; try go_simp))
      clear hK K
      refine flo_read _ rfl (fun K hK => ?_)
      go_simp
      first | (refine hK _ ?_) | (refine ⟨fun W hS => ?_, hK _ ?_⟩; · (skip; try go_simp))
      clear hK K
      refine flo_end ?_
      go_wp2_with fail
      go_ret
      exact ⟨rfl, (T5.trans t6).trans t7⟩
theorem flatTwo : Nest Try.prog 25 [kInt .i64, kInt .i64] := nArray (n := 2) Try.underlying25 (nInt Try.underlying3 (by kernel_rfl)) (by kernel_rfl)
theorem two_of {W : World} {cs : List Value} (h : Kds W [kInt .i64, kInt .i64] cs) : ∃ x y : Int, cs = [.int .i64 x, .int .i64 y] ∧ -9223372036854775808 ≤ x ∧ x ≤ 9223372036854775807 := by
  obtain ⟨v0, r0, rfl, ⟨x, rfl, w0⟩, k0⟩ := h.out
  obtain ⟨v1, r1, rfl, ⟨y, rfl, w1⟩, k1⟩ := k0.out
  obtain rfl := k1.none
  exact ⟨x, y, rfl, (int_bd w0).1, (int_bd w0).2⟩
theorem opened {H : Type} (enc : TypeId × Value → H) (W : World) {base : Nat} {v0 v1 v2 : Value} {d0 d1 d2 : DataW H} {p0 p1 p2 : List MemPlace} (h0 : DataW.Trod enc Try.prog W 0 (fun _ => true) true 25 v0 d0 p0)
    (h1 : DataW.Trod enc Try.prog W 0 (fun _ => true) true 3 v1 d1 p1) (h2 : DataW.Trod enc Try.prog W 0 (fun _ => true) true 25 v2 d2 p2)
    (o0 : Value.okWide Try.prog W .any base 25 v0) (o1 : Value.okWide Try.prog W .any base 3 v1) (o2 : Value.okWide Try.prog W .any base 25 v2) :
    Calls Try.prog 13 #[v0, v1, v2] W fun e w' => e = .returned (.bool true) ∧ Below W.heap.size W w' := by
  obtain ⟨cs, rfl, k0⟩ := arg_array Try.underlying25 flatTwo h0 o0
  obtain ⟨n, rfl, _⟩ := arg_int Try.underlying3 (by kernel_rfl) h1 o1
  obtain ⟨ds, rfl, k2⟩ := arg_array Try.underlying25 flatTwo h2 o2
  obtain ⟨p, m, rfl, _⟩ := two_of k0
  obtain ⟨x, y, rfl, hx, _⟩ := two_of k2
  exact (numbers_is p m n x y W hx).mono fun e w' ⟨he, t⟩ => ⟨he, t.isBelow⟩
end Go.Proofs.Ytondopjpkedojaa.Cl
