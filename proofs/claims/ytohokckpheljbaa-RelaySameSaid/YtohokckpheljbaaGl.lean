/- annonalaw15's alive. -/
import Derived.Test.YtohokckpheljbaaGk
set_option linter.unusedVariables false
set_option linter.unusedSimpArgs false
set_option maxRecDepth 100000
namespace Go.Proofs.Ytohokckpheljbaa.Gl
open Go.RowKit Go.MapKept Go.Shelf Hm Hs Hf Hx Hy Hv Fa Fb Ff Fg Fi Fj Fq Fr_ Ga Gb Gc Gd Ge Gf Gg Gh Gi Gj Gk
def Fl : Fr := ⟨0, 1, 2, 0, 0, 0, ⟨7, 3, [4], 0, []⟩⟩
def Fx (h : Int) : Fr := ⟨1, 2, 1, 7, h, 0, Tok.zero⟩
theorem fitsZ : fitsT Tok.zero := by unfold fitsT Tok.zero; simp
theorem fitsFl : fitsT Fl.tok := by unfold fitsT Fl; simp
theorem q1 : holdR none Fl = (0, some Fl) := by decide +kernel
theorem q2 : holdR (some Fl) Fl = (5, some Fl) := by decide +kernel
theorem q3 : ackO (some Fl) (Fx 2) = false := by decide +kernel
theorem q4 : ackO (some Fl) (Fx 3) = true := by decide +kernel
set_option maxHeartbeats 4000000 in
theorem alive_is (w : World) : Calls Try.prog 8 #[] w fun e w' => e = .returned (.bool true) ∧ Turns [] w w' := by
  have hR : IsRelay (w.heap.size + 1) (w.alloc (.cells #[.pointer none, .int .i64 0] 74)) w.heap.size 0 none := .none (by omega) (Blk.new w _ _)
  have T1 := (Turns.refl [] w).alloc (.cells #[.pointer none, .int .i64 0] 74)
  have hs1 : w.heap.size + 1 = (w.alloc (.cells #[.pointer none, .int .i64 0] 74)).heap.size := by rw [World.size_alloc]
  obtain ⟨X, hX⟩ : ∃ X : Ending → World → Prop, X = fun e w' => e = .returned (.bool true) ∧ Turns [] w w' := ⟨_, rfl⟩
  rw [← hX]
  have hXh : Hid (∀ w', Turns [w.heap.size] (w.alloc (.cells #[.pointer none, .int .i64 0] 74)) w' → X (.returned (.bool true)) w') := Lib.hid (fun w' h => by rw [hX]; exact ⟨rfl, T1.then h (by simp)⟩)
  have New := Lib.hid (new_is w)
  clear T1 hX
  generalize hw1 : w.alloc (.cells #[.pointer none, .int .i64 0] 74) = w1 at *
  generalize hb : w.heap.size = b at *
  go_enter Try.func8, Try.ntmps8
  go_wp2_with fail
  go_at_call 9
  refine Calls.mono (New.out) ?_
  rintro e w1 ⟨rfl, rfl⟩
  try rw [hw1]
  try rw [hb]
  clear New hw1 hb
  have T2 := ((Turns.refl [b] w1).alloc (.cells #[.int .i64 4] 3)).alloc (.cells #[.int .i64 0, .int .i64 1, .int .i64 2, .int .i64 0, .int .i64 0, .int .u64 0, .int .i64 7, .int .i64 3, .slice (some ⟨w1.heap.size, 0, none⟩) 1 1, .int .i64 0, .slice none 0 0] 41)
  have t2 := ((Turns.refl [] w1).alloc (.cells #[.int .i64 4] 3)).alloc (.cells #[.int .i64 0, .int .i64 1, .int .i64 2, .int .i64 0, .int .i64 0, .int .u64 0, .int .i64 7, .int .i64 3, .slice (some ⟨w1.heap.size, 0, none⟩) 1 1, .int .i64 0, .slice none 0 0] 41)
  have B2 := Blk.new (w1.alloc (.cells #[.int .i64 4] 3)) #[.int .i64 0, .int .i64 1, .int .i64 2, .int .i64 0, .int .i64 0, .int .u64 0, .int .i64 7, .int .i64 3, .slice (some ⟨w1.heap.size, 0, none⟩) 1 1, .int .i64 0, .slice none 0 0] 41
  have S2 := (Blk.new w1 #[.int .i64 4] 3).alloc (.cells #[.int .i64 0, .int .i64 1, .int .i64 2, .int .i64 0, .int .i64 0, .int .u64 0, .int .i64 7, .int .i64 3, .slice (some ⟨w1.heap.size, 0, none⟩) 1 1, .int .i64 0, .slice none 0 0] 41)
  rw [World.size_alloc] at B2
  have h2 := hR.turns t2
  have tk : TokFrom (b + 1) _ Fl.tok (.slice (some ⟨w1.heap.size, 0, none⟩) 1 1) (.slice none 0 0) :=
    ⟨fun k hk => by simp [Value.ownBlock] at hk; omega, RdS.of_cells (rows := ins [4]) S2 rfl (by simp [ins]) 1 (by simp [ins]) (by decide), ⟨fun k hk => by simp [Value.ownBlock] at hk, [], RdS.nil 4 _, RowsIs.nil _, by simp⟩⟩
  have hsz2 := t2.size
  go_upto_region 3 with fail
  generalize (w1.alloc (.cells #[.int .i64 4] 3)).alloc (.cells #[.int .i64 0, .int .i64 1, .int .i64 2, .int .i64 0, .int .i64 0, .int .u64 0, .int .i64 7, .int .i64 3, .slice (some ⟨w1.heap.size, 0, none⟩) 1 1, .int .i64 0, .slice none 0 0] 41) = w2 at *
  have C1 := Lib.hid (hold_is (b + 1) w2 b 0 none Fl _ _ h2 (by omega) tk.tok fitsFl _ _ q1)
  have tkh := Lib.hid tk
  unfold frv Fl at C1
  have x0 : World.cell? (w2) ⟨w1.heap.size + 1, 0, none⟩ = some _ := (B2).cell 0
  have x1 : World.cell? (w2) ⟨w1.heap.size + 1, 1, none⟩ = some _ := (B2).cell 1
  have x2 : World.cell? (w2) ⟨w1.heap.size + 1, 2, none⟩ = some _ := (B2).cell 2
  have x3 : World.cell? (w2) ⟨w1.heap.size + 1, 3, none⟩ = some _ := (B2).cell 3
  have x4 : World.cell? (w2) ⟨w1.heap.size + 1, 4, none⟩ = some _ := (B2).cell 4
  have x5 : World.cell? (w2) ⟨w1.heap.size + 1, 5, none⟩ = some _ := (B2).cell 5
  have x6 : World.cell? (w2) ⟨w1.heap.size + 1, 6, none⟩ = some _ := (B2).cell 6
  have x7 : World.cell? (w2) ⟨w1.heap.size + 1, 7, none⟩ = some _ := (B2).cell 7
  have x8 : World.cell? (w2) ⟨w1.heap.size + 1, 8, none⟩ = some _ := (B2).cell 8
  have x9 : World.cell? (w2) ⟨w1.heap.size + 1, 9, none⟩ = some _ := (B2).cell 9
  have x10 : World.cell? (w2) ⟨w1.heap.size + 1, 10, none⟩ = some _ := (B2).cell 10
  clear hR t2 S2 h2 tk
  go_wp2_with fail
  go_at_call 13
  refine Calls.mono (C1.out) ?_
  rintro e w3 ⟨rfl, h3, t3⟩
  have T3 := T2.trans t3
  have tk3 := tkh.out.far t3 (by simp)
  have tkh3 := Lib.hid tk3
  have B3 := B2.turns t3 (by simp; omega)
  have hsz3 := t3.size
  change IsRelay (b + 1) w3 b 0 (some Fl) at h3
  have C2 := Lib.hid (hold_is (b + 1) w3 b 0 (some Fl) Fl _ _ h3 (by omega) tk3.tok fitsFl _ _ q2)
  unfold frv Fl at C2
  clear x0 x1 x2 x3 x4 x5 x6 x7 x8 x9 x10 C1 h3 T2 B2 tk3 t3 tkh
  have x0 : World.cell? (w3) ⟨w1.heap.size + 1, 0, none⟩ = some _ := (B3).cell 0
  have x1 : World.cell? (w3) ⟨w1.heap.size + 1, 1, none⟩ = some _ := (B3).cell 1
  have x2 : World.cell? (w3) ⟨w1.heap.size + 1, 2, none⟩ = some _ := (B3).cell 2
  have x3 : World.cell? (w3) ⟨w1.heap.size + 1, 3, none⟩ = some _ := (B3).cell 3
  have x4 : World.cell? (w3) ⟨w1.heap.size + 1, 4, none⟩ = some _ := (B3).cell 4
  have x5 : World.cell? (w3) ⟨w1.heap.size + 1, 5, none⟩ = some _ := (B3).cell 5
  have x6 : World.cell? (w3) ⟨w1.heap.size + 1, 6, none⟩ = some _ := (B3).cell 6
  have x7 : World.cell? (w3) ⟨w1.heap.size + 1, 7, none⟩ = some _ := (B3).cell 7
  have x8 : World.cell? (w3) ⟨w1.heap.size + 1, 8, none⟩ = some _ := (B3).cell 8
  have x9 : World.cell? (w3) ⟨w1.heap.size + 1, 9, none⟩ = some _ := (B3).cell 9
  have x10 : World.cell? (w3) ⟨w1.heap.size + 1, 10, none⟩ = some _ := (B3).cell 10
  go_wp2_with fail
  go_at_call 13
  refine Calls.mono (C2.out) ?_
  rintro e w4 ⟨rfl, h4, t4⟩
  have T4 := T3.trans t4
  change IsRelay (b + 1) w4 b 0 (some Fl) at h4
  have C3 := Lib.hid (held_u (b + 1) w4 b 0 (some Fl) h4 (by omega))
  clear x0 x1 x2 x3 x4 x5 x6 x7 x8 x9 x10 C2 h4 T3 B3 t4 tkh3
  go_wp2_with fail
  go_at_call 12
  refine Calls.mono (C3.out) ?_
  rintro e w5 ⟨sv, rv, rfl, htk, h5, t5⟩
  obtain ⟨A1, c1, A3, c3, rfl, rfl⟩ := frc_form (g := Fl) htk.tok
  have T5 := T4.trans t5
  have T5b := T5.alloc (.cells (frc Fl (.slice A1 1 c1) (.slice A3 0 c3)) 41)
  have t5b := (Turns.refl [] w5).alloc (.cells (frc Fl (.slice A1 1 c1) (.slice A3 0 c3)) 41)
  have B5 := Blk.new w5 (frc Fl (.slice A1 1 c1) (.slice A3 0 c3)) 41
  have h5b := h5.turns t5b
  have hbs := h5.lt
  clear C3 T4 t5 T5 htk h5 t5b
  unfold heldF frv Fl
  unfold frc Fl at T5b B5 h5b
  simp only [Option.getD_some, Option.isSome_some]
  go_upto_region 6 with fail
  generalize w5.alloc (.cells #[.int .i64 0, .int .i64 1, .int .i64 2, .int .i64 0, .int .i64 0, .int .u64 0, .int .i64 7, .int .i64 3, .slice A1 1 c1, .int .i64 0, .slice A3 0 c3] 41) = w6 at *
  generalize w5.heap.size = xb at *
  have C6 := Lib.hid (ack_u (b + 1) w6 b _ (some Fl) (Fx 2) _ _ h5b (tokR_zero _) (by decide))
  rw [q3] at C6
  unfold frv Fx Tok.zero at C6
  clear h5b
  go_wp2_with fail
  go_at_call 14
  refine Calls.mono (C6.out) ?_
  rintro e w7 ⟨rfl, h7, t7⟩
  have T7 := T5b.trans t7
  have B7 := B5.turns t7 (by simp; omega)
  change IsRelay (b + 1) w7 b _ (some Fl) at h7
  have C7 := Lib.hid (ack_u (b + 1) w7 b _ (some Fl) (Fx 3) _ _ h7 (tokR_zero _) (by decide))
  rw [q4] at C7
  unfold frv Fx Tok.zero at C7
  clear h7 C6 T5b t7 B5
  go_wp2_with fail
  go_at_call 14
  refine Calls.mono (C7.out) ?_
  rintro e w8 ⟨rfl, h8, t8⟩
  have T8 := T7.trans t8
  have B8 := B7.turns t8 (by simp; omega)
  change IsRelay (b + 1) w8 b 1 none at h8
  have C8 := Lib.hid (held_u (b + 1) w8 b 1 none h8 (by omega))
  clear h8 C7 T7 t8 B7
  go_wp2_with fail
  go_at_call 12
  refine Calls.mono (C8.out) ?_
  rintro e w9 ⟨sv, rv, rfl, htk, h9, t9⟩
  obtain ⟨A5, c5, A6, c6, rfl, rfl⟩ := frc_form (g := heldF none) htk.tok
  have T9 := T8.trans t9
  have B9 := B8.turns t9 (by simp; omega)
  change IsRelay (b + 1) w9 b 1 none at h9
  have T10 := T9.alloc (.cells (frc Fr.zero (.slice A5 0 c5) (.slice A6 0 c6)) 41)
  have t10 := (Turns.refl [] w9).alloc (.cells (frc Fr.zero (.slice A5 0 c5) (.slice A6 0 c6)) 41)
  have h10 := h9.turns t10
  have B10 := B9.turns t10 (by simp)
  clear C8 T8 t9 B8 htk h9 T9 t10 B9
  unfold heldF frv Fr.zero Tok.zero
  unfold frc Fr.zero Tok.zero at T10 h10 B10
  simp only [Option.getD_none, Option.isSome_none]
  go_upto_region 9 with fail
  generalize w9.alloc (.cells #[.int .i64 0, .int .i64 0, .int .i64 0, .int .i64 0, .int .i64 0, .int .u64 0, .int .i64 0, .int .i64 0, .slice A5 0 c5, .int .i64 0, .slice A6 0 c6] 41) = w10 at *
  have C10 := Lib.hid (sent_is (b + 1) w10 b 1 none h10)
  have x7 : World.cell? (w10) ⟨xb, 7, none⟩ = some _ := (B10).cell 7
  clear h10 B10
  go_wp2_with fail
  go_at_call 11
  refine Calls.mono (C10.out) ?_
  rintro e w11 ⟨rfl, t11⟩
  have hX := hXh.out _ (T10.trans (t11.mono (by simp)))
  go_wp2_with fail
  exact hX
end Go.Proofs.Ytohokckpheljbaa.Gl
