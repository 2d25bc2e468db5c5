/- The walk of the law ClockSkew. -/
import Derived.Test.YtondopjpkedojaaClk
import Derived.Test.YtondopjpkedojaaHo
import Derived.Lib.Hide
set_option linter.unusedVariables false
set_option linter.unusedSimpArgs false
set_option maxRecDepth 100000
namespace Go.Proofs.Ytondopjpkedojaa.Sk
open Go.RowKit Hm Ho Sm Sat Clk Go.ChangeShapes Go.WideShapes
theorem near (t d s : Int) (ht : 0 ≤ t ∧ t ≤ 4611686018427387904) (hs : 0 ≤ s ∧ s ≤ 4611686018427387904) :
    0 ≤ rdg t d s ∧ rdg t d s ≤ 4611686018427387904 ∧ rdg t d s - t ≤ s ∧ t - rdg t d s ≤ s := by
  have e1 : fit t = t := fit_id ht.1 ht.2
  have e2 : fit s = s := fit_id hs.1 hs.2
  unfold rdg
  rw [e1, e2]
  have h3 : -s ≤ min (max d (-s)) s ∧ min (max d (-s)) s ≤ s := by omega
  generalize min (max d (-s)) s = x at *
  rcases Int.lt_or_le (t + x) 9223372036854775807 with h | h
  · rw [wr (by omega) (by omega)]; unfold fit; omega
  · rcases Int.lt_or_le (t + x) 9223372036854775808 with h' | h'
    · rw [wr (by omega) (by omega)]; unfold fit; omega
    have : t + x = 9223372036854775808 := by omega
    rw [this]
    have e : fit (wrap64 9223372036854775808) = 0 := by unfold wrap64 fit; rfl
    rw [e]; omega
theorem late (t u d d2 s span : Int) (ht : 0 ≤ t ∧ t ≤ 4611686018427387904) (hu : 0 ≤ u ∧ u ≤ 4611686018427387904) (hs : 0 ≤ s ∧ s ≤ 4611686018427387904)
    (h : (sub (two (rdg t d s) span) (rdg u d2 s) == 0) = true) : sum [u, s, s] ≥ two t span := by
  have h1 := near t d s ht hs
  have h2 := near u d2 s hu hs
  have e : sum [u, s, s] = two (two (two 0 u) s) s := rfl
  rw [e]
  simp only [beq_iff_eq] at h
  generalize rdg t d s = a at *
  generalize rdg u d2 s = b at *
  unfold sub two fit at h
  unfold two fit
  omega
set_option maxHeartbeats 8000000 in
theorem skew_is (x0 x1 y0 y1 z0 z1 : Int) (w : World) : Calls Try.prog 4 #[.agg #[.int .i64 x0, .int .i64 x1], .agg #[.int .i64 y0, .int .i64 y1], .agg #[.int .i64 z0, .int .i64 z1]] w
    fun e w' => e = .returned (.bool true) ∧ Turns [] w w' := by
  have ht := fit_bd x0; have hu := fit_bd x1; have hs := fit_bd z0; have hp := fit_bd z1
  obtain ⟨a1, a2, a3, a4⟩ := near (fit x0) y0 (fit z0) ht hs
  obtain ⟨b1, b2, b3, b4⟩ := near (fit x1) y1 (fit z0) hu hs
  have hL := late (fit x0) (fit x1) y0 y1 (fit z0) (fit z1) ht hu hs
  have hr : ∀ w, IRow _ _ _ := fun w => IRow.of_blk (xs := [fit x1, fit z0, fit z0]) (Blk.new w #[.int .i64 (fit x1), .int .i64 (fit z0), .int .i64 (fit z0)] 3) rfl (by simp)
  have rA := read_is (fit x0) y0 (fit z0)
  have rB := read_is (fit x1) y1 (fit z0)
  have q1 : decide (rdg (fit x0) y0 (fit z0) - fit x0 > fit z0) = false := by simp; omega
  have q2 : decide (fit x0 - rdg (fit x0) y0 (fit z0) > fit z0) = false := by simp; omega
  have q3 : decide (rdg (fit x1) y1 (fit z0) - fit x1 > fit z0) = false := by simp; omega
  have q4 : decide (fit x1 - rdg (fit x1) y1 (fit z0) > fit z0) = false := by simp; omega
  have q5 : decide (rdg (fit x0) y0 (fit z0) < 0) = false := by simp; omega
  have q6 : decide (rdg (fit x1) y1 (fit z0) < 0) = false := by simp; omega
  generalize rdg (fit x0) y0 (fit z0) = a at *
  generalize rdg (fit x1) y1 (fit z0) = b at *
  obtain ⟨p1, hp1⟩ : ∃ p, decide (a > fit x0) = p := ⟨_, rfl⟩
  obtain ⟨p2, hp2⟩ : ∃ p, decide (a < fit x0) = p := ⟨_, rfl⟩
  obtain ⟨p3, hp3⟩ : ∃ p, decide (b > fit x1) = p := ⟨_, rfl⟩
  obtain ⟨p4, hp4⟩ : ∃ p, decide (b < fit x1) = p := ⟨_, rfl⟩
  obtain ⟨p5, hp5⟩ : ∃ p, (sub (two a (fit z1)) b == 0) = p := ⟨_, rfl⟩
  have rP : ∀ w, _ := fun w => hp5 ▸ passed_is a b (fit z1) w
  have hL' : p5 = true → decide (sum [fit x1, fit z0, fit z0] ≥ two (fit x0) (fit z1)) = true := fun h => decide_eq_true (hL (by rw [hp5]; exact h))
  have HL := Lib.hid hL'
  clear hL hp5 hL'
  cases p1 <;> cases p2 <;> cases p3 <;> cases p4
  all_goals first | (exfalso; simp at hp1 hp2 hp3 hp4; omega) | skip
  all_goals
    go_enter Try.func4, Try.ntmps4
    go_wp2_with fail
    go_at_call 22
    refine (rfit_is x0 _).mono ?_
    rintro e w1 ⟨rfl, t1⟩
    have B3 := ((Blk.new w #[.int .i64 x0, .int .i64 x1] 25).alloc (.cells #[.int .i64 y0, .int .i64 y1] 25)).alloc (.cells #[.int .i64 z0, .int .i64 z1] 25)
    have B4 := (Blk.new (w.alloc (.cells #[.int .i64 x0, .int .i64 x1] 25)) #[.int .i64 y0, .int .i64 y1] 25).alloc (.cells #[.int .i64 z0, .int .i64 z1] 25)
    have B5 := Blk.new ((w.alloc (.cells #[.int .i64 x0, .int .i64 x1] 25)).alloc (.cells #[.int .i64 y0, .int .i64 y1] 25)) #[.int .i64 z0, .int .i64 z1] 25
    simp only [World.size_alloc] at B4 B5
    have T0 := (((Turns.refl [] w).alloc (.cells #[.int .i64 x0, .int .i64 x1] 25)).alloc (.cells #[.int .i64 y0, .int .i64 y1] 25)).alloc (.cells #[.int .i64 z0, .int .i64 z1] 25)
    have T1 := T0.trans t1
    replace B3 := B3.turns t1 (by simp)
    replace B4 := B4.turns t1 (by simp)
    replace B5 := B5.turns t1 (by simp)
    clear t1 T0
    have k1 : w1.cell? ⟨w.heap.size, 1, none⟩ = some _ := B3.cell 1
    go_wp2_with fail
    go_at_call 22
    refine (rfit_is x1 _).mono ?_
    rintro e w2 ⟨rfl, t2⟩
    have T2 := T1.trans t2
    replace B4 := B4.turns t2 (by simp)
    replace B5 := B5.turns t2 (by simp)
    clear t2 T1 k1
    have k1 : w2.cell? ⟨w.heap.size + 1 + 1, 0, none⟩ = some _ := B5.cell 0
    go_wp2_with fail
    go_at_call 22
    refine (rfit_is z0 _).mono ?_
    rintro e w3 ⟨rfl, t3⟩
    have T3 := T2.trans t3
    replace B4 := B4.turns t3 (by simp)
    replace B5 := B5.turns t3 (by simp)
    clear t3 T2 k1
    have k1 : w3.cell? ⟨w.heap.size + 1 + 1, 1, none⟩ = some _ := B5.cell 1
    go_wp2_with fail
    go_at_call 22
    refine (rfit_is z1 _).mono ?_
    rintro e w4 ⟨rfl, t4⟩
    have T4 := T3.trans t4
    replace B4 := B4.turns t4 (by simp)
    clear t4 T3 k1
    have k1 : w4.cell? ⟨w.heap.size + 1, 0, none⟩ = some _ := B4.cell 0
    go_wp2_with fail
    go_at_call 16
    refine (rA _).mono ?_
    rintro e w5 ⟨rfl, t5⟩
    have T5 := T4.trans t5
    replace B4 := B4.turns t5 (by simp)
    clear t5 T4 k1
    have k1 : w5.cell? ⟨w.heap.size + 1, 1, none⟩ = some _ := B4.cell 1
    go_wp2_with fail
    go_at_call 16
    refine (rB _).mono ?_
    rintro e w6 ⟨rfl, t6⟩
    have T6 := T5.trans t6
    clear t6 T5 k1
    go_wp2_with fail
    go_at_call 18
    refine (rP _).mono ?_
    rintro e w7 ⟨rfl, t7⟩
    have T7 := T6.trans t7
    clear t7 T6
    go_wp2_with fail
    go_at_call 23
    refine (two_is _ _ _).mono ?_
    rintro e w8 ⟨rfl, t8⟩
    have T8 := T7.trans t8
    clear t8 T7
    go_wp2_with fail
    go_at_call 24
    refine (radd_is _ [fit x1, fit z0, fit z0] 3 _ (hr _)).mono ?_
    rintro e w9 ⟨rfl, t9⟩
    have T9 := (T8.alloc _).trans t9
    clear t9 T8
    go_wp2_with fail
    go_at_call 15
    refine (alive_is _).mono ?_
    rintro e w10 ⟨rfl, t10⟩
    have T10 := T9.trans t10
    cases p5
    · go_wp2_with fail
      go_ret
      exact ⟨rfl, T10⟩
    · have hh := HL.out rfl
      go_wp2_with fail
      go_ret
      exact ⟨rfl, T10⟩
theorem flatTwo : Flat Try.prog 25 [.int .i64, .int .i64] := flat_array (n := 2) Try.underlying25 (flat_int Try.underlying3 (by kernel_rfl)) (by kernel_rfl)
theorem pair_of {H : Type} (enc : TypeId × Value → H) (W : World) {base : Nat} {v : Value} {d : DataW H} {p : List MemPlace} (h : DataW.Trod enc Try.prog W 0 (fun _ => true) true 25 v d p) (o : Value.okWide Try.prog W .any base 25 v) :
    ∃ x y : Int, v = .agg #[.int .i64 x, .int .i64 y] := by
  obtain ⟨cs, rfl, hsz⟩ := okWide_array Try.underlying25 o
  obtain ⟨f, g⟩ := h
  obtain ⟨l⟩ := cs
  have k : Oks _ l := flatTwo.2 _ _ _ _ _ _ _ _ g
  obtain ⟨x, _, rfl, _, k⟩ := k.int
  obtain ⟨y, _, rfl, _, k⟩ := k.int
  obtain rfl := k.none
  exact ⟨x, y, rfl⟩
theorem opened {H : Type} (enc : TypeId × Value → H) (W : World) {base : Nat} {v0 v1 v2 : Value} {d0 d1 d2 : DataW H} {p0 p1 p2 : List MemPlace} (h0 : DataW.Trod enc Try.prog W 0 (fun _ => true) true 25 v0 d0 p0)
    (h1 : DataW.Trod enc Try.prog W 0 (fun _ => true) true 25 v1 d1 p1) (h2 : DataW.Trod enc Try.prog W 0 (fun _ => true) true 25 v2 d2 p2)
    (o0 : Value.okWide Try.prog W .any base 25 v0) (o1 : Value.okWide Try.prog W .any base 25 v1) (o2 : Value.okWide Try.prog W .any base 25 v2) :
    Calls Try.prog 4 #[v0, v1, v2] W fun e w' => e = .returned (.bool true) ∧ Below W.heap.size W w' := by
  obtain ⟨x0, x1, rfl⟩ := pair_of enc W h0 o0
  obtain ⟨y0, y1, rfl⟩ := pair_of enc W h1 o1
  obtain ⟨z0, z1, rfl⟩ := pair_of enc W h2 o2
  exact (skew_is x0 x1 y0 y1 z0 z1 W).mono fun e w' ⟨he, t⟩ => ⟨he, t.isBelow⟩
end Go.Proofs.Ytondopjpkedojaa.Sk
