/- The law ConfOther. -/
import Derived.Test.YtondopjpkedojaaCl
set_option linter.unusedVariables false
set_option linter.unusedSimpArgs false
set_option maxRecDepth 100000
namespace Go.Proofs.Ytondopjpkedojaa.Co
open Go.RowKit Go.MapKept Hm Hs Hr Hb Hf Hv Hn Ho Ha Cf Cn Sm Sat Mu Ca Cl Go.ChangeShapes Go.WideShapes
/-- what a ballot of a node that there is may be -/
theorem nextS_law {n a i : Int} (h : (1 ≤ n ∧ n ≤ 64) ∧ 0 ≤ i ∧ i < n) : (nextS n a i = (0, 6)) ∨ (∃ b, nextS n a i = (b, 0) ∧ a < b ∧ n ≤ b ∧ b ≤ 1099511627776 ∧ b % n = i) := by
  unfold nextS
  rw [if_pos h]
  by_cases ha : a ≥ 1099511627776
  · rw [if_pos ha]; exact .inl rfl
  · rw [if_neg ha]
    unfold nextR
    obtain ⟨j, hj, h1, h2, h3⟩ := nextT_form (above := a) (show mayNext n i from h)
    have h4 := nextT_mod (above := a) (show mayNext n i from h)
    by_cases ho : nextT n a i > 1099511627776
    · rw [if_pos ho]; exact .inl rfl
    · rw [if_neg ho]; exact .inr ⟨_, rfl, by omega, by omega, by omega, h4⟩
set_option maxHeartbeats 8000000 in
theorem other_is (s a0 a1 y z : Int) (w : World) (hs : 0 ≤ s ∧ s ≤ 255) (hy : 0 ≤ y ∧ y ≤ 255) (hz : 0 ≤ z ∧ z ≤ 255) :
    Calls Try.prog 14 #[.int .u8 s, .agg #[.int .i64 a0, .int .i64 a1], .agg #[.int .u8 y, .int .u8 z]] w fun e w' => e = .returned (.bool true) ∧ Turns [] w w' := by
  have TA := (Turns.refl [] w).alloc (.cells #[.int .i64 a0, .int .i64 a1] 25)
  have TB := TA.alloc (.cells #[.int .u8 y, .int .u8 z] 99)
  have hB := (Blk.new w #[.int .i64 a0, .int .i64 a1] 25).alloc (.cells #[.int .u8 y, .int .u8 z] 99)
  have hC := Blk.new (w.alloc (.cells #[.int .i64 a0, .int .i64 a1] 25)) #[.int .u8 y, .int .u8 z] 99
  simp only [World.size_alloc] at hC
  have hn : 1 ≤ s % 64 + 1 ∧ s % 64 + 1 ≤ 64 := by omega
  have hN := nodes_yes hn
  have hi := Int.emod_nonneg y (by omega : s % 64 + 1 ≠ 0)
  have hi2 := Int.emod_lt_of_pos y (by omega : 0 < s % 64 + 1)
  have hk := Int.emod_nonneg z (by omega : s % 64 + 1 ≠ 0)
  have hk2 := Int.emod_lt_of_pos z (by omega : 0 < s % 64 + 1)
  have hn0 : (s % 64 + 1 == 0) = false := by simp; omega
  have lawA := nextS_law (a := a0) ⟨hn, hi, hi2⟩
  have lawB := nextS_law (a := a1) ⟨hn, hk, hk2⟩
  obtain ⟨hs0, hs1⟩ := hs
  obtain ⟨hy0, hy1⟩ := hy
  obtain ⟨hz0, hz1⟩ := hz
  go_enter Try.func14, Try.ntmps14
  go_wp2_with fail
  go_at_call 76
  refine (rright_is _ _).mono ?_
  rintro e w1 ⟨rfl, t1⟩
  replace hB := hB.turns t1 (by simp)
  replace hC := hC.turns t1 (by simp)
  have c0 : w1.cell? ⟨w.heap.size + 1, 0, none⟩ = some _ := hC.cell 0
  have c1 : w1.cell? ⟨w.heap.size + 1, 1, none⟩ = some _ := hC.cell 1
  have b0 : w1.cell? ⟨w.heap.size, 0, none⟩ = some _ := hB.cell 0
  have T1 := TB.trans t1
  clear TA TB t1
  go_wp2_with fail
  go_at_call 71
  refine (next_all _ a0 _ _).mono ?_
  rintro e w2 ⟨rfl, t2⟩
  have T2 := T1.trans t2
  replace hB := hB.turns t2 (by simp)
  have b1 : w2.cell? ⟨w.heap.size, 1, none⟩ = some _ := hB.cell 1
  rcases lawA with hA | ⟨a, hA, la1, la2, la3, la4⟩
  · rw [hA]
    go_wp2_with fail
    go_at_call 71
    refine (next_all _ a1 _ _).mono ?_
    rintro e w3 ⟨rfl, t3⟩
    have T3 := T2.trans t3
    clear hA
    rcases lawB with hL | ⟨b, hL, lb1, lb2, lb3, lb4⟩
    · rw [hL]
      go_wp2_with fail
      go_at_call 73
      refine (alive_any _).mono ?_
      rintro e w4 ⟨rfl, t4⟩
      go_wp2_with fail
      go_ret
      exact ⟨rfl, T3.trans t4⟩
    · rw [hL]
      go_wp2_with fail
      go_at_call 73
      refine (alive_any _).mono ?_
      rintro e w4 ⟨rfl, t4⟩
      go_wp2_with fail
      go_ret
      exact ⟨rfl, T3.trans t4⟩
  · rw [hA]
    have g1 : decide (a ≤ a0) = false := decide_eq_false (by omega)
    have g2 : decide (a < s % 64 + 1) = false := decide_eq_false (by omega)
    have hO : ownerR (s % 64 + 1) a = y % (s % 64 + 1) := by unfold ownerR; rw [if_pos ⟨hn, la2, la3⟩]; exact la4
    have hO2 : (y % (s % 64 + 1) != y % (s % 64 + 1)) = false := by simp
    go_wp2_with fail
    go_at_call 71
    refine (next_all _ a1 _ _).mono ?_
    rintro e w3 ⟨rfl, t3⟩
    have T3 := T2.trans t3
    replace hB := hB.turns t3 (by simp)
    have x0 : w3.cell? ⟨w.heap.size, 0, none⟩ = some _ := hB.cell 0
    clear hA
    rcases lawB with hL | ⟨b, hL, lb1, lb2, lb3, lb4⟩
    · rw [hL]
      go_wp2_with fail
      go_at_call 74
      refine (owner_is _ a _).mono ?_
      rintro e w4 ⟨rfl, t4⟩
      rw [hO]
      go_wp2_with fail
      go_at_call 73
      refine (alive_any _).mono ?_
      rintro e w5 ⟨rfl, t5⟩
      go_wp2_with fail
      go_ret
      exact ⟨rfl, (T3.trans t4).trans t5⟩
    · rw [hL]
      by_cases hik : y % (s % 64 + 1) = z % (s % 64 + 1)
      · have g3 : (y % (s % 64 + 1) == z % (s % 64 + 1)) = true := by rw [hik]; simp
        have la4h : Hid (a % (s % 64 + 1) = y % (s % 64 + 1)) := la4
        clear hik la4 lb4
        go_wp2_with fail
        go_at_call 74
        refine (owner_is _ a _).mono ?_
        rintro e w4 ⟨rfl, t4⟩
        rw [hO]
        go_wp2_with fail
        go_at_call 73
        refine (alive_any _).mono ?_
        rintro e w5 ⟨rfl, t5⟩
        go_wp2_with fail
        go_ret
        exact ⟨rfl, (T3.trans t4).trans t5⟩
      · have g3 : (y % (s % 64 + 1) == z % (s % 64 + 1)) = false := by simpa using hik
        have g4 : (a != b) = true := by
          simp only [bne_iff_ne, ne_eq]
          intro hab
          exact hik (by rw [← la4, ← lb4, hab])
        clear hik la4 lb4
        go_wp2_with fail
        go_at_call 74
        refine (owner_is _ a _).mono ?_
        rintro e w4 ⟨rfl, t4⟩
        rw [hO]
        go_wp2_with fail
        go_at_call 73
        refine (alive_any _).mono ?_
        rintro e w5 ⟨rfl, t5⟩
        go_wp2_with fail
        go_ret
        exact ⟨rfl, (T3.trans t4).trans t5⟩
theorem flatU : Nest Try.prog 99 [kInt .u8, kInt .u8] := nArray (n := 2) Try.underlying99 (nInt Try.underlying5 (by kernel_rfl)) (by kernel_rfl)
theorem opened {H : Type} (enc : TypeId × Value → H) (W : World) {base : Nat} {v0 v1 v2 : Value} {d0 d1 d2 : DataW H} {p0 p1 p2 : List MemPlace} (h0 : DataW.Trod enc Try.prog W 0 (fun _ => true) true 5 v0 d0 p0)
    (h1 : DataW.Trod enc Try.prog W 0 (fun _ => true) true 25 v1 d1 p1) (h2 : DataW.Trod enc Try.prog W 0 (fun _ => true) true 99 v2 d2 p2)
    (o0 : Value.okWide Try.prog W .any base 5 v0) (o1 : Value.okWide Try.prog W .any base 25 v1) (o2 : Value.okWide Try.prog W .any base 99 v2) :
    Calls Try.prog 14 #[v0, v1, v2] W fun e w' => e = .returned (.bool true) ∧ Below W.heap.size W w' := by
  obtain ⟨s, rfl, ws⟩ := arg_int Try.underlying5 (by kernel_rfl) h0 o0
  obtain ⟨cs, rfl, k1⟩ := arg_array Try.underlying25 flatTwo h1 o1
  obtain ⟨ds, rfl, k2⟩ := arg_array Try.underlying99 flatU h2 o2
  obtain ⟨a0, a1, rfl, _⟩ := two_of k1
  obtain ⟨u0, r0, rfl, ⟨y, rfl, wy⟩, k0⟩ := k2.out
  obtain ⟨u1, r1, rfl, ⟨z, rfl, wz⟩, k3⟩ := k0.out
  obtain rfl := k3.none
  exact (other_is s a0 a1 y z W (u8_bd ws) (u8_bd wy) (u8_bd wz)).mono fun e w' ⟨he, t⟩ => ⟨he, t.isBelow⟩
end Go.Proofs.Ytondopjpkedojaa.Co
