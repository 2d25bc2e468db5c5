/- A row's total, and a row minted: the ledger's Total and Look, the document's Total, minted and Look. -/
import Derived.Test.YtphhfdlhkginkaaBd
import Derived.Test.YtphhfdlhkginkaaWh
set_option linter.unusedVariables false
set_option linter.unusedSimpArgs false
set_option maxRecDepth 100000
namespace Go.Proofs.Ytphhfdlhkginkaa.Be
open Go.RowKit Go.MapKept Hm Hs Hf Hx Hy Hv Fa Ff Ba Bb Bc Bd Sm Sat Mu Mv
theorem tot_take (r : Row) {k : Nat} {p : Int × Int} (h : r.out[k]? = some p) : sum (r.avail :: (r.out.take (k + 1)).map (·.2)) = two (sum (r.avail :: (r.out.take k).map (·.2))) p.2 := by
  rw [take_next h, List.map_append, ← List.cons_append]
  exact sum_snoc _ _
theorem two_assoc0 (a b : Int) (ha : 0 ≤ a ∧ a ≤ 4611686018427387904) : sum [a, b] = two a b := by
  simp only [sum, List.foldl_cons, List.foldl_nil]
  rw [two_zero, fit_id ha.1 ha.2]
theorem sum_one (a : Int) : sum [a] = fit a := by simp only [sum, List.foldl_cons, List.foldl_nil]; rw [two_zero]
theorem sum_two (a b : Int) : sum [a, b] = two a b := by
  simp only [sum, List.foldl_cons, List.foldl_nil]
  rw [two_zero]
  unfold two
  rw [fit_fit]
set_option maxHeartbeats 4000000 in
theorem total_is (w : World) (x : Rw) (r : Row) (h : RowIs w x r) (hn : r.out.length ≤ 100000) : Calls Try.prog 19 #[x.v] w fun e w' => e = .returned (.int .i64 (totalR r)) ∧ Turns [] w w' := by
  obtain ⟨A, c, rfl, ho⟩ := row_form h
  have hoh := Lib.hid ho
  unfold Rw.v
  simp only
  have hT : totalR r = sum (r.avail :: (r.out.take r.out.length).map (·.2)) := by rw [List.take_length]; rfl
  have hTh := Lib.hid hT
  obtain ⟨tt, htt⟩ : ∃ tt, totalR r = tt := ⟨_, rfl⟩
  rw [htt] at hTh ⊢
  have T0 := (Turns.refl [] w).alloc (.cells #[.int .i64 r.key, .int .i64 r.avail, .int .i64 r.mark, .slice A r.out.length c] 38)
  have B0 := Blk.new w #[.int .i64 r.key, .int .i64 r.avail, .int .i64 r.mark, .slice A r.out.length c] 38
  have t1 : World.cell? (w.alloc (.cells #[.int .i64 r.key, .int .i64 r.avail, .int .i64 r.mark, .slice A r.out.length c] 38)) ⟨w.heap.size, 1, none⟩ = some _ := (B0).cell 1
  have ff := fit_is r.avail
  have hs0 : Hid (fit r.avail = sum (r.avail :: (r.out.take 0).map (·.2))) := Lib.hid (by rw [List.take_zero]; exact (sum_one _).symm)
  generalize fit r.avail = a0 at *
  clear h ho hT htt
  go_enter Try.func19, Try.ntmps19
  go_wp2_with fail
  go_at_call 45
  refine Calls.mono (ff _) ?_
  rintro e w1 ⟨rfl, t1⟩
  have T1 := T0.trans t1
  have t3 := (B0.turns t1 (by simp)).cell 3
  clear t1 T0 B0 ff
  have t3' : w1.cell? ⟨w.heap.size, 3, none⟩ = some (.slice A r.out.length c) := t3
  clear t3
  go_wp2_with fail
  clear t3'
  go_loopw [3, 12] (fun v3 v12 wr => ∃ (k : Nat) (s : Int), k ≤ r.out.length ∧ v12 = .int .i64 k ∧ v3 = .int .i64 s ∧ s = sum (r.avail :: (r.out.take k).map (·.2)) ∧ Turns [] w wr) (fun _ v12 _ => r.out.length - (RowKit.intOf v12).toNat)
  case atStart => exact ⟨0, a0, by omega, rfl, rfl, hs0.out, T1⟩
  case round =>
    obtain ⟨k, s, hk, rfl, rfl, hs, T⟩ := hrel
    by_cases hlt : k < r.out.length
    · have g1 : decide ((k : Int) < (r.out.length : Int)) = true := decide_eq_true (by omega)
      have g1b : decide (k < r.out.length) = true := decide_eq_true hlt
      obtain ⟨p, hp⟩ : ∃ p, r.out[k]? = some p := ⟨_, List.getElem?_eq_getElem hlt⟩
      obtain ⟨ad, c', hv, L⟩ := ls_at hoh.out hp
      injection hv with e1 e2 e3
      subst e1 e3
      obtain ⟨x0, x1⟩ := L.turns T
      have hnx := tot_take r hp
      rw [← hs] at hnx
      have hnxh := Lib.hid hnx
      have H := ((Sep.start wr).alloc #[.int .i64 p.1, .int .i64 p.2] 76).alloc #[.int .i64 s, .int .i64 p.2] 3
      rw [World.size_alloc] at H
      have hI := IRow.of_blk (xs := [s, p.2]) (H.blk 0 rfl) rfl (by simp)
      have hA := Lib.hid (add_is _ [s, p.2] 2 _ hI)
      have hAT := Lib.hid (T.trans H.t)
      rw [sum_two] at hA
      clear e2 L hp hnx hs H hI
      generalize two s p.2 = s2 at *
      go_wp2_with fail
      go_at_call 39
      refine Calls.mono (hA.out) ?_
      rintro e w2 ⟨rfl, t2⟩
      have T2 := hAT.out.trans t2
      go_wp2_with fail
      go_roundw
      case rel => exact ⟨k + 1, s2, by omega, by go_num, rfl, by rw [hnxh.out], T2⟩
      case measure => simp [RowKit.intOf]; omega
    · obtain rfl : k = r.out.length := by omega
      have g1 : decide ((r.out.length : Int) < (r.out.length : Int)) = false := by simp
      have hX : tt = s := by rw [hTh.out, hs]
      subst hX
      clear hs
      go_wp2_with fail
      go_ret
      exact ⟨rfl, T⟩
end Go.Proofs.Ytphhfdlhkginkaa.Be
