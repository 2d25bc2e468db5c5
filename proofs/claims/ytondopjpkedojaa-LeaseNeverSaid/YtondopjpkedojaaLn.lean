/- The walks of the law LeaseNever, and of annonalaw11.alive. -/
import Derived.Test.YtondopjpkedojaaLw
import Derived.Deep.LoopGhost
import Derived.Test.YtondopjpkedojaaHr
set_option linter.unusedVariables false
set_option linter.unusedSimpArgs false
set_option maxRecDepth 100000
namespace Go.Proofs.Ytondopjpkedojaa.Ln
open Go.RowKit Hm Hr Lw
attribute [local go_sem] Lea.v Lea.zero

theorem alive_any (w : World) : Calls Try.prog 31 #[] w fun e w' => e = .returned (.bool true) ∧ Turns [] w w' := by
  have p0 : putR [] ⟨3, 7, 5, 0, 20⟩ = (0, [⟨3, 7, 5, 0, 20⟩]) := by rfl
  have s1 : spendR [⟨3, 7, 5, 0, 20⟩] 3 4 19 = (7, true, [⟨3, 7, 5, 4, 20⟩]) := by unfold spendR left setL wrap64; rfl
  have s2 : spendR [⟨3, 7, 5, 4, 20⟩] 3 2 19 = (0, false, [⟨3, 7, 5, 4, 20⟩]) := by unfold spendR left setL wrap64; rfl
  have s3 : spendR [⟨3, 7, 5, 4, 20⟩] 3 1 20 = (0, false, [⟨3, 7, 5, 4, 20⟩]) := by unfold spendR left setL wrap64; rfl
  have f4 : left [⟨3, 7, 5, 4, 20⟩] 3 0 = 1 := by unfold left wrap64; rfl
  have c5 : closeR [⟨3, 7, 5, 4, 20⟩] 3 7 = 4 := by rfl
  have d5 : delL [⟨3, 7, 5, 4, 20⟩] 3 = [] := by rfl
  have c6 : closeR [] 3 7 = -1 := by rfl
  go_enter Try.func31, Try.ntmps31
  go_wp2_with fail
  go_at_call 32
  refine (new_any _).mono ?_
  rintro e w1 ⟨b, m, rfl, h1, hb, hm, t1⟩
  go_wp2_with fail
  go_at_call 33
  refine (put_any ⟨3, 7, 5, 0, 20⟩ _ b m _ h1 _ _ p0).mono ?_
  rintro e w2 ⟨rfl, h2, t2⟩
  go_wp2_with fail
  go_at_call 34
  refine (spend_any 3 4 19 _ b m _ h2 _ _ _ s1).mono ?_
  rintro e w3 ⟨rfl, h3, t3⟩
  go_wp2_with fail
  go_at_call 34
  refine (spend_any 3 2 19 _ b m _ h3 _ _ _ s2).mono ?_
  rintro e w4 ⟨rfl, h4, t4⟩
  go_wp2_with fail
  go_at_call 34
  refine (spend_any 3 1 20 _ b m _ h4 _ _ _ s3).mono ?_
  rintro e w5 ⟨rfl, h5, t5⟩
  go_wp2_with fail
  go_at_call 41
  refine (left_is 3 0 _ b m _ h5 _ f4).mono ?_
  rintro e w6 ⟨rfl, h6, t6⟩
  go_wp2_with fail
  go_at_call 35
  refine (close_any 3 7 _ b m _ h6 _ c5).mono ?_
  rintro e w7 ⟨rfl, h7, t7⟩
  rw [d5] at h7
  go_wp2_with fail
  go_at_call 35
  refine (close_any 3 7 _ b m _ h7 _ c6).mono ?_
  rintro e w8 ⟨rfl, h8, t8⟩
  go_wp2_with fail
  go_ret
  have t := ((((((t1.mono (fun _ h => by cases h)).trans t2).trans t3).trans t4).trans t5).trans t6).trans t7 |>.trans t8
  exact ⟨rfl, ⟨t.os, t.tape, t.output, t.size, fun k hk _ => t.block k hk (by simp; omega)⟩⟩

theorem find_one (x : Lea) : find [x] x.key = some x := by unfold find; simp
theorem spend_one_no (x : Lea) (all cost now : Int) (h0 : 0 ≤ all) (h1 : all ≤ x.amount) (hb : x.amount ≤ 9223372036854775807) (h : ¬ (1 ≤ cost ∧ now < x.until_ ∧ cost ≤ x.amount - all)) :
    spendR [{ x with spent := all }] x.key cost now = (0, false, [{ x with spent := all }]) := by
  have hl : left [{ x with spent := all }] x.key now = if now ≥ x.until_ then 0 else x.amount - all := by
    unfold left
    rw [find_one { x with spent := all }]
    simp only []
    split
    · rfl
    · unfold wrap64; omega
  unfold spendR
  rw [hl]
  split
  · rfl
  · rw [if_pos]
    split <;> omega
theorem spend_one_yes (x : Lea) (all cost now : Int) (h0 : 0 ≤ all) (h1 : all ≤ x.amount) (hb : x.amount ≤ 9223372036854775807) (h : 1 ≤ cost ∧ now < x.until_ ∧ cost ≤ x.amount - all) :
    spendR [{ x with spent := all }] x.key cost now = (x.gen, true, [{ x with spent := all + cost }]) := by
  have hl : left [{ x with spent := all }] x.key now = x.amount - all := by
    unfold left
    rw [find_one { x with spent := all }]
    simp only []
    rw [if_neg (by omega)]
    unfold wrap64; omega
  unfold spendR
  rw [hl, if_neg (by omega), if_neg (by omega), find_one { x with spent := all }]
  simp only [setL, List.map_cons, List.map_nil, beq_self_eq_true, if_true]
  rw [show wrap64 (all + cost) = all + cost from by unfold wrap64; omega]
structure Act where
  kind : Int
  l : Lea
  now : Int
def Act.cells (a : Act) : List Value := [.int .u8 a.kind, .int .i64 a.l.key, .int .i64 a.l.gen, .int .i64 a.l.amount, .int .i64 a.l.spent, .int .i64 a.l.until_, .int .i64 a.now]
theorem never_many (x : Lea) (A : Option Addr) (n c : Nat) (w : World) (hn : decide ((80 : Int) < (n : Int)) = true) :
    Calls Try.prog 6 #[x.v, .slice A n c] w fun e w' => e = .returned (.bool true) ∧ Turns [] w w' := by
  unfold Lea.v
  go_enter Try.func6, Try.ntmps6
  go_wp2_with fail
  go_at_call 31
  refine (alive_any _).mono ?_
  rintro e w1 ⟨rfl, t1⟩
  go_wp2_with fail
  go_ret
  exact ⟨rfl, ((Turns.refl [] w).alloc _).trans t1⟩
theorem never_bad (x : Lea) (A : Option Addr) (n c : Nat) (w : World) (hn : decide ((80 : Int) < (n : Int)) = false) (hb : badB x = true) :
    Calls Try.prog 6 #[x.v, .slice A n c] w fun e w' => e = .returned (.bool true) ∧ Turns [] w w' := by
  have hR : putR [] x = (1, []) := by unfold putR; rw [if_pos hb]
  unfold Lea.v
  go_enter Try.func6, Try.ntmps6
  go_wp2_with fail
  go_at_call 32
  refine (new_any _).mono ?_
  rintro e w1 ⟨b, m, rfl, h1, hb1, hm1, t1⟩
  have hB0 := (Blk.new w #[.int .i64 x.key, .int .i64 x.gen, .int .i64 x.amount, .int .i64 x.spent, .int .i64 x.until_] 33).turns t1 (by simp)
  have d0 : w1.cell? ⟨w.heap.size, 0, none⟩ = some _ := hB0.cell 0
  have d1 : w1.cell? ⟨w.heap.size, 1, none⟩ = some _ := hB0.cell 1
  have d2 : w1.cell? ⟨w.heap.size, 2, none⟩ = some _ := hB0.cell 2
  have d3 : w1.cell? ⟨w.heap.size, 3, none⟩ = some _ := hB0.cell 3
  have d4 : w1.cell? ⟨w.heap.size, 4, none⟩ = some _ := hB0.cell 4
  go_wp2_with fail
  go_at_call 33
  refine (put_any x _ b m _ h1 _ _ hR).mono ?_
  rintro e w2 ⟨rfl, h2, t2⟩
  go_wp2_with fail
  go_at_call 31
  refine (alive_any _).mono ?_
  rintro e w3 ⟨rfl, t3⟩
  go_wp2_with fail
  go_ret
  exact ⟨rfl, ((((Turns.refl [] w).alloc _).trans t1).then t2 (by simp at hm1 ⊢; omega)).trans t3⟩
theorem never_ok (x : Lea) (A : Option Addr) (acts : List Act) (c : Nat) (w : World) (hl : FlatRow w A 7 (acts.map Act.cells)) (hn : decide ((80 : Int) < (acts.length : Int)) = false) (hb : badB x = false) (hxa : x.amount ≤ 9223372036854775807) :
    Calls Try.prog 6 #[x.v, .slice A acts.length c] w fun e w' => e = .returned (.bool true) ∧ Turns [] w w' := by
  have h80 : acts.length ≤ 80 := by simp at hn; omega
  have hR : putR [] x = (0, [x]) := by unfold putR; rw [if_neg (by simp [hb])]; rfl
  unfold Lea.v
  go_enter Try.func6, Try.ntmps6
  go_wp2_with fail
  go_at_call 32
  refine (new_any _).mono ?_
  rintro e w1 ⟨b, m, rfl, h1, hb1, hm0, t1⟩
  have hm1 : w.heap.size < m := by simp at hm0; omega
  clear hb1 hm0
  have hB0 := (Blk.new w #[.int .i64 x.key, .int .i64 x.gen, .int .i64 x.amount, .int .i64 x.spent, .int .i64 x.until_] 33).turns t1 (by simp)
  have d0 : w1.cell? ⟨w.heap.size, 0, none⟩ = some _ := hB0.cell 0
  have d1 : w1.cell? ⟨w.heap.size, 1, none⟩ = some _ := hB0.cell 1
  have d2 : w1.cell? ⟨w.heap.size, 2, none⟩ = some _ := hB0.cell 2
  have d3 : w1.cell? ⟨w.heap.size, 3, none⟩ = some _ := hB0.cell 3
  have d4 : w1.cell? ⟨w.heap.size, 4, none⟩ = some _ := hB0.cell 4
  go_wp2_with fail
  go_at_call 33
  refine (put_any x _ b m _ h1 _ _ hR).mono ?_
  rintro e w2 ⟨rfl, h2, t2⟩
  have T2 := (((Turns.refl [] w).alloc _).trans t1).then t2 (by simp at hm1 ⊢; omega)
  have hnb : w.heap.size ∉ [m] := by simp at hm1 ⊢; omega
  replace hB0 := hB0.turns t2 hnb
  clear d0 d1 d2 d3 d4 t1 t2 h1 hR
  have hxs : Hid (x.spent = 0) := by have := (bad_no hb).2.2.1; exact (by simpa using this : x.spent = 0)
  go_wp2_with fail
  go_loopw [6, 7] (fun v6 v7 wr => ∃ (k : Nat) (all : Int), k ≤ acts.length ∧ v7 = .int .i64 k ∧ v6 = .int .i64 all ∧ IsWallet wr b m [{ x with spent := all }] ∧ 0 ≤ all ∧ all ≤ x.amount ∧ Turns [] w wr ∧
      Blk wr w.heap.size #[.int .i64 x.key, .int .i64 x.gen, .int .i64 x.amount, .int .i64 x.spent, .int .i64 x.until_] 33) (fun _ v7 _ => acts.length - (intOf v7).toNat)
  case atStart =>
    refine ⟨0, 0, Nat.zero_le _, rfl, rfl, ?_, by omega, ?_, T2, hB0⟩
    · rw [← hxs.out]; exact h2
    · have := (bad_no hb).2.1; simp at this; omega
  case round =>
    obtain ⟨k, all, hk, rfl, rfl, hw, ha0, ha1, T, hB⟩ := hrel
    clear T2 hB0 h2
    have d0 : wr.cell? ⟨w.heap.size, 0, none⟩ = some _ := hB.cell 0
    have d1 : wr.cell? ⟨w.heap.size, 1, none⟩ = some _ := hB.cell 1
    have d2 : wr.cell? ⟨w.heap.size, 2, none⟩ = some _ := hB.cell 2
    have d4 : wr.cell? ⟨w.heap.size, 4, none⟩ = some _ := hB.cell 4
    by_cases hlt : k < acts.length
    · obtain ⟨a, ha⟩ : ∃ a, acts[k]? = some a := ⟨_, List.getElem?_eq_getElem hlt⟩
      obtain ⟨ad, rfl, _, hc⟩ := hl.at_ (j := k) (c := a.cells) (by rw [List.getElem?_map, ha]; rfl)
      have i3 := old_cell T.isBelow (Nat.le_refl _) (hc 3 _ rfl)
      have i6 := old_cell T.isBelow (Nat.le_refl _) (hc 6 _ rfl)
      rw [add_field _ _ _ (by omega)] at i3 i6
      have hlt' : decide ((k : Int) < (acts.length : Int)) = true := by simp; omega
      have hlt2 : k < acts.length := hlt
      go_wp2_with fail
      refine wp_region_mid 14 _ (by kernel_rfl) (by kernel_rfl) rfl ?_
      simp only [List.take_succ_cons, List.take_zero, List.drop_succ_cons, List.drop_zero]
      repeat still_step
      refine wpStill_nil ?_
      change wpList _ _ _ _ _ wr.drew
      have hwd : IsWallet wr.drew b m [{ x with spent := all }] := ⟨hw.blk, hw.map⟩
      have hBd : Blk wr.drew w.heap.size _ _ := hB
      have Td : Turns [] w wr.drew := T.drew
      clear d0 d1 d2 d4 i3 i6
      generalize wr.drew = w3 at *
      by_cases hs : 1 ≤ a.l.amount ∧ a.now < x.until_ ∧ a.l.amount ≤ x.amount - all
      · have hR := spend_one_yes x all a.l.amount a.now ha0 ha1 hxa hs
        go_wp2_with fail
        go_at_call 34
        refine (spend_any x.key a.l.amount a.now _ b m _ hwd _ _ _ hR).mono ?_
        rintro e w4 ⟨rfl, h4, t4⟩
        have T4 := Td.then t4 (by simp; omega)
        replace hBd := hBd.turns t4 hnb
        have d1 : w4.cell? ⟨w.heap.size, 1, none⟩ = some _ := hBd.cell 1
        have d2 : w4.cell? ⟨w.heap.size, 2, none⟩ = some _ := hBd.cell 2
        have d4 : w4.cell? ⟨w.heap.size, 4, none⟩ = some _ := hBd.cell 4
        have i3 := old_cell T4.isBelow (Nat.le_refl _) (hc 3 _ rfl)
        have i6 := old_cell T4.isBelow (Nat.le_refl _) (hc 6 _ rfl)
        rw [add_field _ _ _ (by omega)] at i3 i6
        clear hR
        obtain ⟨hs1, hs2, hs3⟩ := hs
        have g1 : decide (a.now ≥ x.until_) = false := by simp; omega
        have g2 : decide (a.l.amount < 1) = false := by simp; omega
        have g3 : decide (all + a.l.amount > x.amount) = false := by simp; omega
        have g4 : decide (all + a.l.amount < 0) = false := by simp; omega
        go_wp2_with fail
        simp only [midQ]
        repeat still_step
        refine wpStill_nil ?_
        go_wp2_with fail
        go_quiet (fail)
        go_wp2_with fail
        go_roundw
        case rel => exact ⟨k + 1, all + a.l.amount, by omega, by go_num, rfl, ⟨h4.blk, h4.map⟩, by omega, by omega, T4.drewN _, hBd⟩
        case measure => simp [intOf]; omega
      · have hR := spend_one_no x all a.l.amount a.now ha0 ha1 hxa hs
        go_wp2_with fail
        go_at_call 34
        refine (spend_any x.key a.l.amount a.now _ b m _ hwd _ _ _ hR).mono ?_
        rintro e w4 ⟨rfl, h4, t4⟩
        have T4 := Td.then t4 (by simp; omega)
        replace hBd := hBd.turns t4 hnb
        clear hR
        go_wp2_with fail
        simp only [midQ]
        repeat still_step
        refine wpStill_nil ?_
        go_wp2_with fail
        go_roundw
        case rel => exact ⟨k + 1, all, by omega, by go_num, rfl, h4, ha0, ha1, T4, hBd⟩
        case measure => simp [intOf]; omega
    · have hk2 : k = acts.length := by omega
      subst hk2
      have hlt' : decide ((acts.length : Int) < (acts.length : Int)) = false := by simp
      have hR : closeR [{ x with spent := all }] x.key x.gen = all := by unfold closeR; rw [find_one { x with spent := all }]; simp
      go_wp2_with fail
      go_at_call 31
      refine (alive_any _).mono ?_
      rintro e w3 ⟨rfl, t3⟩
      have h3 := hw.turns t3 (by simp) (by simp)
      have T3 := T.trans t3
      replace hB := hB.turns t3 (by simp)
      clear d0 d1 d2 d4
      have d0 : w3.cell? ⟨w.heap.size, 0, none⟩ = some _ := hB.cell 0
      have d1 : w3.cell? ⟨w.heap.size, 1, none⟩ = some _ := hB.cell 1
      go_wp2_with fail
      go_at_call 35
      refine (close_any x.key x.gen _ b m _ h3 _ hR).mono ?_
      rintro e w4 ⟨rfl, h4, t4⟩
      have T4 := T3.then t4 (by simp; omega)
      clear hR
      go_wp2_with fail
      go_ret
      exact ⟨rfl, T4⟩
end Go.Proofs.Ytondopjpkedojaa.Ln
