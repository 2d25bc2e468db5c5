/- The walks of the document's wallet: at, Left, gone. -/
import Derived.Test.YtcmaloncfdmpnaaLb
set_option linter.unusedVariables false
set_option linter.unusedSimpArgs false
set_option maxRecDepth 100000
namespace Go.Proofs.Ytcmaloncfdmpnaa.Ld
open Go.RowKit Go.MapKept Hm Hs Hf Hg Hk Hx Hv Hl Sm Sat Wa Lw La Lb
def posFrom (k : Int) : List Lea → Nat → Int
  | [], _ => -1
  | x :: r, j => if x.key = k then (j : Int) else posFrom k r (j + 1)
def pos (R : List Lea) (k : Int) : Int := posFrom k R 0
theorem posFrom_is (k : Int) : ∀ (R : List Lea) (j : Nat), (posFrom k R j = -1 ∧ find R k = none ∧ ∀ x ∈ R, x.key ≠ k) ∨ ∃ (i : Nat) (x : Lea), R[i]? = some x ∧ x.key = k ∧ find R k = some x ∧ posFrom k R j = ((j + i : Nat) : Int)
  | [], j => .inl ⟨rfl, rfl, by simp⟩
  | x :: r, j => by
    unfold posFrom find
    rw [List.find?_cons]
    by_cases h : x.key = k
    · rw [if_pos h]
      have e : (x.key == k) = true := by simpa using h
      rw [e]
      exact .inr ⟨0, x, rfl, h, rfl, rfl⟩
    · rw [if_neg h]
      have e : (x.key == k) = false := by simpa using h
      rw [e]
      rcases posFrom_is k r (j + 1) with ⟨h1, h0, h2⟩ | ⟨i, y, h1, h2, h0, h3⟩
      · refine .inl ⟨h1, h0, fun y hy => ?_⟩
        rcases List.mem_cons.1 hy with rfl | hy
        · exact h
        · exact h2 y hy
      · refine .inr ⟨i + 1, y, by simpa using h1, h2, h0, ?_⟩
        rw [h3]
        congr 1
        omega
theorem pos_is (R : List Lea) (k : Int) : (pos R k = -1 ∧ find R k = none) ∨ ∃ (i : Nat) (x : Lea), R[i]? = some x ∧ x.key = k ∧ find R k = some x ∧ pos R k = (i : Int) := by
  rcases posFrom_is k R 0 with ⟨h1, h2, _⟩ | ⟨i, x, h1, h2, h3, h4⟩
  · exact .inl ⟨h1, h2⟩
  · exact .inr ⟨i, x, h1, h2, h3, by unfold pos; rw [h4]; simp⟩
theorem drop_cons {R : List Lea} {j : Nat} {x : Lea} (h : R[j]? = some x) : R.drop j = x :: R.drop (j + 1) := by
  obtain ⟨h1, rfl⟩ := List.getElem?_eq_some_iff.1 h
  exact List.drop_eq_getElem_cons h1
/-- the document's wallet: its block, its leases -/
abbrev rw11 (d : Nat) (lv : Value) (R : List Lea) : List Th := [tBlk d #[lv] 105, tOwn 162 5 lv (R.map Lea.cells)]
/-- the cells of a lease in a slice -/
structure LCells (w : World) (ad : Addr) (m : Nat) (x : Lea) : Prop where
  k : w.cell? (ad.add m) = some (.int .i64 x.key)
  g : w.cell? ⟨(ad.add m).block, (ad.add m).off + 1, none⟩ = some (.int .i64 x.gen)
  a : w.cell? ⟨(ad.add m).block, (ad.add m).off + 2, none⟩ = some (.int .i64 x.amount)
  s : w.cell? ⟨(ad.add m).block, (ad.add m).off + 3, none⟩ = some (.int .i64 x.spent)
  u : w.cell? ⟨(ad.add m).block, (ad.add m).off + 4, none⟩ = some (.int .i64 x.until_)
theorem LCells.turns {w w' : World} {ad : Addr} {m : Nat} {x : Lea} (h : LCells w ad m x) (t : Turns [] w w') : LCells w' ad m x := ⟨t.old h.k, t.old h.g, t.old h.a, t.old h.s, t.old h.u⟩
theorem lcells_of {w : World} {ad : Addr} {m : Nat} {x : Lea} (h : ∀ i u, (Lea.cells x)[i]? = some u → w.cell? (ad.add (m + i)) = some u) : LCells w ad m x := by
  have h0 := h 0 _ rfl
  have h1 := h 1 _ rfl
  have h2 := h 2 _ rfl
  have h3 := h 3 _ rfl
  have h4 := h 4 _ rfl
  rw [Nat.add_zero] at h0
  rw [add_field _ _ _ (by omega)] at h1 h2 h3 h4
  exact ⟨h0, h1, h2, h3, h4⟩
theorem lcells_at {w : World} {v : Value} {R : List Lea} {j : Nat} {x : Lea} (h : RdS 5 w v (R.map Lea.cells)) (hj : R[j]? = some x) : ∃ ad c, v = .slice (some ad) R.length c ∧ LCells w ad (j * 5) x := by
  obtain ⟨ad, c, hv, _, hc⟩ := h.at_ (j := j) (r := Lea.cells x) (by rw [List.getElem?_map, hj]; rfl)
  rw [List.length_map] at hv
  exact ⟨ad, c, hv, lcells_of hc⟩
theorem at_is (w : World) (d : Nat) (lv : Value) (R : List Lea) (k : Int) (h : Got (rw11 d lv R) w) (hn : R.length ≤ 1000000) : Calls Try.prog 116 #[.pointer (some ⟨d, 0, none⟩), .int .i64 k] w fun e w' => e = .returned (.int .i64 (pos R k)) ∧ Turns [] w w' := by
  have hrd := (h.sep.own 1 rfl).reads
  have hb := h.sep.blk 0 rfl
  obtain ⟨A, c, rfl, _⟩ := hrd.form
  rw [List.length_map] at hb
  obtain ⟨p, hp⟩ : ∃ p, pos R k = p := ⟨_, rfl⟩
  rw [hp]
  have hph := Lib.hid hp
  have hrdh := Lib.hid hrd
  clear h hp hrd
  have c0 : World.cell? (w) ⟨d, 0, none⟩ = some _ := (hb).cell 0
  go_enter Try.func116, Try.ntmps116
  go_wp2_with fail
  go_loopw [5] (fun v5 wr => ∃ (j : Nat), j ≤ R.length ∧ v5 = .int .i64 j ∧ posFrom k (R.drop j) j = p ∧ Turns [] w wr) (fun v5 _ => R.length - (RowKit.intOf v5).toNat)
  case atStart => exact ⟨0, by omega, rfl, hph.out, Turns.refl _ _⟩
  case round =>
    obtain ⟨j, hj, rfl, hpj, T⟩ := hrel
    clear c0
    have hpjh := Lib.hid hpj
    clear hpj
    have c0 := T.old (hb.cell 0)
    by_cases hlt : j < R.length
    · have g1 : decide ((j : Int) < (R.length : Int)) = true := by simp; omega
      obtain ⟨x, hx⟩ : ∃ x, R[j]? = some x := ⟨_, List.getElem?_eq_getElem hlt⟩
      obtain ⟨ad, c', hv, L⟩ := lcells_at hrdh.out hx
      injection hv with e1 e2 e3
      subst e1 e3
      have L2 := L.turns T
      have i0 := L2.k
      have hp2 := hpjh.out
      rw [drop_cons hx] at hp2
      unfold posFrom at hp2
      clear hx L L2 e2
      by_cases hk : x.key = k
      · have g2 : (x.key == k) = true := by simpa using hk
        rw [if_pos hk] at hp2
        subst hp2
        clear hk
        go_wp2_with fail
        go_ret
        exact ⟨rfl, T⟩
      · have g2 : (x.key == k) = false := by simpa using hk
        rw [if_neg hk] at hp2
        have hp2h := Lib.hid hp2
        clear hp2 hk
        go_wp2_with fail
        go_roundw
        case rel => exact ⟨j + 1, by omega, by go_num, hp2h.out, T⟩
        case measure => simp [RowKit.intOf]; omega
    · obtain rfl : j = R.length := by omega
      have g1 : decide ((R.length : Int) < (R.length : Int)) = false := by simp
      have hp2 := hpjh.out
      rw [List.drop_length] at hp2
      unfold posFrom at hp2
      subst hp2
      go_wp2_with fail
      go_ret
      exact ⟨rfl, T⟩
theorem infoM : (Try.prog.info? 162).map (fun i => (i.zero, i.size, i.bytes)) = some (some (.agg #[.int .i64 0, .int .i64 0, .int .i64 0, .int .i64 0, .int .i64 0]), 5, 40) := by kernel_rfl
theorem oneLea {w : World} {b : Nat} {x : Lea} (h : Blk w b #[.int .i64 x.key, .int .i64 x.gen, .int .i64 x.amount, .int .i64 x.spent, .int .i64 x.until_] 162) : RdS 5 w (.slice (some ⟨b, 0, none⟩) 1 1) ([x].map Lea.cells) :=
  RdS.of_cells (rows := [x].map Lea.cells) h rfl (by simp [Lea.cells]) 1 (by simp) (by decide)
theorem pos_bd (R : List Lea) (k : Int) : -1 ≤ pos R k ∧ pos R k < (R.length : Int) := by
  rcases pos_is R k with ⟨h1, _⟩ | ⟨i, x, h1, _, _, h2⟩
  · omega
  · have := (List.getElem?_eq_some_iff.1 h1).1
    omega
set_option maxHeartbeats 1000000 in
theorem left_is (w : World) (d : Nat) (lv : Value) (R : List Lea) (k now : Int) (h : Got (rw11 d lv R) w) (hn : R.length ≤ 1000000) : Calls Try.prog 68 #[.pointer (some ⟨d, 0, none⟩), .int .i64 k, .int .i64 now] w fun e w' => e = .returned (.int .i64 (left R k now)) ∧ Turns [] w w' := by
  have hA := at_is w d lv R k h hn
  have H := h.sep
  have hrd := (H.own 1 rfl).reads
  have hb := H.blk 0 rfl
  obtain ⟨A, c, rfl, _⟩ := hrd.form
  rw [List.length_map] at hb
  have hrdh := Lib.hid hrd
  have hAh := Lib.hid hA
  clear hA hrd h H
  rcases pos_is R k with ⟨h1, h2⟩ | ⟨i, x, h1, h2, h3, h4⟩
  · have hl : left R k now = 0 := by unfold left; rw [h2]
    rw [hl]
    rw [h1] at hAh
    clear h2 hl h1
    go_enter Try.func68, Try.ntmps68
    go_wp2_with fail
    go_at_call 116
    refine Calls.mono (hAh.out) ?_
    rintro e w1 ⟨rfl, t1⟩
    go_wp2_with fail
    go_ret
    exact ⟨rfl, t1⟩
  · have hl : left R k now = if now ≥ x.until_ then 0 else wrap64 (x.amount - x.spent) := by unfold left; rw [h3]
    rw [hl]
    rw [h4] at hAh
    have hi := (List.getElem?_eq_some_iff.1 h1).1
    obtain ⟨ad, c', hv, L⟩ := lcells_at hrdh.out h1
    injection hv with e1 e2 e3
    subst e1 e3
    have g0 : decide ((i : Int) < 0) = false := by simp
    clear h2 hl h1 h3 h4 e2
    by_cases hn : now ≥ x.until_
    · rw [if_pos hn]
      have g1 := decide_eq_true hn
      clear hn
      go_enter Try.func68, Try.ntmps68
      go_wp2_with fail
      go_at_call 116
      refine Calls.mono (hAh.out) ?_
      rintro e w1 ⟨rfl, t1⟩
      have L1 := L.turns t1
      have i4 := L1.u
      have c0 := t1.old (hb.cell 0)
      go_wp2_with fail
      go_ret
      exact ⟨rfl, t1⟩
    · rw [if_neg hn]
      have g1 : decide (now ≥ x.until_) = false := decide_eq_false hn
      clear hn
      go_enter Try.func68, Try.ntmps68
      go_wp2_with fail
      go_at_call 116
      refine Calls.mono (hAh.out) ?_
      rintro e w1 ⟨rfl, t1⟩
      have L1 := L.turns t1
      have i2 := L1.a
      have i3 := L1.s
      have i4 := L1.u
      have c0 := t1.old (hb.cell 0)
      go_wp2_with fail
      go_quiet (fail)
      have T := t1.drewN nq
      generalize w1.drewN nq = w2 at *
      go_wp2_with fail
      go_ret
      exact ⟨rfl, T⟩
end Go.Proofs.Ytcmaloncfdmpnaa.Ld
