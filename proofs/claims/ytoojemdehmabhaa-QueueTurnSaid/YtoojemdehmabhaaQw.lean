/- The walks of the document's queue: Right, Of, Sum. -/
import Derived.Test.YtoojemdehmabhaaQs
import Derived.Test.YtoojemdehmabhaaQv
set_option linter.unusedVariables false
set_option linter.unusedSimpArgs false
set_option maxRecDepth 100000
namespace Go.Proofs.Ytoojemdehmabhaa.Qw
open Go.RowKit Go.MapKept Go.Shelf Hm Hs Hf Hg Hx Hy Hv Sm Sat Qa Qb Qe Qh Qi Qk Qm Qn
theorem right_is (w : World) (room : Int) : Calls Try.prog 37 #[.int .i64 room] w fun e w' => e = .returned (.bool (decide (0 ≤ room ∧ room ≤ 16))) ∧ Turns [] w w' := by
  by_cases h0 : 0 ≤ room
  · have g0 : decide (room ≥ 0) = true := decide_eq_true h0
    by_cases h1 : room ≤ 16
    · have g1 : decide (room ≤ 16) = true := decide_eq_true h1
      rw [decide_eq_true (show 0 ≤ room ∧ room ≤ 16 from ⟨h0, h1⟩)]
      clear h0 h1
      go_enter Try.func37, Try.ntmps37
      go_wp2_with fail
      go_ret
      exact ⟨rfl, Turns.refl _ _⟩
    · have g1 : decide (room ≤ 16) = false := decide_eq_false h1
      rw [decide_eq_false (show ¬ (0 ≤ room ∧ room ≤ 16) from fun h => h1 h.2)]
      clear h0 h1
      go_enter Try.func37, Try.ntmps37
      go_wp2_with fail
      go_ret
      exact ⟨rfl, Turns.refl _ _⟩
  · have g0 : decide (room ≥ 0) = false := decide_eq_false h0
    rw [decide_eq_false (show ¬ (0 ≤ room ∧ room ≤ 16) from fun h => h0 h.1)]
    clear h0
    go_enter Try.func37, Try.ntmps37
    go_wp2_with fail
    go_ret
    exact ⟨rfl, Turns.refl _ _⟩
/-- those of a key, of a class -/
def fcl (key : Int) (c : Nat) (x : It) : Bool := (x.key == key) && (x.cls == (c : Int))
def prec (R : List It) (key : Int) : Nat → List It
  | 0 => []
  | c + 1 => prec R key c ++ R.filter (fcl key c)
theorem prec_of (R : List It) (key : Int) : prec R key 3 = ofQ R key := by
  unfold ofQ stab
  simp only [prec, List.nil_append, List.filter_filter]
  have e : ∀ (c : Nat), R.filter (fcl key c) = R.filter (fun a => (a.cls == (c : Int)) && !(a.key != key)) := fun c => List.filter_congr (fun x _ => by
    unfold fcl
    cases h1 : (x.cls == (c : Int)) <;> cases h2 : (x.key == key) <;> simp [bne, h2])
  rw [e 0, e 1, e 2]
  rfl
theorem prec_len (R : List It) (key : Int) : ∀ c : Nat, (prec R key c).length ≤ c * R.length
  | 0 => by simp [prec]
  | c + 1 => by
    have h1 := prec_len R key c
    have h2 := List.length_filter_le (fcl key c) R
    unfold prec
    rw [List.length_append, Nat.succ_mul]
    omega
set_option maxHeartbeats 4000000 in
theorem rof_is (w : World) (d : Nat) (room : Int) (lv : Value) (R : List It) (key : Int) (h : Got (rq d room lv R) w) (hn : R.length ≤ 100000) : Calls Try.prog 41 #[.pointer (some ⟨d, 0, none⟩), .int .i64 key] w
    fun e w' => ∃ u, e = .returned u ∧ OwnS 84 5 w' u ((ofQ R key).map It.cells) ∧ Turns [] w w' ∧ (∀ k, u.ownBlock = some k → w.heap.size ≤ k) := by
  rw [← prec_of]
  have hb := h.sep.blk 0 rfl
  have hrd := Lib.hid (h.sep.own 1 rfl).reads
  obtain ⟨A, c, rfl, _⟩ := formM (h.sep.own 1 rfl)
  have H0 := (Sep.start w).nilSlice 84 5
  clear h
  go_enter Try.func41, Try.ntmps41
  go_wp2_with fail
  go_loopw [5, 6] (fun v5 v6 wr => ∃ (k : Nat), k ≤ 3 ∧ v6 = .int .i64 k ∧ Sep [] w [tRi v5 (prec R key k)] wr) (fun _ v6 _ => 3 - (RowKit.intOf v6).toNat)
  case atStart => exact ⟨0, by omega, rfl, H0⟩
  case round =>
    clear H0
    obtain ⟨k, hk, rfl, H⟩ := hrel
    by_cases hlt : k < 3
    · have g1 : decide ((k : Int) < 3) = true := decide_eq_true (by omega)
      have g1b : decide (k < 3) = true := decide_eq_true hlt
      have hpl := prec_len R key k
      have hpl2 : (prec R key k).length ≤ 300000 := Nat.le_trans hpl (Nat.le_trans (Nat.mul_le_mul_right _ hk) (by omega))
      have hnx : Hid (prec R key (k + 1) = prec R key k ++ R.filter (fcl key k)) := Lib.hid rfl
      generalize prec R key k = P at *
      have hHh := Lib.hid H
      clear H hpl
      go_wp2_with fail
      go_loopw [5, 7] (fun v5 v7 wr => ∃ (j : Nat), j ≤ R.length ∧ v7 = .int .i64 j ∧ Sep [] w [tRi v5 (P ++ (R.take j).filter (fcl key k))] wr) (fun _ v7 _ => R.length - (RowKit.intOf v7).toNat)
      case atStart => exact ⟨0, by omega, rfl, by simpa using hHh.out⟩
      case round =>
        clear hHh
        obtain ⟨j, hj, rfl, H⟩ := hrel
        have hfl := List.length_filter_le (fcl key k) (R.take j)
        have hfl2 : (P ++ (R.take j).filter (fcl key k)).length ≤ 400000 := by rw [List.length_append]; rw [List.length_take] at hfl; omega
        obtain ⟨A3, c3, hvv, _⟩ := formM (H.own 0 rfl)
        subst hvv
        have b1 : World.cell? (_) ⟨d, 1, none⟩ = some _ := (hb.turns H.t (by simp)).cell 1
        by_cases hjl : j < R.length
        · have g2 : decide ((j : Int) < (R.length : Int)) = true := decide_eq_true (by omega)
          have g2b : decide (j < R.length) = true := decide_eq_true hjl
          obtain ⟨x, hx⟩ : ∃ x, R[j]? = some x := ⟨_, List.getElem?_eq_getElem hjl⟩
          obtain ⟨ad, c', hv, LX⟩ := icells_at hrd.out hx
          injection hv with e1 e2 e3
          subst e1 e3
          obtain ⟨x0, x1, x2, x3, x4⟩ := LX.turns H.t
          have htk := take_next hx
          by_cases hp : fcl key k x = true
          · have hap : P ++ (R.take (j + 1)).filter (fcl key k) = (P ++ (R.take j).filter (fcl key k)) ++ [x] := by rw [htk, List.filter_append, List.append_assoc]; simp [hp]
            have haph := Lib.hid hap
            unfold fcl at hp
            simp only [Bool.and_eq_true] at hp
            obtain ⟨q1, q2⟩ := hp
            generalize P ++ (R.take j).filter (fcl key k) = M at *
            have H2 := H.alloc #[.int .i64 x.id, .int .i64 x.key, .int .i64 x.cost, .int .i64 x.cls, .int .i64 x.until_] 84
            have hs2h := Lib.hid (oneR (H2.blk 0 rfl))
            have hHh := Lib.hid H2
            clear e2 LX htk hx hap H H2 hfl
            go_wp2_with (at_builtin; refine stop_ ?_)
            refine Mk_.mk ?_
            refine hHh.out.append 1 rfl hs2h.out (M.length + 1) (by simp) ((M ++ [x]).map It.cells) (by rw [List.map_append]) rfl _ _ _ rfl (.agg #[.int .i64 0, .int .i64 0, .int .i64 0, .int .i64 0, .int .i64 0]) 40 Try.underlying29 infoR rfl (by decide) rfl rfl (icells_one _) (by omega) (by omega) ?_
            clear hHh hs2h x0 x1 x2 x3 x4 b1
            intro A4 c4 wn H tn _
            clear tn
            have H2 := Lib.hid (H.keep [1])
            clear H
            go_wp2_with fail
            go_roundw
            case rel => exact ⟨j + 1, by omega, by go_num, by rw [haph.out]; exact H2.out⟩
            case measure => simp [RowKit.intOf]; omega
          · have hap : P ++ (R.take (j + 1)).filter (fcl key k) = P ++ (R.take j).filter (fcl key k) := by rw [htk, List.filter_append]; simp [hp]
            have haph := Lib.hid hap
            have hHh := Lib.hid H
            unfold fcl at hp
            clear e2 LX htk hx hap H hfl
            cases q1 : (x.key == key) with
            | true =>
              have q2 : (x.cls == (k : Int)) = false := by rw [q1] at hp; simpa using hp
              clear hp
              go_wp2_with fail
              go_roundw
              case rel => exact ⟨j + 1, by omega, by go_num, by rw [haph.out]; exact hHh.out⟩
              case measure => simp [RowKit.intOf]; omega
            | false =>
              clear hp
              go_wp2_with fail
              go_roundw
              case rel => exact ⟨j + 1, by omega, by go_num, by rw [haph.out]; exact hHh.out⟩
              case measure => simp [RowKit.intOf]; omega
        · obtain rfl : j = R.length := by omega
          have g2 : decide ((R.length : Int) < (R.length : Int)) = false := by simp
          rw [List.take_length, ← hnx.out] at H
          rw [List.take_length, ← hnx.out] at hfl2
          rw [List.take_length, ← hnx.out]
          have hHh := Lib.hid H
          clear H hfl hfl2
          go_wp2_with fail
          go_roundw
          case rel => exact ⟨k + 1, by omega, by go_num, hHh.out⟩
          case measure => simp [RowKit.intOf]; omega
    · obtain rfl : k = 3 := by omega
      have g1 : decide (((3 : Nat) : Int) < 3) = false := by simp
      obtain ⟨A3, c3, hvv, _⟩ := formM (H.own 0 rfl)
      subst hvv
      have O := H.own 0 rfl
      have T := H.t
      have Mi := mine_own H 0 rfl
      clear H hlt
      go_wp2_with fail
      go_ret
      exact ⟨_, rfl, O, T, fun q hq => by simpa using Mi q hq⟩
set_option maxHeartbeats 1000000 in
theorem rsum_is (w : World) (d : Nat) (room : Int) (lv : Value) (R : List It) (key : Int) (h : Got (rq d room lv R) w) (hn : R.length ≤ 100000) : Calls Try.prog 45 #[.pointer (some ⟨d, 0, none⟩), .int .i64 key] w fun e w' => e = .returned (.int .i64 (sumQ R key)) ∧ Turns [] w w' := by
  have O1 := Lib.hid (rof_is w d room lv R key h hn)
  have hol : (ofQ R key).length ≤ 1000000 := by
    rw [← prec_of]
    exact Nat.le_trans (prec_len R key 3) (by omega)
  unfold sumQ
  generalize ofQ R key = O at *
  clear h
  go_enter Try.func45, Try.ntmps45
  go_wp2_with fail
  go_at_call 41
  refine Calls.mono (O1.out) ?_
  rintro e w1 ⟨u, rfl, o, t1, _⟩
  obtain ⟨A, c, rfl, _⟩ := formM o
  have ord := Lib.hid o.reads
  clear o O1
  go_wp2_with fail
  go_loopw [6, 7] (fun v6 v7 wr => ∃ (k : Nat), k ≤ O.length ∧ v7 = .int .i64 k ∧ v6 = .int .i64 (sum ((O.take k).map It.cost)) ∧ Turns [] w1 wr) (fun _ v7 _ => O.length - (RowKit.intOf v7).toNat)
  case atStart => exact ⟨0, by omega, rfl, rfl, Turns.refl _ _⟩
  case round =>
    obtain ⟨k, hk, rfl, rfl, T⟩ := hrel
    by_cases hlt : k < O.length
    · have g1 : decide ((k : Int) < (O.length : Int)) = true := decide_eq_true (by omega)
      have g1b : decide (k < O.length) = true := decide_eq_true hlt
      obtain ⟨x, hx⟩ : ∃ x, O[k]? = some x := ⟨_, List.getElem?_eq_getElem hlt⟩
      obtain ⟨ad, c', hv, LX⟩ := icells_at ord.out hx
      injection hv with e1 e2 e3
      subst e1 e3
      have x2 := (LX.turns T).c
      have hnx : sum ((O.take (k + 1)).map It.cost) = two (sum ((O.take k).map It.cost)) x.cost := by rw [take_next hx, List.map_append]; exact sum_snoc _ _
      have hnxh := Lib.hid hnx
      generalize sum ((O.take k).map It.cost) = s at *
      have A5 := Lib.hid (two_is s x.cost wr)
      clear hx e2 LX hnx
      go_wp2_with fail
      go_at_call 32
      refine Calls.mono (A5.out) ?_
      rintro e w2 ⟨rfl, t2⟩
      go_wp2_with fail
      go_roundw
      case rel => exact ⟨k + 1, by omega, by go_num, by rw [hnxh.out], T.trans t2⟩
      case measure => simp [RowKit.intOf]; omega
    · obtain rfl : k = O.length := by omega
      have g1 : decide ((O.length : Int) < (O.length : Int)) = false := by simp
      rw [List.take_length]
      go_wp2_with fail
      go_ret
      exact ⟨rfl, t1.trans T⟩
end Go.Proofs.Ytoojemdehmabhaa.Qw
