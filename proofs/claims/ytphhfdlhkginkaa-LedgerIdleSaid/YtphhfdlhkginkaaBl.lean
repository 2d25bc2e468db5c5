/- slices.BinarySearchFunc of leases by their node; the ledger's lease, the document's out. -/
import Derived.Test.YtphhfdlhkginkaaBc
import Derived.WalkSpells
set_option linter.unusedVariables false
set_option linter.unusedSimpArgs false
set_option maxRecDepth 100000
namespace Go.Proofs.Ytphhfdlhkginkaa.Bl
open Go.RowKit Go.MapKept Hm Hs Hf Hx Hy Hv Fa Ff Ba Bc
def cm (a node : Int) : Int := wrap64 (a - node)
theorem cm_is (a node : Int) : cm a node = (a - node + 9223372036854775808) % 18446744073709551616 - 9223372036854775808 := by unfold cm wrap64; omega
theorem cmp_is (w : World) (a b node : Int) : Calls Try.prog 66 #[.agg #[.int .i64 a, .int .i64 b], .int .i64 node] w fun e w' => e = .returned (.int .i64 (cm a node)) ∧ Turns [] w w' := by
  have T0 := (Turns.refl [] w).alloc (.cells #[.int .i64 a, .int .i64 b] 76)
  unfold cm
  go_enter Try.func66, Try.ntmps66
  go_wp2_with fail
  go_ret
  exact ⟨rfl, T0⟩
theorem cm_nonneg {a node : Int} (h : 0 ≤ node) (h2 : node ≤ 9223372036854775807) (ha : 0 ≤ a ∧ a < 64) : cm a node = a - node := by rw [cm_is]; omega
theorem cm_neg {a node : Int} (h : node < 0) (h2 : -9223372036854775808 ≤ node) (ha : 0 ≤ a ∧ a < 64) : cm a node ≠ 0 := by rw [cm_is]; omega
set_option maxHeartbeats 4000000 in
theorem bs_is (w : World) (v : Value) (l : List (Int × Int)) (node : Int) (h : RdS 2 w v (lss l)) (hr : RiseL l) (hb : ∀ x ∈ l, 0 ≤ x.1 ∧ x.1 < 64) (hn : l.length ≤ 100000) (h0 : -9223372036854775808 ≤ node) (h9 : node ≤ 9223372036854775807) :
    Calls Try.prog 65 #[v, .int .i64 node, .func (.func 66) #[] #[]] w fun e w' => ∃ i : Nat, e = .returned (.tuple #[.int .i64 i, .bool (leaseR l node)]) ∧ (0 ≤ node → i = pln l node) ∧ Turns [] w w' := by
  obtain ⟨A, c, rfl, hlc, hcm⟩ := ls_form h
  have hh := Lib.hid h
  obtain ⟨X, hX⟩ : ∃ X : Ending → World → Prop, X = fun e w' => ∃ i : Nat, e = .returned (.tuple #[.int .i64 i, .bool (leaseR l node)]) ∧ (0 ≤ node → i = pln l node) ∧ Turns [] w w' := ⟨_, rfl⟩
  rw [← hX]
  have hXh : Hid (∀ w' (i : Nat) b, leaseR l node = b → (0 ≤ node → i = pln l node) → Turns [] w w' → X (.returned (.tuple #[.int .i64 i, .bool b])) w') := Lib.hid (fun w' i b h1 h2 h3 => by rw [hX]; exact ⟨i, by rw [h1], h2, h3⟩)
  have hrh := Lib.hid hr
  have hbh := Lib.hid hb
  have h0h := Lib.hid h0
  have h9h := Lib.hid h9
  clear h hX hr hb h0 h9
  go_enter Try.func65, Try.ntmps65
  go_wp2_with fail
  go_loopw [9, 10] (fun v9 v10 wr => ∃ lo hi : Nat, v9 = .int .i64 lo ∧ v10 = .int .i64 hi ∧ lo ≤ hi ∧ hi ≤ l.length ∧ Turns [] w wr ∧ Hid (0 ≤ node → (∀ t x, t < lo → l[t]? = some x → x.1 < node) ∧ (∀ t x, hi ≤ t → l[t]? = some x → node ≤ x.1))) (fun v9 v10 _ => (RowKit.intOf v10).toNat - (RowKit.intOf v9).toNat)
  case atStart => exact ⟨0, l.length, rfl, rfl, by omega, by omega, Turns.refl _ _, fun _ => ⟨fun t x ht => by omega, fun t x ht hx => by have := (List.getElem?_eq_some_iff.1 hx).1; omega⟩⟩
  case round =>
    obtain ⟨lo, hi, rfl, rfl, hlh, hin, T, I⟩ := hrel
    by_cases hlt : lo < hi
    · have g1 : decide ((lo : Int) < (hi : Int)) = true := decide_eq_true (by omega)
      have g1b : decide (lo < hi) = true := decide_eq_true hlt
      obtain ⟨m, hm⟩ : ∃ m, (lo + hi) / 2 = m := ⟨_, rfl⟩
      have hm2 : ((lo : Int) + (hi : Int)) / 2 = (m : Int) := by omega
      have hml : m < l.length := by omega
      have hml2 : (m : Int) < (l.length : Int) := by omega
      obtain ⟨x, hx⟩ : ∃ x, l[m]? = some x := ⟨_, List.getElem?_eq_getElem hml⟩
      obtain ⟨ad, c', hv, LX⟩ := ls_at hh.out hx
      injection hv with e1 e2 e3
      subst e1 e3
      obtain ⟨x0, x1⟩ := LX.turns T
      have hxb := Lib.hid (hbh.out x (List.mem_of_getElem? hx))
      have hxh := Lib.hid hx
      have hmh := Lib.hid hm
      have C1 := Lib.hid (cmp_is wr x.1 x.2 node)
      obtain ⟨z, hz⟩ : ∃ z, cm x.1 node = z := ⟨_, rfl⟩
      rw [hz] at C1
      have hzh := Lib.hid hz
      clear e2 LX hx hm hz
      by_cases hzn : z < 0
      · have g2 : decide (z < 0) = true := decide_eq_true hzn
        have I2 : Hid (0 ≤ node → (∀ (t : Nat) x, t < m + 1 → l[t]? = some x → x.1 < node) ∧ (∀ (t : Nat) x, hi ≤ t → l[t]? = some x → node ≤ x.1)) := Lib.hid (fun hpos => by
          refine ⟨fun t y ht hy => ?_, (I.out hpos).2⟩
          have hcx := cm_nonneg hpos h9h.out hxb.out
          rw [hzh.out] at hcx
          rcases Nat.lt_or_ge t m with h1 | h1
          · have := riseL_lt hrh.out hy hxh.out h1
            omega
          · obtain rfl : t = m := by omega
            have := Option.some.inj (hxh.out.symm.trans hy)
            subst this
            omega)
        clear hzn I
        go_wp2_with fail
        go_at_call 66
        refine Calls.mono (C1.out) ?_
        rintro e w2 ⟨rfl, t2⟩
        go_wp2_with fail
        go_roundw
        case rel => exact ⟨m + 1, hi, by go_num, rfl, by have := hmh.out; omega, hin, T.trans t2, I2⟩
        case measure => have := hmh.out; simp [RowKit.intOf]; omega
      · have g2 : decide (z < 0) = false := decide_eq_false hzn
        have I2 : Hid (0 ≤ node → (∀ (t : Nat) x, t < lo → l[t]? = some x → x.1 < node) ∧ (∀ (t : Nat) x, m ≤ t → l[t]? = some x → node ≤ x.1)) := Lib.hid (fun hpos => by
          refine ⟨(I.out hpos).1, fun t y ht hy => ?_⟩
          have hcx := cm_nonneg hpos h9h.out hxb.out
          rw [hzh.out] at hcx
          rcases Nat.lt_or_ge m t with h1 | h1
          · have := riseL_lt hrh.out hxh.out hy h1
            omega
          · obtain rfl : t = m := by omega
            have := Option.some.inj (hxh.out.symm.trans hy)
            subst this
            omega)
        clear hzn I
        go_wp2_with fail
        go_at_call 66
        refine Calls.mono (C1.out) ?_
        rintro e w2 ⟨rfl, t2⟩
        go_wp2_with fail
        go_roundw
        case rel => exact ⟨lo, m, rfl, rfl, by have := hmh.out; omega, by omega, T.trans t2, I2⟩
        case measure => have := hmh.out; simp [RowKit.intOf]; omega
    · obtain rfl : lo = hi := by omega
      have g1 : decide ((lo : Int) < (lo : Int)) = false := by simp
      have hpl : Hid (0 ≤ node → pln l node = lo) := Lib.hid (fun hpos => pln_is hin (I.out hpos).1 (fun x hx => (I.out hpos).2 lo x (Nat.le_refl _) hx))
      by_cases hl : lo < l.length
      · have g3 : decide ((lo : Int) < (l.length : Int)) = true := decide_eq_true (by omega)
        have g3b : decide (lo < l.length) = true := decide_eq_true hl
        obtain ⟨x, hx⟩ : ∃ x, l[lo]? = some x := ⟨_, List.getElem?_eq_getElem hl⟩
        obtain ⟨ad, c', hv, LX⟩ := ls_at hh.out hx
        injection hv with e1 e2 e3
        subst e1 e3
        obtain ⟨x0, x1⟩ := LX.turns T
        have C1 := Lib.hid (cmp_is wr x.1 x.2 node)
        have hxb := hbh.out x (List.mem_of_getElem? hx)
        have hle : leaseR l node = (cm x.1 node == 0) := by
          by_cases hpos : 0 ≤ node
          · rw [cm_nonneg hpos h9h.out hxb]
            unfold leaseR
            rw [hpl.out hpos, hx]
            show (x.1 == node) = (x.1 - node == 0)
            by_cases he : x.1 = node
            · have : x.1 - node = 0 := by omega
              rw [this, he]; simp
            · have h1 : (x.1 == node) = false := by simpa using he
              have h2 : (x.1 - node == 0) = false := by simp; omega
              rw [h1, h2]
          · have h1 := cm_neg (by omega) h0h.out hxb
            have h2 : (cm x.1 node == 0) = false := by simpa using h1
            rw [h2]
            exact leaseR_no (fun y hy => by have := hbh.out y hy; omega)
        have hleh := Lib.hid hle
        obtain ⟨z, hz⟩ : ∃ z, cm x.1 node = z := ⟨_, rfl⟩
        rw [hz] at C1 hleh
        clear e2 LX hx hz hxb hle
        go_wp2_with fail
        go_at_call 66
        refine Calls.mono (C1.out) ?_
        rintro e w2 ⟨rfl, t2⟩
        have hX := hXh.out w2 lo (z == 0) hleh.out (fun hpos => (hpl.out hpos).symm) (T.trans t2)
        go_wp2_with fail
        exact hX
      · obtain rfl : lo = l.length := by omega
        have g3 : decide ((l.length : Int) < (l.length : Int)) = false := by simp
        have hX := hXh.out wr l.length false (by
          by_cases hpos : 0 ≤ node
          · unfold leaseR
            rw [hpl.out hpos, List.getElem?_eq_none (by omega)]
          · exact leaseR_no (fun y hy => by have := hbh.out y hy; omega)) (fun hpos => (hpl.out hpos).symm) T
        go_wp2_with fail
        exact hX
theorem lease_is (w : World) (x : Rw) (r : Row) (node : Int) (h : RowIs w x r) (ho : RowOk r) (h0 : -9223372036854775808 ≤ node) (h9 : node ≤ 9223372036854775807) : Calls Try.prog 43 #[x.v, .int .i64 node] w fun e w' => ∃ i : Nat, e = .returned (.tuple #[.int .i64 i, .bool (leaseR r.out node)]) ∧ (0 ≤ node → i = pln r.out node) ∧ Turns [] w w' := by
  obtain ⟨A, c, rfl, hrd⟩ := row_form h
  have T0 := (Turns.refl [] w).alloc (.cells #[.int .i64 r.key, .int .i64 r.avail, .int .i64 r.mark, .slice A r.out.length c] 38)
  have B0 := Blk.new w #[.int .i64 r.key, .int .i64 r.avail, .int .i64 r.mark, .slice A r.out.length c] 38
  have hl := ho.len
  have hS := Lib.hid (bs_is _ _ r.out node (hrd.mv (fun a u => T0.old)) ho.out ho.node (by omega) h0 h9)
  have t3 : World.cell? (w.alloc (.cells #[.int .i64 r.key, .int .i64 r.avail, .int .i64 r.mark, .slice A r.out.length c] 38)) ⟨w.heap.size, 3, none⟩ = some _ := (B0).cell 3
  clear h hrd B0
  unfold Rw.v
  simp only
  go_enter Try.func43, Try.ntmps43
  go_wp2_with fail
  go_at_call 65
  refine Calls.mono (hS.out) ?_
  rintro e w1 ⟨i, rfl, hi, t1⟩
  have T := T0.trans t1
  have hih := Lib.hid hi
  clear hi
  go_wp2_with fail
  go_ret2
  exact ⟨i, rfl, hih.out, T⟩
/-- the document's: the place, or -1 -/
def ixL (l : List (Int × Int)) (node : Int) : Int := if leaseR l node then (pln l node : Int) else -1
theorem ixL_yes {l : List (Int × Int)} (h : RiseL l) {k : Nat} {x : Int × Int} (hr : l[k]? = some x) : ixL l x.1 = k := by
  obtain ⟨h1, h2⟩ := riseL_pl h hr
  unfold ixL; rw [h1, h2]; rfl
theorem ixL_no {l : List (Int × Int)} {node : Int} (h : ∀ (j : Nat) (x : Int × Int), l[j]? = some x → x.1 ≠ node) : ixL l node = -1 := by
  unfold ixL
  rw [leaseR_no (fun x hx => by obtain ⟨j, hj⟩ := List.getElem?_of_mem hx; exact h j x hj)]
  rfl
set_option maxHeartbeats 4000000 in
theorem out_is (w : World) (x : Rw) (r : Row) (node : Int) (h : RowIs w x r) (hri : RiseL r.out) (hn : r.out.length ≤ 100000) : Calls Try.prog 44 #[x.v, .int .i64 node] w fun e w' => e = .returned (.int .i64 (ixL r.out node)) ∧ Turns [] w w' := by
  obtain ⟨A, c, rfl, hrd⟩ := row_form h
  have hh := Lib.hid hrd
  have hrih := Lib.hid hri
  obtain ⟨p, hp⟩ : ∃ p, ixL r.out node = p := ⟨_, rfl⟩
  rw [hp]
  have hph := Lib.hid hp
  have B0 := Blk.new w #[.int .i64 r.key, .int .i64 r.avail, .int .i64 r.mark, .slice A r.out.length c] 38
  have T0 := (Turns.refl [] w).alloc (.cells #[.int .i64 r.key, .int .i64 r.avail, .int .i64 r.mark, .slice A r.out.length c] 38)
  have t3 : World.cell? (w.alloc (.cells #[.int .i64 r.key, .int .i64 r.avail, .int .i64 r.mark, .slice A r.out.length c] 38)) ⟨w.heap.size, 3, none⟩ = some _ := (B0).cell 3
  clear h hp B0 hri hrd
  have hr0 := Lib.hid (RdS.mv hh.out (fun a u => T0.old))
  generalize hw0 : w.alloc (.cells #[.int .i64 r.key, .int .i64 r.avail, .int .i64 r.mark, .slice A r.out.length c] 38) = w0 at *
  unfold Rw.v
  simp only
  go_enter Try.func44, Try.ntmps44
  go_wp2_with fail
  try rw [hw0]
  clear hw0
  go_loopw [5] (fun v5 wr => ∃ (k : Nat), k ≤ r.out.length ∧ v5 = .int .i64 k ∧ wr = w0 ∧ ∀ (j : Nat) (x : Int × Int), j < k → r.out[j]? = some x → x.1 ≠ node) (fun v5 _ => r.out.length - (RowKit.intOf v5).toNat)
  case atStart => exact ⟨0, by omega, rfl, rfl, fun j r hj => by omega⟩
  case round =>
    obtain ⟨k, hk, rfl, rfl, hno⟩ := hrel
    have hnoh := Lib.hid hno
    clear hno
    by_cases hlt : k < r.out.length
    · obtain ⟨x, hx⟩ : ∃ x, r.out[k]? = some x := ⟨_, List.getElem?_eq_getElem hlt⟩
      obtain ⟨ad, c', hv, LX⟩ := ls_at hr0.out hx
      injection hv with e1 e2 e3
      subst e1 e3
      obtain ⟨x0, x1⟩ := LX
      have g1 : decide ((k : Int) < (r.out.length : Int)) = true := decide_eq_true (by omega)
      have g1b : decide (k < r.out.length) = true := decide_eq_true hlt
      have hrh := Lib.hid hx
      clear e2 hx
      by_cases he : x.1 = node
      · subst he
        have g2 : (x.1 == x.1) = true := by simp
        have hX : p = (k : Int) := by rw [← hph.out]; exact ixL_yes hrih.out hrh.out
        subst hX
        go_wp2_with fail
        go_ret
        exact ⟨rfl, T0⟩
      · have g2 : (x.1 == node) = false := by simpa using he
        have hne := Lib.hid he
        clear he
        go_wp2_with fail
        go_roundw
        case rel => exact ⟨k + 1, by omega, by go_num, by first | rfl | trivial, fun j s hj hs => by
          rcases Nat.lt_or_ge j k with h1 | h1
          · exact hnoh.out j s h1 hs
          · obtain rfl : j = k := by omega
            have := Option.some.inj (hrh.out.symm.trans hs)
            subst this
            exact hne.out⟩
        case measure => simp [RowKit.intOf]; omega
    · obtain rfl : k = r.out.length := by omega
      have g1 : decide ((r.out.length : Int) < (r.out.length : Int)) = false := by simp
      have hX : p = -1 := by rw [← hph.out]; exact ixL_no fun j r hr => hnoh.out j r (List.getElem?_eq_some_iff.1 hr).1 hr
      subst hX
      go_wp2_with fail
      go_ret
      exact ⟨rfl, T0⟩
end Go.Proofs.Ytphhfdlhkginkaa.Bl
