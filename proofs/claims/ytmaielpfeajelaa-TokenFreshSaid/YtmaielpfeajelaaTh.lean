/- The document's Token, Fresh, Newer; SameToken (tokens with an empty table). -/
import Derived.Test.YtmaielpfeajelaaTd
import Derived.Test.YtmaielpfeajelaaRs
set_option linter.unusedVariables false
set_option linter.unusedSimpArgs false
set_option maxRecDepth 100000
namespace Go.Proofs.Ytmaielpfeajelaa.Th
open Go.RowKit Go.MapKept Go.Shelf Hm Hs Hf Hg Hv Hx Hy Sm Sat Ya Ta Tb Tc Td Rg Ss Re Rf Rs
theorem rtable0_is (m : Int) (w : World) : Calls Try.prog 54 #[.agg #[.int .i64 m, .slice none 0 0]] w fun e w' => e = .returned (.bool (inB m 0 4611686018427387904)) ∧ Turns [] w w' := by
  have I := Lib.hid (fun w => rin_is m 0 4611686018427387904 w)
  have T0 := (Turns.refl [] w).alloc (.cells #[.int .i64 m, .slice none 0 0] 36)
  have b0 := Blk.new w #[.int .i64 m, .slice none 0 0] 36
  have c0 : World.cell? (w.alloc (.cells #[.int .i64 m, .slice none 0 0] 36)) ⟨w.heap.size, 0, none⟩ = some _ := (b0).cell 0
  have c1 : World.cell? (w.alloc (.cells #[.int .i64 m, .slice none 0 0] 36)) ⟨w.heap.size, 1, none⟩ = some _ := (b0).cell 1
  generalize inB m 0 4611686018427387904 = q at *
  go_enter Try.func54, Try.ntmps54
  go_wp2_with fail
  go_at_call 53
  refine Calls.mono (I.out _) ?_
  rintro e w1 ⟨rfl, t1⟩
  have d1 := t1.old c1
  have T1 := T0.trans t1
  clear c0 c1 t1
  cases q with
  | false =>
    go_wp2_with fail
    go_ret
    exact ⟨rfl, T1⟩
  | true =>
    go_wp2_with fail
    go_loopw [4] (fun v4 wr => v4 = .int .i64 0 ∧ wr = w1) (fun v4 _ => 0)
    case atStart => exact ⟨rfl, rfl⟩
    case round =>
      obtain ⟨rfl, rfl⟩ := hrel
      go_wp2_with fail
      go_ret
      exact ⟨rfl, T1⟩
theorem any_all (l : List Int) : (!l.any offB) = l.all (fun x => inB x (-1) 4611686018427387903) := by
  induction l with
  | nil => rfl
  | cons x l ih => rw [List.any_cons, List.all_cons, ← ih]; unfold offB; simp
theorem all_next {p : Int → Bool} {l : List Int} {k : Nat} {x : Int} (h : l[k]? = some x) : (l.take (k + 1)).all p = ((l.take k).all p && p x) := by
  rw [Ta.take_next h, List.all_append]; simp
set_option maxHeartbeats 2000000 in
theorem rtoken0_is (g s m : Int) (sv : Value) (l : List Int) (w : World) (h : RdS 1 w sv (ins l)) (hn : l.length ≤ 100000) : Calls Try.prog 34 #[tk g s sv m (.slice none 0 0)] w fun e w' => e = .returned (.bool (tokB g s l m)) ∧ Turns [] w w' := by
  have T0 := (Turns.refl [] w).alloc (.cells #[.int .i64 g, .int .i64 s, sv, .int .i64 m, .slice none 0 0] 38)
  have b0 := Blk.new w #[.int .i64 g, .int .i64 s, sv, .int .i64 m, .slice none 0 0] 38
  have hrd := h.mv (fun a u => T0.old)
  have G := Lib.hid (fun w => rin_is g 1 1099511627776 w)
  have S := Lib.hid (fun w => rin_is s 0 1099511627776 w)
  have L := Lib.hid (fun w => rin_is l.length 1 64 w)
  have M := Lib.hid (fun w => rtable0_is m w)
  obtain ⟨Q, hQ⟩ : ∃ Q, tokB g s l m = Q := ⟨_, rfl⟩
  rw [hQ]
  unfold tokB at hQ
  rw [any_all] at hQ
  obtain ⟨A, c, rfl, _⟩ := h.form
  rw [ins_len] at *
  have c0 : World.cell? (w.alloc (.cells #[.int .i64 g, .int .i64 s, .slice A l.length c, .int .i64 m, .slice none 0 0] 38)) ⟨w.heap.size, 0, none⟩ = some _ := (b0).cell 0
  have c1 : World.cell? (w.alloc (.cells #[.int .i64 g, .int .i64 s, .slice A l.length c, .int .i64 m, .slice none 0 0] 38)) ⟨w.heap.size, 1, none⟩ = some _ := (b0).cell 1
  have c2 : World.cell? (w.alloc (.cells #[.int .i64 g, .int .i64 s, .slice A l.length c, .int .i64 m, .slice none 0 0] 38)) ⟨w.heap.size, 2, none⟩ = some _ := (b0).cell 2
  have c3 : World.cell? (w.alloc (.cells #[.int .i64 g, .int .i64 s, .slice A l.length c, .int .i64 m, .slice none 0 0] 38)) ⟨w.heap.size, 3, none⟩ = some _ := (b0).cell 3
  have c4 : World.cell? (w.alloc (.cells #[.int .i64 g, .int .i64 s, .slice A l.length c, .int .i64 m, .slice none 0 0] 38)) ⟨w.heap.size, 4, none⟩ = some _ := (b0).cell 4
  generalize inB g 1 1099511627776 = q1 at *
  generalize inB s 0 1099511627776 = q2 at *
  generalize inB l.length 1 64 = q3 at *
  generalize inB m 0 4611686018427387904 = q5 at *
  have hrdh := Lib.hid hrd
  have hQh := Lib.hid hQ
  clear h b0 hrd hQ
  generalize hw0 : w.alloc (.cells #[.int .i64 g, .int .i64 s, .slice A l.length c, .int .i64 m, .slice none 0 0] 38) = w0 at *
  go_enter Try.func34, Try.ntmps34
  go_wp2_with fail
  try rw [hw0]
  clear hw0
  go_at_call 53
  refine Calls.mono (G.out _) ?_
  rintro e w2 ⟨rfl, t2⟩
  have e1 := t2.old c1
  have e2 := t2.old c2
  cases q1 with
  | false =>
    go_wp2_with fail
    go_loopw [3, 4] (fun v3 v4 wr => ∃ (k : Nat), k ≤ l.length ∧ v4 = .int .i64 k ∧ v3 = .bool (false && (l.take k).all (fun x => inB x (-1) 4611686018427387903)) ∧ Turns [] w0 wr) (fun _ v4 _ => l.length - (RowKit.intOf v4).toNat)
    case atStart => exact ⟨0, by omega, rfl, rfl, t2⟩
    case round =>
      obtain ⟨k, hk, rfl, rfl, T⟩ := hrel
      have d2 := T.old c2
      have d3 := T.old c3
      have d4 := T.old c4
      by_cases hlt : k < l.length
      · have g7 : decide ((k : Int) < (l.length : Int)) = true := decide_eq_true (by omega)
        have g7b : decide (k < l.length) = true := decide_eq_true hlt
        obtain ⟨x, hx⟩ : ∃ x, l[k]? = some x := ⟨_, List.getElem?_eq_getElem hlt⟩
        obtain ⟨ad, c', hv, Lc⟩ := Ta.icell hrdh.out hx
        injection hv with e1 e2 e3
        subst e1 e3
        have i0 := T.old Lc
        have hnx := Lib.hid (all_next (p := fun x => inB x (-1) 4611686018427387903) hx)
        have I := Lib.hid (fun w => rin_is x (-1) 4611686018427387903 w)
        generalize (l.take k).all (fun x => inB x (-1) 4611686018427387903) = al at *
        generalize inB x (-1) 4611686018427387903 = qx at *
        clear hx e2 Lc
        go_wp2_with fail
        go_at_call 53
        refine Calls.mono (I.out _) ?_
        rintro e w2 ⟨rfl, t2⟩
        cases al with
        | true =>
          go_wp2_with fail
          go_roundw
          case rel => exact ⟨k + 1, by omega, by go_num, by rw [hnx.out]; simp, T.trans t2⟩
          case measure => simp [RowKit.intOf]; omega
        | false =>
          go_wp2_with fail
          go_roundw
          case rel => exact ⟨k + 1, by omega, by go_num, by rw [hnx.out]; simp, T.trans t2⟩
          case measure => simp [RowKit.intOf]; omega
      · obtain rfl : k = l.length := by omega
        have g7 : decide ((l.length : Int) < (l.length : Int)) = false := by simp
        rw [List.take_length]
        have hQ := hQh.out
        generalize l.all (fun x => inB x (-1) 4611686018427387903) = al at *
        go_wp2_with fail
        go_at_call 54
        refine Calls.mono (M.out _) ?_
        rintro e w2 ⟨rfl, t2⟩
        have TT := T0.trans (T.trans t2)
        subst hQ
        cases al with
        | true =>
          go_wp2_with fail
          go_ret
          exact ⟨by simp, TT⟩
        | false =>
          go_wp2_with fail
          go_ret
          exact ⟨by simp, TT⟩

  | true =>
    go_wp2_with fail
    go_at_call 53
    refine Calls.mono (S.out _) ?_
    rintro e w3 ⟨rfl, t3⟩
    have f2 := t3.old e2
    cases q2 with
    | false =>
      go_wp2_with fail
      go_loopw [3, 4] (fun v3 v4 wr => ∃ (k : Nat), k ≤ l.length ∧ v4 = .int .i64 k ∧ v3 = .bool (false && (l.take k).all (fun x => inB x (-1) 4611686018427387903)) ∧ Turns [] w0 wr) (fun _ v4 _ => l.length - (RowKit.intOf v4).toNat)
      case atStart => exact ⟨0, by omega, rfl, rfl, t2.trans t3⟩
      case round =>
        obtain ⟨k, hk, rfl, rfl, T⟩ := hrel
        have d2 := T.old c2
        have d3 := T.old c3
        have d4 := T.old c4
        by_cases hlt : k < l.length
        · have g7 : decide ((k : Int) < (l.length : Int)) = true := decide_eq_true (by omega)
          have g7b : decide (k < l.length) = true := decide_eq_true hlt
          obtain ⟨x, hx⟩ : ∃ x, l[k]? = some x := ⟨_, List.getElem?_eq_getElem hlt⟩
          obtain ⟨ad, c', hv, Lc⟩ := Ta.icell hrdh.out hx
          injection hv with e1 e2 e3
          subst e1 e3
          have i0 := T.old Lc
          have hnx := Lib.hid (all_next (p := fun x => inB x (-1) 4611686018427387903) hx)
          have I := Lib.hid (fun w => rin_is x (-1) 4611686018427387903 w)
          generalize (l.take k).all (fun x => inB x (-1) 4611686018427387903) = al at *
          generalize inB x (-1) 4611686018427387903 = qx at *
          clear hx e2 Lc
          go_wp2_with fail
          go_at_call 53
          refine Calls.mono (I.out _) ?_
          rintro e w2 ⟨rfl, t2⟩
          cases al with
          | true =>
            go_wp2_with fail
            go_roundw
            case rel => exact ⟨k + 1, by omega, by go_num, by rw [hnx.out]; simp, T.trans t2⟩
            case measure => simp [RowKit.intOf]; omega
          | false =>
            go_wp2_with fail
            go_roundw
            case rel => exact ⟨k + 1, by omega, by go_num, by rw [hnx.out]; simp, T.trans t2⟩
            case measure => simp [RowKit.intOf]; omega
        · obtain rfl : k = l.length := by omega
          have g7 : decide ((l.length : Int) < (l.length : Int)) = false := by simp
          rw [List.take_length]
          have hQ := hQh.out
          generalize l.all (fun x => inB x (-1) 4611686018427387903) = al at *
          go_wp2_with fail
          go_at_call 54
          refine Calls.mono (M.out _) ?_
          rintro e w2 ⟨rfl, t2⟩
          have TT := T0.trans (T.trans t2)
          subst hQ
          cases al with
          | true =>
            go_wp2_with fail
            go_ret
            exact ⟨by simp, TT⟩
          | false =>
            go_wp2_with fail
            go_ret
            exact ⟨by simp, TT⟩

    | true =>
      go_wp2_with fail
      go_at_call 53
      refine Calls.mono (L.out _) ?_
      rintro e w4 ⟨rfl, t4⟩
      cases q3 with
      | false =>
        go_wp2_with fail
        go_loopw [3, 4] (fun v3 v4 wr => ∃ (k : Nat), k ≤ l.length ∧ v4 = .int .i64 k ∧ v3 = .bool (false && (l.take k).all (fun x => inB x (-1) 4611686018427387903)) ∧ Turns [] w0 wr) (fun _ v4 _ => l.length - (RowKit.intOf v4).toNat)
        case atStart => exact ⟨0, by omega, rfl, rfl, (t2.trans t3).trans t4⟩
        case round =>
          obtain ⟨k, hk, rfl, rfl, T⟩ := hrel
          have d2 := T.old c2
          have d3 := T.old c3
          have d4 := T.old c4
          by_cases hlt : k < l.length
          · have g7 : decide ((k : Int) < (l.length : Int)) = true := decide_eq_true (by omega)
            have g7b : decide (k < l.length) = true := decide_eq_true hlt
            obtain ⟨x, hx⟩ : ∃ x, l[k]? = some x := ⟨_, List.getElem?_eq_getElem hlt⟩
            obtain ⟨ad, c', hv, Lc⟩ := Ta.icell hrdh.out hx
            injection hv with e1 e2 e3
            subst e1 e3
            have i0 := T.old Lc
            have hnx := Lib.hid (all_next (p := fun x => inB x (-1) 4611686018427387903) hx)
            have I := Lib.hid (fun w => rin_is x (-1) 4611686018427387903 w)
            generalize (l.take k).all (fun x => inB x (-1) 4611686018427387903) = al at *
            generalize inB x (-1) 4611686018427387903 = qx at *
            clear hx e2 Lc
            go_wp2_with fail
            go_at_call 53
            refine Calls.mono (I.out _) ?_
            rintro e w2 ⟨rfl, t2⟩
            cases al with
            | true =>
              go_wp2_with fail
              go_roundw
              case rel => exact ⟨k + 1, by omega, by go_num, by rw [hnx.out]; simp, T.trans t2⟩
              case measure => simp [RowKit.intOf]; omega
            | false =>
              go_wp2_with fail
              go_roundw
              case rel => exact ⟨k + 1, by omega, by go_num, by rw [hnx.out]; simp, T.trans t2⟩
              case measure => simp [RowKit.intOf]; omega
          · obtain rfl : k = l.length := by omega
            have g7 : decide ((l.length : Int) < (l.length : Int)) = false := by simp
            rw [List.take_length]
            have hQ := hQh.out
            generalize l.all (fun x => inB x (-1) 4611686018427387903) = al at *
            go_wp2_with fail
            go_at_call 54
            refine Calls.mono (M.out _) ?_
            rintro e w2 ⟨rfl, t2⟩
            have TT := T0.trans (T.trans t2)
            subst hQ
            cases al with
            | true =>
              go_wp2_with fail
              go_ret
              exact ⟨by simp, TT⟩
            | false =>
              go_wp2_with fail
              go_ret
              exact ⟨by simp, TT⟩

      | true =>
        go_wp2_with fail
        go_loopw [3, 4] (fun v3 v4 wr => ∃ (k : Nat), k ≤ l.length ∧ v4 = .int .i64 k ∧ v3 = .bool (true && (l.take k).all (fun x => inB x (-1) 4611686018427387903)) ∧ Turns [] w0 wr) (fun _ v4 _ => l.length - (RowKit.intOf v4).toNat)
        case atStart => exact ⟨0, by omega, rfl, rfl, (t2.trans t3).trans t4⟩
        case round =>
          obtain ⟨k, hk, rfl, rfl, T⟩ := hrel
          have d2 := T.old c2
          have d3 := T.old c3
          have d4 := T.old c4
          by_cases hlt : k < l.length
          · have g7 : decide ((k : Int) < (l.length : Int)) = true := decide_eq_true (by omega)
            have g7b : decide (k < l.length) = true := decide_eq_true hlt
            obtain ⟨x, hx⟩ : ∃ x, l[k]? = some x := ⟨_, List.getElem?_eq_getElem hlt⟩
            obtain ⟨ad, c', hv, Lc⟩ := Ta.icell hrdh.out hx
            injection hv with e1 e2 e3
            subst e1 e3
            have i0 := T.old Lc
            have hnx := Lib.hid (all_next (p := fun x => inB x (-1) 4611686018427387903) hx)
            have I := Lib.hid (fun w => rin_is x (-1) 4611686018427387903 w)
            generalize (l.take k).all (fun x => inB x (-1) 4611686018427387903) = al at *
            generalize inB x (-1) 4611686018427387903 = qx at *
            clear hx e2 Lc
            go_wp2_with fail
            go_at_call 53
            refine Calls.mono (I.out _) ?_
            rintro e w2 ⟨rfl, t2⟩
            cases al with
            | true =>
              go_wp2_with fail
              go_roundw
              case rel => exact ⟨k + 1, by omega, by go_num, by rw [hnx.out]; simp, T.trans t2⟩
              case measure => simp [RowKit.intOf]; omega
            | false =>
              go_wp2_with fail
              go_roundw
              case rel => exact ⟨k + 1, by omega, by go_num, by rw [hnx.out]; simp, T.trans t2⟩
              case measure => simp [RowKit.intOf]; omega
          · obtain rfl : k = l.length := by omega
            have g7 : decide ((l.length : Int) < (l.length : Int)) = false := by simp
            rw [List.take_length]
            have hQ := hQh.out
            generalize l.all (fun x => inB x (-1) 4611686018427387903) = al at *
            go_wp2_with fail
            go_at_call 54
            refine Calls.mono (M.out _) ?_
            rintro e w2 ⟨rfl, t2⟩
            have TT := T0.trans (T.trans t2)
            subst hQ
            cases al with
            | true =>
              go_wp2_with fail
              go_ret
              exact ⟨by simp, TT⟩
            | false =>
              go_wp2_with fail
              go_ret
              exact ⟨by simp, TT⟩

end Go.Proofs.Ytmaielpfeajelaa.Th
