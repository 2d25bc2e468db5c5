/- The walk of the document's Check of a configuration. -/
import Derived.Test.YtphhfdlhkginkaaCc
set_option linter.unusedVariables false
set_option linter.unusedSimpArgs false
set_option maxRecDepth 100000
namespace Go.Proofs.Ytphhfdlhkginkaa.Cd
open Go.RowKit Go.MapKept Hm Hs Hr Hb Hf Hv Cf Cn Sm Sat Mu Ca Cb Cc
theorem dspan_is (x lo : Int) (w : World) : Calls Try.prog 53 #[.int .i64 x, .int .i64 lo] w fun e w' => e = .returned (.bool (inSpan lo x)) ∧ Turns [] w w' := by
  by_cases h1 : x ≥ lo
  · have g1 := decide_eq_true h1
    have g1' : decide (x < lo) = false := decide_eq_false (by omega)
    by_cases h2 : x ≤ 2147483648
    · have g2 := decide_eq_true h2
      have g2' : decide (x > 2147483648) = false := decide_eq_false (by omega)
      rw [show inSpan lo x = true from by unfold inSpan; rw [g1', g2']; rfl]
      go_enter Try.func53, Try.ntmps53
      go_wp2_with fail
      go_ret
      exact ⟨rfl, Turns.refl _ _⟩
    · have g2 := decide_eq_false h2
      have g2' : decide (x > 2147483648) = true := decide_eq_true (by omega)
      rw [show inSpan lo x = false from by unfold inSpan; rw [g1', g2']; rfl]
      go_enter Try.func53, Try.ntmps53
      go_wp2_with fail
      go_ret
      exact ⟨rfl, Turns.refl _ _⟩
  · have g1 := decide_eq_false h1
    have g1' : decide (x < lo) = true := decide_eq_true (by omega)
    rw [show inSpan lo x = false from by unfold inSpan; rw [g1']; rfl]
    go_enter Try.func53, Try.ntmps53
    go_wp2_with fail
    go_ret
    exact ⟨rfl, Turns.refl _ _⟩
theorem all4 {a b c d : Int} (h : [a, b, c, d].all (inSpan 1) = false ∨ True) : [a, b, c, d].all (inSpan 1) = (inSpan 1 a && (inSpan 1 b && (inSpan 1 c && inSpan 1 d))) := by simp
set_option maxHeartbeats 8000000 in
theorem dcheck_is (w : World) (c : Cfg) (hr : RdS 2 w c.rv (rts c.rates)) : Calls Try.prog 29 #[c.v] w fun e w' => e = .returned (.int .i64 (errR c)) ∧ Turns [] w w' := by
  obtain ⟨E, hE⟩ : ∃ E, errR c = E := ⟨_, rfl⟩
  have k1 := err_1 (c := c)
  have k2 := err_2 (c := c)
  have k3 := err_3 (c := c)
  have k4 := err_4 (c := c)
  have k5 := err_5 (c := c)
  have k6 := err_6 (c := c)
  have kr : nodesB c.n = true → [c.skew].all (inSpan 0) = true → [c.ttl, c.valid, c.loss, c.hear].all (inSpan 1) = true → rooms c := fun a b d => ⟨a, b, d⟩
  rw [hE] at k1 k2 k3 k4 k5 k6 ⊢
  obtain ⟨n, skew, ttl, valid, loss, hear, keys, queue, rv, rates⟩ := c
  simp only at hr k1 k2 k3 k4 k5 k6 kr
  obtain ⟨A, cap, rfl, hcap, hcm⟩ := hr.form
  simp only [rts_len] at hr hcap
  unfold Cfg.v
  simp only [rts_len]
  have T0 := (Turns.refl [] w).alloc (.cells #[.int .i64 n, .int .i64 skew, .int .i64 ttl, .int .i64 valid, .int .i64 loss, .int .i64 hear, .int .i64 keys, .int .i64 queue, .slice A rates.length cap] 27)
  have hB := Blk.new w #[.int .i64 n, .int .i64 skew, .int .i64 ttl, .int .i64 valid, .int .i64 loss, .int .i64 hear, .int .i64 keys, .int .i64 queue, .slice A rates.length cap] 27
  have k1h : Hid _ := k1
  have k2h : Hid _ := k2
  have k3h : Hid _ := k3
  have k4h : Hid _ := k4
  have k5h : Hid _ := k5
  have k6h : Hid _ := k6
  have krh : Hid _ := kr
  have hrh : Hid _ := hr
  clear k1 k2 k3 k4 k5 k6 kr hE hr
  go_enter Try.func29, Try.ntmps29
  go_wp2_with fail
  go_at_call 52
  refine Calls.mono (rright_is n _) ?_
  rintro e w1 ⟨rfl, t1⟩
  have T1 := T0.trans t1
  replace hB := hB.turns t1 (by simp)
  clear T0 t1
  cases hn : nodesB n
  case false =>
    have e21 := k1h.out (by simpa using hn)
    clear hn hB k1h k2h k3h k4h k5h k6h krh hrh
    go_wp2_with fail
    go_ret
    exact ⟨by rw [e21]; rfl, T1⟩
  case true =>
  have hnh : Hid (nodesB n = true) := hn
  clear hn
  have d1 : w1.cell? ⟨w.heap.size, 1, none⟩ = some (.int .i64 skew) := hB.cell 1
  go_wp2_with fail
  go_at_call 53
  refine Calls.mono (dspan_is skew 0 _) ?_
  rintro e w2 ⟨rfl, t2⟩
  have T2 := T1.trans t2
  replace hB := hB.turns t2 (by simp)
  clear T1 t2 d1
  cases hs : inSpan 0 skew
  case false =>
    have e22 := k2h.out hnh.out (by simp [hs])
    clear hs hB k1h k2h k3h k4h k5h k6h krh hrh hnh
    go_wp2_with fail
    go_ret
    exact ⟨by rw [e22]; rfl, T2⟩
  case true =>
  have hsh : Hid ([skew].all (inSpan 0) = true) := by show [skew].all (inSpan 0) = true; simp [hs]
  clear hs
  have d2 : w2.cell? ⟨w.heap.size, 2, none⟩ = some (.int .i64 ttl) := hB.cell 2
  go_wp2_with fail
  go_at_call 53
  refine Calls.mono (dspan_is ttl 1 _) ?_
  rintro e w3 ⟨rfl, t3⟩
  have T3 := T2.trans t3
  replace hB := hB.turns t3 (by simp)
  clear T2 t3 d2
  cases hi2 : inSpan 1 ttl
  case false =>
    have e22 := k3h.out hnh.out hsh.out (by simp [hi2])
    clear hi2 hB k1h k2h k3h k4h k5h k6h krh hrh hnh hsh
    go_wp2_with fail
    go_ret
    exact ⟨by rw [e22]; rfl, T3⟩
  case true =>
  have hi2h : Hid (inSpan 1 ttl = true) := hi2
  clear hi2
  have d3 : w3.cell? ⟨w.heap.size, 3, none⟩ = some (.int .i64 valid) := hB.cell 3
  go_wp2_with fail
  go_at_call 53
  refine Calls.mono (dspan_is valid 1 _) ?_
  rintro e w4 ⟨rfl, t4⟩
  have T4 := T3.trans t4
  replace hB := hB.turns t4 (by simp)
  clear T3 t4 d3
  cases hi3 : inSpan 1 valid
  case false =>
    have e22 := k3h.out hnh.out hsh.out (by simp [hi3])
    clear hi3 hB k1h k2h k3h k4h k5h k6h krh hrh hnh hsh hi2h
    go_wp2_with fail
    go_ret
    exact ⟨by rw [e22]; rfl, T4⟩
  case true =>
  have hi3h : Hid (inSpan 1 valid = true) := hi3
  clear hi3
  have d4 : w4.cell? ⟨w.heap.size, 4, none⟩ = some (.int .i64 loss) := hB.cell 4
  go_wp2_with fail
  go_at_call 53
  refine Calls.mono (dspan_is loss 1 _) ?_
  rintro e w5 ⟨rfl, t5⟩
  have T5 := T4.trans t5
  replace hB := hB.turns t5 (by simp)
  clear T4 t5 d4
  cases hi4 : inSpan 1 loss
  case false =>
    have e22 := k3h.out hnh.out hsh.out (by simp [hi4])
    clear hi4 hB k1h k2h k3h k4h k5h k6h krh hrh hnh hsh hi2h hi3h
    go_wp2_with fail
    go_ret
    exact ⟨by rw [e22]; rfl, T5⟩
  case true =>
  have hi4h : Hid (inSpan 1 loss = true) := hi4
  clear hi4
  have d5 : w5.cell? ⟨w.heap.size, 5, none⟩ = some (.int .i64 hear) := hB.cell 5
  go_wp2_with fail
  go_at_call 53
  refine Calls.mono (dspan_is hear 1 _) ?_
  rintro e w6 ⟨rfl, t6⟩
  have T6 := T5.trans t6
  replace hB := hB.turns t6 (by simp)
  clear T5 t6 d5
  cases hi5 : inSpan 1 hear
  case false =>
    have e22 := k3h.out hnh.out hsh.out (by simp [hi5])
    clear hi5 hB k1h k2h k3h k4h k5h k6h krh hrh hnh hsh hi2h hi3h hi4h
    go_wp2_with fail
    go_ret
    exact ⟨by rw [e22]; rfl, T6⟩
  case true =>
  have hro := krh.out hnh.out hsh.out (by simp [hi2h.out, hi3h.out, hi4h.out, hi5])
  have hroh : Hid _ := hro
  clear hi5 hi2h hi3h hi4h hro k1h k2h k3h krh hnh hsh
  have d6 : w6.cell? ⟨w.heap.size, 6, none⟩ = some (.int .i64 keys) := hB.cell 6
  have d7 : w6.cell? ⟨w.heap.size, 7, none⟩ = some (.int .i64 queue) := hB.cell 7
  have d8 : w6.cell? ⟨w.heap.size, 8, none⟩ = some (.slice A rates.length cap) := hB.cell 8
  by_cases b1 : keys < 1
  · have g1 := decide_eq_true b1
    have e := k4h.out hroh.out (.inl b1)
    clear k4h k5h k6h hroh hrh b1
    go_wp2_with fail
    go_ret
    exact ⟨by rw [e]; rfl, T6⟩
  have g1 := decide_eq_false b1
  by_cases b2 : keys > 16
  · have g2 := decide_eq_true b2
    have e := k4h.out hroh.out (.inr (.inl b2))
    clear k4h k5h k6h hroh hrh b1 b2
    go_wp2_with fail
    go_ret
    exact ⟨by rw [e]; rfl, T6⟩
  have g2 := decide_eq_false b2
  by_cases b3 : queue < 0
  · have g3 := decide_eq_true b3
    have e := k4h.out hroh.out (.inr (.inr (.inl b3)))
    clear k4h k5h k6h hroh hrh b1 b2 b3
    go_wp2_with fail
    go_ret
    exact ⟨by rw [e]; rfl, T6⟩
  have g3 := decide_eq_false b3
  by_cases b4 : queue > 16
  · have g4 := decide_eq_true b4
    have e := k4h.out hroh.out (.inr (.inr (.inr b4)))
    clear k4h k5h k6h hroh hrh b1 b2 b3 b4
    go_wp2_with fail
    go_ret
    exact ⟨by rw [e]; rfl, T6⟩
  have g4 := decide_eq_false b4
  have hb : ¬ (keys < 1 ∨ keys > 16 ∨ queue < 0 ∨ queue > 16) := by omega
  obtain ⟨ok, hok⟩ : ∃ ok, (decide (1 ≤ rates.length) && decide (rates.length ≤ 8)) = ok := ⟨_, rfl⟩
  have e5 : ok = false → E = 24 := fun h => k5h.out hroh.out hb (by
    rw [← hok] at h
    simp at h
    omega)
  have e6 : ok = true → E = if rates.all goodR = false then 24 else 0 := fun h => k6h.out hroh.out hb (by
    rw [← hok] at h
    simp at h
    omega)
  have e5h : Hid _ := e5
  have e6h : Hid _ := e6
  have hokh : Hid _ := hok
  clear k4h k5h k6h hroh b1 b2 b3 b4 hb e5 e6 hok
  have hfin : ∀ v : Bool, v = (ok && rates.all goodR) → E = if v then 0 else 24 := fun v hv => by
    cases hk : ok with
    | false => rw [hv, hk, e5h.out hk]; rfl
    | true =>
      rw [hv, hk, e6h.out hk]
      cases rates.all goodR <;> rfl
  have hfinh : Hid _ := hfin
  clear hfin e5h e6h
  obtain ⟨a1, ha1⟩ : ∃ a, decide (1 ≤ rates.length) = a := ⟨_, rfl⟩
  obtain ⟨a2, ha2⟩ : ∃ a, decide (rates.length ≤ 8) = a := ⟨_, rfl⟩
  have hoka : ok = (a1 && a2) := by rw [← hokh.out, ha1, ha2]
  have g5 : decide ((rates.length : Int) ≥ 1) = a1 := by rw [← ha1]; congr 1; exact propext ⟨fun h => by omega, fun h => by omega⟩
  have g6 : decide ((rates.length : Int) ≤ 8) = a2 := by rw [← ha2]; congr 1; exact propext ⟨fun h => by omega, fun h => by omega⟩
  subst hoka
  clear ha1 ha2 hokh
  have hBh : Hid _ := hB
  clear hB
  cases a1 <;> cases a2
  all_goals
    go_wp2_with fail
    go_loopw [5, 6] (fun v5 v6 wr => ∃ (k : Nat) (cur : Bool), k ≤ rates.length ∧ v6 = .int .i64 k ∧ v5 = .bool cur ∧ (∀ z : Bool, z = (rates.drop k).all goodR → E = if cur && z then 0 else 24) ∧ Turns [] w6 wr) (fun _ v6 _ => rates.length - (intOf v6).toNat)
    case atStart => exact ⟨0, _, Nat.zero_le _, rfl, rfl, fun z hz => hfinh.out _ (by rw [hz]; rfl), Turns.refl _ _⟩
    case round =>
      obtain ⟨k, cur, hk, rfl, rfl, hcur, T⟩ := hrel
      have hBr := Blk.turns hBh.out T (by simp)
      have j8 : wr.cell? ⟨w.heap.size, 8, none⟩ = some (.slice A rates.length cap) := hBr.cell 8
      clear hfinh d8 d6 d7
      by_cases hlt : k < rates.length
      · have g7 : decide ((k : Int) < (rates.length : Int)) = true := by simp; omega
        obtain ⟨x, hx⟩ : ∃ x, rates[k]? = some x := ⟨_, List.getElem?_eq_getElem hlt⟩
        obtain ⟨ad, c', hv, _, hcell⟩ := RdS.at_ hrh.out (j := k) (r := [.int .i64 x.1, .int .i64 x.2]) (by unfold rts; rw [List.getElem?_map, hx]; rfl)
        injection hv with e1 e2 e3
        subst e1 e3
        clear e2
        have i0 := T.old (T6.old (hcell 0 _ rfl))
        have i1 := T.old (T6.old (hcell 1 _ rfl))
        rw [Nat.add_zero] at i0
        rw [add_field _ _ _ (by omega)] at i1
        have hdr : rates.drop k = x :: rates.drop (k + 1) := by rw [List.drop_eq_getElem?_toList_append, hx]; rfl
        have hnext : ∀ c2 : Bool, c2 = (cur && (inSpan 0 x.1 && inSpan 0 x.2)) → ∀ z : Bool, z = (rates.drop (k + 1)).all goodR → E = if c2 && z then 0 else 24 := fun c2 hc2 z hz => by
          have := hcur ((inSpan 0 x.1 && inSpan 0 x.2) && z) (by rw [hdr, List.all_cons, hz]; unfold goodR; simp)
          rw [hc2, Bool.and_assoc]
          exact this
        have hd1 := dspan_is x.1 0
        have hd2 := dspan_is x.2 0
        have hnexth : Hid _ := hnext
        clear hcur hnext hcell hdr hx hrh
        cases h1 : inSpan 0 x.1
        · rw [h1] at hd1
          have hd1h : Hid _ := hd1
          clear hd1 hd2
          cases cur
          all_goals
            go_wp2_with fail
            go_at_call 53
            refine Calls.mono (hd1h.out _) ?_
            rintro e w7 ⟨rfl, t7⟩
            go_wp2_with fail
            go_roundw
            case rel => exact ⟨k + 1, false, by omega, by go_num, rfl, hnexth.out false (by simp [h1]), T.trans t7⟩
            case measure => simp [intOf]; omega
        · rw [h1] at hd1
          have hd1h : Hid _ := hd1
          have h1h : Hid (inSpan 0 x.1 = true) := h1
          clear hd1 h1
          cases h2 : inSpan 0 x.2
          all_goals
            rw [h2] at hd2
            have hd2h : Hid _ := hd2
            clear hd2
            have h2h : Hid (inSpan 0 x.2 = _) := h2
            clear h2
            cases cur
            all_goals
              go_wp2_with fail
              go_at_call 53
              refine Calls.mono (hd1h.out _) ?_
              rintro e w7 ⟨rfl, t7⟩
              have q0 := t7.old i0
              have q1 := t7.old i1
              have q8 := t7.old j8
              go_wp2_with fail
              go_at_call 53
              refine Calls.mono (hd2h.out _) ?_
              rintro e w8 ⟨rfl, t8⟩
              go_wp2_with fail
              go_roundw
              case rel => exact ⟨k + 1, _, by omega, by go_num, rfl, hnexth.out _ (by simp [h1h.out, h2h.out]), (T.trans t7).trans t8⟩
              case measure => simp [intOf]; omega
      · obtain rfl : k = rates.length := by omega
        have g7 : decide ((rates.length : Int) < (rates.length : Int)) = false := by simp
        have hE2 := hcur true (by rw [List.drop_length]; rfl)
        clear hcur hrh
        cases cur
        · have hE3 : E = 24 := hE2
          clear hE2
          go_wp2_with fail
          go_ret
          exact ⟨by rw [hE3]; rfl, T6.trans T⟩
        · have hE3 : E = 0 := hE2
          clear hE2
          go_wp2_with fail
          go_ret
          exact ⟨by rw [hE3]; rfl, T6.trans T⟩
end Go.Proofs.Ytphhfdlhkginkaa.Cd
