/- TokenMajority. -/
import Derived.Test.YtmaielpfeajelaaTe
import Derived.Test.YtmaielpfeajelaaHa
set_option linter.unusedVariables false
set_option linter.unusedSimpArgs false
set_option maxRecDepth 100000
namespace Go.Proofs.Ytmaielpfeajelaa.Tf
open Go.RowKit Go.MapKept Go.ChangeShapes Go.WideShapes Go.Shelf Hm Hs Hc Hd Hf Hg Ho Hn Ha Hv Hx Hy Sm Sat Ya Ta Tb Tc Td Te Rg Ss Re Rf
def okI (t x : Int) : Bool := decide (x ≥ 0) && decide (x ≥ t)
def cntK (l : List Int) (t : Int) : Nat → Nat
  | 0 => 0
  | k + 1 => if okI t (l.getD k 0) then cntK l t k + 1 else cntK l t k
def anyK (l : List Int) (t : Int) (S : Nat) : Nat → Bool
  | 0 => false
  | k + 1 => anyK l t S k || (okI t (l.getD k 0) && bit S k)
theorem cntK_le (l : List Int) (t : Int) : ∀ k, cntK l t k ≤ k
  | 0 => Nat.le_refl _
  | k + 1 => by have := cntK_le l t k; unfold cntK; split <;> omega
theorem cntK_filter (l : List Int) (t : Int) : ∀ k, k ≤ l.length → cntK l t k = ((l.take k).filter (okI t)).length
  | 0, _ => by simp [cntK]
  | k + 1, h => by
    have ih := cntK_filter l t k (by omega)
    have hx : l[k]? = some (l.getD k 0) := by rw [List.getD_eq_getElem?_getD, List.getElem?_eq_getElem (by omega)]; rfl
    have e : cntK l t (k + 1) = if okI t (l.getD k 0) then cntK l t k + 1 else cntK l t k := rfl
    rw [take_next hx, List.filter_append, List.length_append, ← ih, e]
    generalize l.getD k 0 = x
    cases h : okI t x <;> simp [h]
theorem meetK (l : List Int) (t : Int) (S : Nat) : ∀ k, anyK l t S k = false → cntK l t k + ones k S ≤ k
  | 0, _ => by simp [cntK, ones]
  | k + 1, h => by
    have e1 : cntK l t (k + 1) = if okI t (l.getD k 0) then cntK l t k + 1 else cntK l t k := rfl
    have e2 : anyK l t S (k + 1) = (anyK l t S k || (okI t (l.getD k 0) && bit S k)) := rfl
    rw [e2, Bool.or_eq_false_iff] at h
    have ih := meetK l t S k h.1
    rw [ones_bit, e1]
    have h2 := h.2
    generalize okI t (l.getD k 0) = o at *
    generalize bit S k = q at *
    cases o <;> cases q <;> simp at h2 ⊢ <;> omega
theorem least_rest (l : List Int) (t : Int) : least (rest l) t = cntK l t l.length := by
  rw [cntK_filter _ _ _ (Nat.le_refl _), List.take_length]
  unfold least rest
  rw [List.filter_filter]
  congr 1
  apply List.filter_congr
  intro x _
  unfold okI neg
  by_cases h : x < 0
  · rw [decide_eq_true h, decide_eq_false (show ¬ x ≥ 0 by omega)]; simp
  · rw [decide_eq_false h, decide_eq_true (show x ≥ 0 by omega)]; simp
theorem least_mono {l : List Int} {x t : Int} (h : t ≤ x) : least l x ≤ least l t := by
  rcases Int.lt_or_eq_of_le h with h1 | h1
  · have := more_anti (l := l) h1
    have := least_eq l t
    omega
  · rw [h1]; exact Nat.le_refl _
theorem valid_doc {l : List Int} {now span : Int} (hn : 0 ≤ now ∧ now ≤ 1099511627776) (hs : 0 ≤ span ∧ span ≤ 1099511627776) (hl : ∀ x ∈ l, -1 ≤ x ∧ x ≤ 1099511627776) :
    decide (fit now ≤ untilV l span) = decide (l.length / 2 + 1 ≤ cntK l (now - span) l.length) := by
  rw [decide_eq_decide, ← least_rest]
  unfold untilV
  have hf : fit now = now := fit_id hn.1 (by omega)
  rw [hf]
  by_cases hk : l.length / 2 + 1 ≤ (rest l).length
  · rw [if_pos hk]
    obtain ⟨h1, h2, h3⟩ := nth_ok (l := rest l) (m := l.length / 2 + 1) (by omega) hk
    generalize nthV (rest l) (l.length / 2 + 1) = x at *
    have hx := hl x (List.mem_filter.1 h1).1
    have hx0 : 0 ≤ x := by have := (List.mem_filter.1 h1).2; unfold neg at this; simp at this; exact this
    have ht : two x span = x + span := by unfold two; rw [fit_id hx0 (by omega), fit_id hs.1 (by omega)]; omega
    rw [ht]
    constructor
    · intro h
      have := least_mono (l := rest l) (show now - span ≤ x by omega)
      omega
    · intro h
      by_cases h4 : now - span ≤ x
      · omega
      · have := more_anti (l := rest l) (show x < now - span by omega)
        omega
  · rw [if_neg hk]
    constructor
    · intro h; omega
    · intro h
      have := least_le (rest l) (now - span)
      omega
set_option maxHeartbeats 4000000 in
theorem majority_law (w : World) (v : Value) (l : List Int) (now span : Int) (S : Nat) (hS : S < 18446744073709551616) (hl : RdS 1 w v (ins l)) :
    Calls Try.prog 6 #[v, .agg #[.int .i64 now, .int .i64 span], .int .u64 S] w fun e w' => e = .returned (.bool true) ∧ Turns [] w w' := by
  have T0 := (Turns.refl [] w).alloc (.cells #[.int .i64 now, .int .i64 span] 32)
  have hlh := Lib.hid hl
  obtain ⟨A, c, rfl, _⟩ := hl.form
  rw [ins_len] at hlh ⊢
  obtain ⟨X, hX⟩ : ∃ X : Ending → World → Prop, X = fun e w' => e = .returned (.bool true) ∧ Turns [] w w' := ⟨_, rfl⟩
  rw [← hX]
  have hXh : Hid (∀ w', Turns [] w w' → X (.returned (.bool true)) w') := Lib.hid (fun w' h => by rw [hX]; exact ⟨rfl, h⟩)
  clear hX hl
  by_cases hall : (1 ≤ l.length ∧ l.length ≤ 64) ∧ (0 ≤ now ∧ now ≤ 1099511627776) ∧ (0 ≤ span ∧ span ≤ 1099511627776)
  · obtain ⟨hN, hn, hs⟩ := hall
    have g1 : decide ((l.length : Int) < 1) = false := decide_eq_false (by omega)
    have g2 : decide ((l.length : Int) > 64) = false := decide_eq_false (by omega)
    have g3 : decide (now < 0) = false := decide_eq_false (by omega)
    have g4 : decide (now > 1099511627776) = false := decide_eq_false (by omega)
    have g5 : decide (span < 0) = false := decide_eq_false (by omega)
    have g6 : decide (span > 1099511627776) = false := decide_eq_false (by omega)
    have hm : 2 ^ l.length - 1 < 18446744073709551616 := by
      have : 2 ^ l.length ≤ 2 ^ 64 := Nat.pow_le_pow_right (by omega) hN.2
      omega
    have gand : bits .and .u64 (S : Int) ((2 ^ l.length - 1 : Nat) : Int) = ((S &&& (2 ^ l.length - 1) : Nat) : Int) := u64_and_nat S (2 ^ l.length - 1) hS hm
    have hS' : S &&& (2 ^ l.length - 1) < 18446744073709551616 := Nat.lt_of_le_of_lt Nat.and_le_left hS
    have hC := ones_mask hN.2 S
    have hbit : ∀ i, i < l.length → bit (S &&& (2 ^ l.length - 1)) i = bit S i := fun i hi => by rw [bit_and, bit_mask, decide_eq_true hi, Bool.and_true]
    have Al := Lib.hid (fun w => all_yes l.length hN w)
    have Mj := Lib.hid (fun w => majority_is l.length ⟨hN.1, by omega⟩ w)
    have wt : IntKind.i64.wrap (now - span) = now - span := IntWalk.i64_in _ (by omega)
    generalize 2 ^ l.length - 1 = M at *
    generalize S &&& M = R at *
    have Cn := Lib.hid (fun w => count_is R hS' w)
    rw [hC] at Cn
    have hbh := Lib.hid hbit
    clear hbit hC
    go_enter Try.func6, Try.ntmps6
    go_wp2_with fail
    go_at_call 20
    refine Calls.mono (Al.out _) ?_
    rintro e w1 ⟨rfl, t1⟩
    have T1 := T0.trans t1
    clear T0 t1 Al
    go_wp2_with fail
    go_loopw [10, 11, 13] (fun v10 v11 v13 wr => ∃ (k : Nat), k ≤ l.length ∧ v13 = .int .i64 k ∧ v10 = .int .i64 (cntK l (now - span) k : Nat) ∧ v11 = .bool (anyK l (now - span) S k) ∧ (∀ x ∈ l.take k, -1 ≤ x ∧ x ≤ 1099511627776) ∧ Turns [] w wr) (fun _ _ v13 _ => l.length - (RowKit.intOf v13).toNat)
    case atStart => exact ⟨0, by omega, rfl, rfl, rfl, by simp, T1⟩
    case round =>
      clear T1 gand
      obtain ⟨k, hk, rfl, rfl, rfl, hin, T⟩ := hrel
      by_cases hlt : k < l.length
      · have g7 : decide ((k : Int) < (l.length : Int)) = true := decide_eq_true (by omega)
        have g7b : decide (k < l.length) = true := decide_eq_true hlt
        obtain ⟨x, hx⟩ : ∃ x, l[k]? = some x := ⟨_, List.getElem?_eq_getElem hlt⟩
        obtain ⟨ad, c', hv, L⟩ := Ta.icell hlh.out hx
        injection hv with e1 e2 e3
        subst e1 e3
        have i0 := T.old L
        have hgd : l.getD k 0 = x := by rw [List.getD_eq_getElem?_getD, hx]; rfl
        have hcl := cntK_le l (now - span) k
        have hc1 : Hid (cntK l (now - span) (k + 1) = if okI (now - span) x then cntK l (now - span) k + 1 else cntK l (now - span) k) := Lib.hid (by rw [← hgd]; rfl)
        have ha1 : Hid (anyK l (now - span) S (k + 1) = (anyK l (now - span) S k || (okI (now - span) x && bit S k))) := Lib.hid (by rw [← hgd]; rfl)
        have hin1 : -1 ≤ x ∧ x ≤ 1099511627776 → ∀ z ∈ l.take (k + 1), -1 ≤ z ∧ z ≤ 1099511627776 := fun h z hz => by
          rw [take_next hx] at hz
          rcases List.mem_append.1 hz with h1 | h1
          · exact hin z h1
          · rw [List.mem_singleton.1 h1]; exact h
        have hin1h := Lib.hid hin1
        have hbk := hbh.out k hlt
        have Hs := Lib.hid (fun w => has_yes R k hS' (by omega) w)
        rw [hbk] at Hs
        generalize hcg : cntK l (now - span) k = cn at *
        generalize hag : anyK l (now - span) S k = an at *
        generalize bit S k = bk at *
        clear hx e2 L hgd hin1 hbk hin hcg hag
        by_cases r1 : x < -1
        · have p1 := decide_eq_true r1
          clear r1
          go_wp2_with fail
          go_at_call 16
          refine Calls.mono (alive_is _) ?_
          rintro e w2 ⟨rfl, t2⟩
          have hX := hXh.out _ (T.trans t2)
          go_wp2_with fail
          exact hX
        · have p1 : decide (x < -1) = false := decide_eq_false r1
          by_cases r2 : x > 1099511627776
          · have p2 := decide_eq_true r2
            clear r1 r2
            go_wp2_with fail
            go_at_call 16
            refine Calls.mono (alive_is _) ?_
            rintro e w2 ⟨rfl, t2⟩
            have hX := hXh.out _ (T.trans t2)
            go_wp2_with fail
            exact hX
          · have p2 : decide (x > 1099511627776) = false := decide_eq_false r2
            have hin2 := Lib.hid (hin1h.out ⟨by omega, by omega⟩)
            clear hin1h r1 r2
            by_cases r3 : x ≥ 0
            · have p3 := decide_eq_true r3
              by_cases r4 : x ≥ now - span
              · have p4 := decide_eq_true r4
                have ho : okI (now - span) x = true := by unfold okI; rw [p3, p4]; rfl
                rw [ho, if_pos rfl] at hc1
                rw [ho, Bool.true_and] at ha1
                clear ho r3 r4
                cases an with
                | true =>
                  rw [Bool.true_or] at ha1
                  go_wp2_with fail
                  go_roundw
                  case rel => exact ⟨k + 1, by omega, by go_num, by rw [hc1.out]; go_num, by rw [ha1.out], hin2.out, T⟩
                  case measure => simp [RowKit.intOf]; omega
                | false =>
                  rw [Bool.false_or] at ha1
                  go_wp2_with fail
                  go_at_call 21
                  refine Calls.mono (Hs.out _) ?_
                  rintro e w2 ⟨rfl, t2⟩
                  go_wp2_with fail
                  go_roundw
                  case rel => exact ⟨k + 1, by omega, by go_num, by rw [hc1.out]; go_num, by rw [ha1.out], hin2.out, T.trans t2⟩
                  case measure => simp [RowKit.intOf]; omega
              · have p4 : decide (x ≥ now - span) = false := decide_eq_false r4
                have ho : okI (now - span) x = false := by unfold okI; rw [p4, Bool.and_false]
                rw [ho] at hc1 ha1
                rw [Bool.false_and, Bool.or_false] at ha1
                simp only [Bool.false_eq_true, if_false] at hc1
                clear ho r3 r4
                go_wp2_with fail
                go_roundw
                case rel => exact ⟨k + 1, by omega, by go_num, by rw [hc1.out], by rw [ha1.out], hin2.out, T⟩
                case measure => simp [RowKit.intOf]; omega
            · have p3 : decide (x ≥ 0) = false := decide_eq_false r3
              have ho : okI (now - span) x = false := by unfold okI; rw [p3, Bool.false_and]
              rw [ho] at hc1 ha1
              rw [Bool.false_and, Bool.or_false] at ha1
              simp only [Bool.false_eq_true, if_false] at hc1
              clear ho r3
              go_wp2_with fail
              go_roundw
              case rel => exact ⟨k + 1, by omega, by go_num, by rw [hc1.out], by rw [ha1.out], hin2.out, T⟩
              case measure => simp [RowKit.intOf]; omega
      · obtain rfl : k = l.length := by omega
        have g7 : decide ((l.length : Int) < (l.length : Int)) = false := by simp
        rw [List.take_length] at hin
        have hvd := valid_doc hn hs hin
        have hmt := meetK l (now - span) S l.length
        have hrd := Lib.hid (hlh.out.mv (fun a u => T.old))
        have V := Lib.hid (valid_is 0 0 0 now span _ l wr hrd.out hN.1 (by omega))
        rw [hvd] at V
        have hcl := cntK_le l (now - span) l.length
        generalize hcg : cntK l (now - span) l.length = cn at *
        generalize hag : anyK l (now - span) S l.length = an at *
        generalize hog : ones l.length S = os at *
        have hos : os ≤ 64 := by have := ones_meet (s := S) (t := 0) (n := l.length) (fun i _ h => by have := h.2; rw [bit_zero] at this; cases this); omega
        have hmm : l.length < 2 * (l.length / 2 + 1) := by omega
        generalize hml : l.length / 2 + 1 = m at *
        have hm64 : m ≤ 64 := by omega
        clear hin hvd hcg hag hog hlh hbh hS' hS hml
        by_cases hb : m ≤ cn
        · rw [decide_eq_true hb] at V
          have q1 : decide ((cn : Int) ≥ (m : Int)) = true := decide_eq_true (by omega)
          have q1b : decide (m ≤ cn) = true := decide_eq_true hb
          go_wp2_with fail
          go_at_call 22
          refine Calls.mono (V.out) ?_
          rintro e w2 ⟨rfl, t2⟩
          go_wp2_with fail
          go_at_call 23
          refine Calls.mono (Mj.out _) ?_
          rintro e w3 ⟨rfl, t3⟩
          go_wp2_with fail
          go_at_call 16
          refine Calls.mono (alive_is _) ?_
          rintro e w4 ⟨rfl, t4⟩
          go_wp2_with fail
          go_at_call 24
          refine Calls.mono (Cn.out _) ?_
          rintro e w5 ⟨rfl, t5⟩
          go_wp2_with fail
          go_at_call 23
          refine Calls.mono (Mj.out _) ?_
          rintro e w6 ⟨rfl, t6⟩
          have hX := hXh.out _ (((((T.trans t2).trans t3).trans t4).trans t5).trans t6)
          by_cases hq : os < m
          · have q2 : decide ((os : Int) < (m : Int)) = true := decide_eq_true (by omega)
            have q2b : decide (os < m) = true := decide_eq_true hq
            go_wp2_with fail
            exact hX
          · have q2 : decide ((os : Int) < (m : Int)) = false := decide_eq_false (by omega)
            have q2b : decide (os < m) = false := decide_eq_false hq
            have han : an = true := by
              cases an with
              | true => rfl
              | false => have := hmt rfl; omega
            subst han
            go_wp2_with fail
            exact hX
        · rw [decide_eq_false hb] at V
          have q1 : decide ((cn : Int) ≥ (m : Int)) = false := decide_eq_false (by omega)
          have q1b : decide (m ≤ cn) = false := decide_eq_false hb
          go_wp2_with fail
          go_at_call 22
          refine Calls.mono (V.out) ?_
          rintro e w2 ⟨rfl, t2⟩
          go_wp2_with fail
          go_at_call 23
          refine Calls.mono (Mj.out _) ?_
          rintro e w3 ⟨rfl, t3⟩
          go_wp2_with fail
          go_at_call 16
          refine Calls.mono (alive_is _) ?_
          rintro e w4 ⟨rfl, t4⟩
          have hX := hXh.out _ (((T.trans t2).trans t3).trans t4)
          go_wp2_with fail
          exact hX
  · have hbad : (l.length : Int) < 1 ∨ (¬ (l.length : Int) < 1 ∧ (l.length : Int) > 64) ∨ ((¬ (l.length : Int) < 1 ∧ ¬ (l.length : Int) > 64) ∧ now < 0) ∨ ((¬ (l.length : Int) < 1 ∧ ¬ (l.length : Int) > 64 ∧ ¬ now < 0) ∧ now > 1099511627776) ∨ ((¬ (l.length : Int) < 1 ∧ ¬ (l.length : Int) > 64 ∧ ¬ now < 0 ∧ ¬ now > 1099511627776) ∧ span < 0) ∨ ((¬ (l.length : Int) < 1 ∧ ¬ (l.length : Int) > 64 ∧ ¬ now < 0 ∧ ¬ now > 1099511627776 ∧ ¬ span < 0) ∧ span > 1099511627776) := by omega
    clear hall
    rcases hbad with h1 | ⟨h1, h2⟩ | ⟨⟨h1, h2⟩, h3⟩ | ⟨⟨h1, h2, h3⟩, h4⟩ | ⟨⟨h1, h2, h3, h4⟩, h5⟩ | ⟨⟨h1, h2, h3, h4, h5⟩, h6⟩
    · have g1 := decide_eq_true h1
      clear h1
      go_enter Try.func6, Try.ntmps6
      go_wp2_with fail
      go_at_call 16
      refine Calls.mono (alive_is _) ?_
      rintro e w1 ⟨rfl, t1⟩
      have hX := hXh.out _ (T0.trans t1)
      go_wp2_with fail
      exact hX
    · have g1 := decide_eq_false h1
      have g2 := decide_eq_true h2
      clear h1 h2
      go_enter Try.func6, Try.ntmps6
      go_wp2_with fail
      go_at_call 16
      refine Calls.mono (alive_is _) ?_
      rintro e w1 ⟨rfl, t1⟩
      have hX := hXh.out _ (T0.trans t1)
      go_wp2_with fail
      exact hX
    · have g1 := decide_eq_false h1
      have g2 := decide_eq_false h2
      have g3 := decide_eq_true h3
      clear h1 h2 h3
      go_enter Try.func6, Try.ntmps6
      go_wp2_with fail
      go_at_call 16
      refine Calls.mono (alive_is _) ?_
      rintro e w1 ⟨rfl, t1⟩
      have hX := hXh.out _ (T0.trans t1)
      go_wp2_with fail
      exact hX
    · have g1 := decide_eq_false h1
      have g2 := decide_eq_false h2
      have g3 := decide_eq_false h3
      have g4 := decide_eq_true h4
      clear h1 h2 h3 h4
      go_enter Try.func6, Try.ntmps6
      go_wp2_with fail
      go_at_call 16
      refine Calls.mono (alive_is _) ?_
      rintro e w1 ⟨rfl, t1⟩
      have hX := hXh.out _ (T0.trans t1)
      go_wp2_with fail
      exact hX
    · have g1 := decide_eq_false h1
      have g2 := decide_eq_false h2
      have g3 := decide_eq_false h3
      have g4 := decide_eq_false h4
      have g5 := decide_eq_true h5
      clear h1 h2 h3 h4 h5
      go_enter Try.func6, Try.ntmps6
      go_wp2_with fail
      go_at_call 16
      refine Calls.mono (alive_is _) ?_
      rintro e w1 ⟨rfl, t1⟩
      have hX := hXh.out _ (T0.trans t1)
      go_wp2_with fail
      exact hX
    · have g1 := decide_eq_false h1
      have g2 := decide_eq_false h2
      have g3 := decide_eq_false h3
      have g4 := decide_eq_false h4
      have g5 := decide_eq_false h5
      have g6 := decide_eq_true h6
      clear h1 h2 h3 h4 h5 h6
      go_enter Try.func6, Try.ntmps6
      go_wp2_with fail
      go_at_call 16
      refine Calls.mono (alive_is _) ?_
      rintro e w1 ⟨rfl, t1⟩
      have hX := hXh.out _ (T0.trans t1)
      go_wp2_with fail
      exact hX
theorem majority_opened {H : Type} (enc : TypeId × Value → H) (W : World) {base : Nat} {v0 v1 v2 : Value} {d0 d1 d2 : DataW H} {p0 p1 p2 : List MemPlace} (h0 : DataW.Trod enc Try.prog W 0 (fun _ => true) true 33 v0 d0 p0)
    (h1 : DataW.Trod enc Try.prog W 0 (fun _ => true) true 32 v1 d1 p1) (h2 : DataW.Trod enc Try.prog W 0 (fun _ => true) true 53 v2 d2 p2)
    (o0 : Value.okWide Try.prog W .any base 33 v0) (o1 : Value.okWide Try.prog W .any base 32 v1) (o2 : Value.okWide Try.prog W .any base 53 v2) :
    Calls Try.prog 6 #[v0, v1, v2] W fun e w' => e = .returned (.bool true) ∧ Below W.heap.size W w' := by
  obtain ⟨l, hl, _⟩ := (arg_slice Try.underlying33 (nInt Try.underlying3 (by kernel_rfl)) (by kernel_rfl) h0 o0).ints
  obtain ⟨cs, rfl, kf⟩ := arg_array Try.underlying32 (nArray Try.underlying32 (nInt Try.underlying3 (by kernel_rfl)) (by kernel_rfl)) h1 o1
  obtain ⟨_, r0, rfl, ⟨n0, rfl, w0⟩, k0⟩ := (show Kds W [kInt .i64, kInt .i64] cs from kf).out
  obtain ⟨_, r1, rfl, ⟨n1, rfl, w1⟩, k1⟩ := k0.out
  obtain rfl := k1.none
  obtain ⟨S, rfl, wS⟩ := arg_int Try.underlying53 (by kernel_rfl) h2 o2
  have hb := u64_bd wS
  obtain ⟨s, rfl⟩ : ∃ s : Nat, S = s := ⟨S.toNat, by omega⟩
  exact (majority_law W _ l n0 n1 s (by omega) hl).mono fun e w' ⟨he, t⟩ => ⟨he, t.isBelow⟩
end Go.Proofs.Ytmaielpfeajelaa.Tf
