/- The walks of conf.Check and the document's. -/
import Derived.Test.YthnegmpdadkkcaaCb
set_option linter.unusedVariables false
set_option linter.unusedSimpArgs false
set_option maxRecDepth 100000
namespace Go.Proofs.Ythnegmpdadkkcaa.Cc
open Go.RowKit Go.MapKept Hm Hs Hr Hb Hf Hv Cf Cn Sm Sat Mu Ca Cb
def goodR (r : Int × Int) : Bool := [r.1, r.2].all (inSpan 0)
/-- at the first rate that may not be -/
def badAt : List (Int × Int) → Nat → Int
  | [], _ => -1
  | x :: l, k => if goodR x then badAt l (k + 1) else (k : Int)
theorem badAt_cons (x : Int × Int) (l : List (Int × Int)) (k : Nat) : badAt (x :: l) k = if goodR x then badAt l (k + 1) else (k : Int) := rfl
theorem badAt_ge : ∀ (l : List (Int × Int)) (k : Nat), decide (badAt l k ≥ 0) = !(l.all goodR)
  | [], k => by simp [badAt]
  | x :: l, k => by
    unfold badAt
    cases h : goodR x
    · simp [h]
    · simp only [h, if_true, List.all_cons, Bool.true_and]
      exact badAt_ge l (k + 1)
theorem check1_is (w : World) (r : Int × Int) : Calls Try.prog 81 #[.agg #[.int .i64 r.1, .int .i64 r.2]] w fun e w' => e = .returned (.bool (!goodR r)) ∧ Turns [] w w' := by
  have T0 := (Turns.refl [] w).alloc (.cells #[.int .i64 r.1, .int .i64 r.2] 54)
  have T1 := T0.alloc (.cells #[.int .i64 r.1, .int .i64 r.2] 3)
  have R1 := ins_blk (l := [r.1, r.2]) (heap_alloc (w.alloc (.cells #[.int .i64 r.1, .int .i64 r.2] 54)) (.cells #[.int .i64 r.1, .int .i64 r.2] 3)).1 rfl 2 (by simp) (by decide)
  rw [World.size_alloc] at R1
  have hR1 : Hid _ := R1
  unfold goodR
  clear R1
  go_enter Try.func81, Try.ntmps81
  go_wp2_with fail
  go_at_call 79
  refine Calls.mono (span_is _ 0 _ [r.1, r.2] hR1.out) ?_
  rintro e w2 ⟨rfl, t2⟩
  go_wp2_with fail
  go_ret
  exact ⟨by simp, T1.trans t2⟩
theorem indexRate_is (w : World) (v : Value) (xs : List (Int × Int)) (h : RdS 2 w v (rts xs)) :
    Calls Try.prog 121 #[v, .func (.func 81) #[] #[]] w fun e w' => e = .returned (.int .i64 (badAt xs 0)) ∧ Turns [] w w' := by
  have h0 := h
  obtain ⟨A, c, rfl, hc, hcm⟩ := h.form
  simp only [rts_len] at hc ⊢
  have h0h : Hid _ := h0
  clear h h0
  go_enter Try.func121, Try.ntmps121
  go_wp2_with fail
  go_loopw [5, 8] (fun v5 v8 wr => ∃ (k : Nat), k ≤ xs.length ∧ v8 = .int .i64 k ∧ badAt xs 0 = badAt (xs.drop k) k ∧ Turns [] w wr) (fun _ v8 _ => xs.length - (intOf v8).toNat)
  case atStart => exact ⟨0, Nat.zero_le _, rfl, rfl, Turns.refl _ _⟩
  case round =>
    obtain ⟨k, hk, rfl, ho, T⟩ := hrel
    by_cases hlt : k < xs.length
    · have g1 : decide ((k : Int) < (xs.length : Int)) = true := by simp; omega
      obtain ⟨x, hx⟩ : ∃ x, xs[k]? = some x := ⟨_, List.getElem?_eq_getElem hlt⟩
      obtain ⟨ad, c', hv, _, hcell⟩ := RdS.at_ h0h.out (j := k) (r := [.int .i64 x.1, .int .i64 x.2]) (by unfold rts; rw [List.getElem?_map, hx]; rfl)
      injection hv with e1 e2 e3
      subst e1 e3
      clear e2
      have i0 := T.old (hcell 0 _ rfl)
      have i1 := T.old (hcell 1 _ rfl)
      rw [Nat.add_zero] at i0
      rw [add_field _ _ _ (by omega)] at i1
      have hdr : xs.drop k = x :: xs.drop (k + 1) := by rw [List.drop_eq_getElem?_toList_append, hx]; rfl
      rw [hdr, badAt_cons] at ho
      by_cases hp : goodR x = true
      · have hq : (!goodR x) = false := by rw [hp]; rfl
        rw [hp] at ho
        simp only [if_true] at ho
        have hoh : Hid (badAt xs 0 = badAt (xs.drop (k + 1)) (k + 1)) := ho
        clear ho hcell hdr h0h hx
        go_wp2_with fail
        go_at_call 81
        refine Calls.mono (check1_is _ x) ?_
        rintro e w2 ⟨rfl, t2⟩
        go_wp2_with fail
        go_roundw
        case rel => exact ⟨k + 1, by omega, by go_num, hoh.out, T.trans t2⟩
        case measure => simp [intOf]; omega
      · have hpf : goodR x = false := by simpa using hp
        have hq : (!goodR x) = true := by rw [hpf]; rfl
        rw [hpf] at ho
        simp only [Bool.false_eq_true, if_false] at ho
        have hoh : Hid (badAt xs 0 = (k : Int)) := ho
        clear ho hcell hdr h0h hx
        go_wp2_with fail
        go_at_call 81
        refine Calls.mono (check1_is _ x) ?_
        rintro e w2 ⟨rfl, t2⟩
        go_wp2_with fail
        go_ret
        exact ⟨by rw [hoh.out]; rfl, T.trans t2⟩
    · obtain rfl : k = xs.length := by omega
      have g1 : decide ((xs.length : Int) < (xs.length : Int)) = false := by simp
      rw [List.drop_length] at ho
      have hoh : Hid (badAt xs 0 = badAt [] xs.length) := ho
      clear ho h0h
      go_wp2_with fail
      go_ret
      exact ⟨by rw [hoh.out]; rfl, T⟩
theorem containsRate_is (w : World) (v : Value) (xs : List (Int × Int)) (h : RdS 2 w v (rts xs)) :
    Calls Try.prog 80 #[v, .func (.func 81) #[] #[]] w fun e w' => e = .returned (.bool (!(xs.all goodR))) ∧ Turns [] w w' := by
  have hg := badAt_ge xs 0
  go_enter Try.func80, Try.ntmps80
  go_wp2_with fail
  go_at_call 121
  refine Calls.mono (indexRate_is w v xs h) ?_
  rintro e w2 ⟨rfl, t2⟩
  go_wp2_with fail
  go_ret
  exact ⟨rfl, t2⟩
/-- a configuration's error -/
def errR (c : Cfg) : Int :=
  if nodesB c.n = false then 21 else if [c.skew].all (inSpan 0) = false then 22 else if [c.ttl, c.valid, c.loss, c.hear].all (inSpan 1) = false then 22
  else if c.keys < 1 ∨ c.keys > 16 ∨ c.queue < 0 ∨ c.queue > 16 then 23 else if c.rates.length < 1 ∨ c.rates.length > 8 then 24 else if c.rates.all goodR = false then 24 else 0
theorem err_1 {c : Cfg} (h : nodesB c.n = false) : errR c = 21 := by unfold errR; rw [if_pos h]
theorem err_2 {c : Cfg} (h : nodesB c.n = true) (h2 : [c.skew].all (inSpan 0) = false) : errR c = 22 := by unfold errR; rw [if_neg (by rw [h]; simp), if_pos h2]
theorem err_3 {c : Cfg} (h : nodesB c.n = true) (h2 : [c.skew].all (inSpan 0) = true) (h3 : [c.ttl, c.valid, c.loss, c.hear].all (inSpan 1) = false) : errR c = 22 := by
  unfold errR; rw [if_neg (by rw [h]; simp), if_neg (by rw [h2]; simp), if_pos h3]
/-- up to its rooms it is right -/
structure rooms (c : Cfg) : Prop where
  n : nodesB c.n = true
  s : [c.skew].all (inSpan 0) = true
  t : [c.ttl, c.valid, c.loss, c.hear].all (inSpan 1) = true
theorem err_4 {c : Cfg} (h : rooms c) (h4 : c.keys < 1 ∨ c.keys > 16 ∨ c.queue < 0 ∨ c.queue > 16) : errR c = 23 := by
  unfold errR; rw [if_neg (by rw [h.n]; simp), if_neg (by rw [h.s]; simp), if_neg (by rw [h.t]; simp), if_pos h4]
theorem err_5 {c : Cfg} (h : rooms c) (h4 : ¬ (c.keys < 1 ∨ c.keys > 16 ∨ c.queue < 0 ∨ c.queue > 16)) (h5 : c.rates.length < 1 ∨ c.rates.length > 8) : errR c = 24 := by
  unfold errR; rw [if_neg (by rw [h.n]; simp), if_neg (by rw [h.s]; simp), if_neg (by rw [h.t]; simp), if_neg h4, if_pos h5]
theorem err_6 {c : Cfg} (h : rooms c) (h4 : ¬ (c.keys < 1 ∨ c.keys > 16 ∨ c.queue < 0 ∨ c.queue > 16)) (h5 : ¬ (c.rates.length < 1 ∨ c.rates.length > 8)) : errR c = if c.rates.all goodR = false then 24 else 0 := by
  unfold errR; rw [if_neg (by rw [h.n]; simp), if_neg (by rw [h.s]; simp), if_neg (by rw [h.t]; simp), if_neg h4, if_neg h5]
set_option maxHeartbeats 4000000 in
theorem check_is (w : World) (c : Cfg) (hr : RdS 2 w c.rv (rts c.rates)) : Calls Try.prog 30 #[c.v] w fun e w' => e = .returned (.int .i64 (errR c)) ∧ Turns [] w w' := by
  obtain ⟨E, hE⟩ : ∃ E, errR c = E := ⟨_, rfl⟩
  have k1 := err_1 (c := c)
  have k2 := err_2 (c := c)
  have k3 := err_3 (c := c)
  have k4 := err_4 (c := c)
  have k5 := err_5 (c := c)
  have k6 := err_6 (c := c)
  have kr : nodesB c.n = true → [c.skew].all (inSpan 0) = true → [c.ttl, c.valid, c.loss, c.hear].all (inSpan 1) = true → rooms c := fun a b d => ⟨a, b, d⟩
  rw [hE] at k1 k2 k3 k4 k5 k6 ⊢
  obtain ⟨n, skew, ttl, valid, loss, hear, keys, queue, rv, rates⟩ := c
  simp only at hr k1 k2 k3 k4 k5 k6 kr
  obtain ⟨A, cap, rfl, _⟩ := hr.form
  simp only [rts_len] at hr
  unfold Cfg.v
  simp only [rts_len]
  have T0 := (Turns.refl [] w).alloc (.cells #[.int .i64 n, .int .i64 skew, .int .i64 ttl, .int .i64 valid, .int .i64 loss, .int .i64 hear, .int .i64 keys, .int .i64 queue, .slice A rates.length cap] 52)
  have hB := Blk.new w #[.int .i64 n, .int .i64 skew, .int .i64 ttl, .int .i64 valid, .int .i64 loss, .int .i64 hear, .int .i64 keys, .int .i64 queue, .slice A rates.length cap] 52
  have k1h : Hid _ := k1
  have k2h : Hid _ := k2
  have k3h : Hid _ := k3
  have k4h : Hid _ := k4
  have k5h : Hid _ := k5
  have k6h : Hid _ := k6
  have krh : Hid _ := kr
  have hrh : Hid _ := hr
  clear k1 k2 k3 k4 k5 k6 kr hE hr
  go_enter Try.func30, Try.ntmps30
  go_wp2_with fail
  go_at_call 78
  refine Calls.mono (nodes_is n _) ?_
  rintro e w1 ⟨rfl, t1⟩
  have T1 := T0.trans t1
  replace hB := hB.turns t1 (by simp)
  clear T0 t1
  cases hn : nodesB n
  case false =>
    have e21 := k1h.out (by simpa using hn)
    clear hn hB k1h k2h k3h k4h k5h k6h krh hrh
    go_wp2_with fail
    go_ret
    exact ⟨by rw [e21]; rfl, T1⟩
  case true =>
  have hnh : Hid (nodesB n = true) := hn
  clear hn
  have d1 : w1.cell? ⟨w.heap.size, 1, none⟩ = some (.int .i64 skew) := hB.cell 1
  have A1 := (Turns.refl [] w1).alloc (.cells #[.int .i64 skew] 3)
  have R1 := ins_blk (l := [skew]) (heap_alloc w1 (.cells #[.int .i64 skew] 3)).1 rfl 1 (by simp) (by decide)
  have R1h : Hid _ := R1
  clear R1
  go_wp2_with fail
  go_at_call 79
  refine Calls.mono (span_is _ 0 _ [skew] R1h.out) ?_
  rintro e w2 ⟨rfl, t2⟩
  have T2 := (T1.trans A1).trans t2
  replace hB := (hB.turns A1 (by simp)).turns t2 (by simp)
  clear T1 A1 t2 R1h d1
  cases hs : [skew].all (inSpan 0)
  case false =>
    have e22 := k2h.out hnh.out hs
    clear hs hB k1h k2h k3h k4h k5h k6h krh hrh hnh
    go_wp2_with fail
    go_ret
    exact ⟨by rw [e22]; rfl, T2⟩
  case true =>
  have hsh : Hid ([skew].all (inSpan 0) = true) := hs
  clear hs
  have d2 : w2.cell? ⟨w.heap.size, 2, none⟩ = some (.int .i64 ttl) := hB.cell 2
  have d3 : w2.cell? ⟨w.heap.size, 3, none⟩ = some (.int .i64 valid) := hB.cell 3
  have d4 : w2.cell? ⟨w.heap.size, 4, none⟩ = some (.int .i64 loss) := hB.cell 4
  have d5 : w2.cell? ⟨w.heap.size, 5, none⟩ = some (.int .i64 hear) := hB.cell 5
  have A2 := (Turns.refl [] w2).alloc (.cells #[.int .i64 ttl, .int .i64 valid, .int .i64 loss, .int .i64 hear] 3)
  have R2 := ins_blk (l := [ttl, valid, loss, hear]) (heap_alloc w2 (.cells #[.int .i64 ttl, .int .i64 valid, .int .i64 loss, .int .i64 hear] 3)).1 rfl 4 (by simp) (by decide)
  have R2h : Hid _ := R2
  clear R2
  go_wp2_with fail
  go_at_call 79
  refine Calls.mono (span_is _ 1 _ [ttl, valid, loss, hear] R2h.out) ?_
  rintro e w3 ⟨rfl, t3⟩
  have T3 := (T2.trans A2).trans t3
  replace hB := (hB.turns A2 (by simp)).turns t3 (by simp)
  clear T2 A2 t3 R2h d2 d3 d4 d5
  cases ht : [ttl, valid, loss, hear].all (inSpan 1)
  case false =>
    have e22 := k3h.out hnh.out hsh.out ht
    clear ht hB k1h k2h k3h k4h k5h k6h krh hrh hnh hsh
    go_wp2_with fail
    go_ret
    exact ⟨by rw [e22]; rfl, T3⟩
  case true =>
  have hro := krh.out hnh.out hsh.out ht
  have hroh : Hid _ := hro
  clear ht hro k1h k2h k3h krh hnh hsh
  have d6 : w3.cell? ⟨w.heap.size, 6, none⟩ = some (.int .i64 keys) := hB.cell 6
  have d7 : w3.cell? ⟨w.heap.size, 7, none⟩ = some (.int .i64 queue) := hB.cell 7
  have d8 : w3.cell? ⟨w.heap.size, 8, none⟩ = some (.slice A rates.length cap) := hB.cell 8
  clear hB
  by_cases b1 : keys < 1
  · have g1 := decide_eq_true b1
    have e := k4h.out hroh.out (.inl b1)
    clear k4h k5h k6h hroh hrh b1
    go_wp2_with fail
    go_ret
    exact ⟨by rw [e]; rfl, T3⟩
  have g1 := decide_eq_false b1
  by_cases b2 : keys > 16
  · have g2 := decide_eq_true b2
    have e := k4h.out hroh.out (.inr (.inl b2))
    clear k4h k5h k6h hroh hrh b1 b2
    go_wp2_with fail
    go_ret
    exact ⟨by rw [e]; rfl, T3⟩
  have g2 := decide_eq_false b2
  by_cases b3 : queue < 0
  · have g3 := decide_eq_true b3
    have e := k4h.out hroh.out (.inr (.inr (.inl b3)))
    clear k4h k5h k6h hroh hrh b1 b2 b3
    go_wp2_with fail
    go_ret
    exact ⟨by rw [e]; rfl, T3⟩
  have g3 := decide_eq_false b3
  by_cases b4 : queue > 16
  · have g4 := decide_eq_true b4
    have e := k4h.out hroh.out (.inr (.inr (.inr b4)))
    clear k4h k5h k6h hroh hrh b1 b2 b3 b4
    go_wp2_with fail
    go_ret
    exact ⟨by rw [e]; rfl, T3⟩
  have g4 := decide_eq_false b4
  have hb : ¬ (keys < 1 ∨ keys > 16 ∨ queue < 0 ∨ queue > 16) := by omega
  by_cases b5 : rates.length < 1
  · have g5 : decide ((rates.length : Int) < 1) = true := decide_eq_true (by omega)
    have e := k5h.out hroh.out hb (.inl b5)
    clear k4h k5h k6h hroh hrh b1 b2 b3 b4 b5 hb
    go_wp2_with fail
    go_ret
    exact ⟨by rw [e]; rfl, T3⟩
  have g5 : decide ((rates.length : Int) < 1) = false := decide_eq_false (by omega)
  by_cases b6 : rates.length > 8
  · have g6 : decide ((rates.length : Int) > 8) = true := decide_eq_true (by omega)
    have e := k5h.out hroh.out hb (.inr b6)
    clear k4h k5h k6h hroh hrh b1 b2 b3 b4 b5 b6 hb
    go_wp2_with fail
    go_ret
    exact ⟨by rw [e]; rfl, T3⟩
  have g6 : decide ((rates.length : Int) > 8) = false := decide_eq_false (by omega)
  have e := k6h.out hroh.out hb (by omega)
  have eh : Hid _ := e
  clear k4h k5h k6h hroh b1 b2 b3 b4 b5 b6 hb e
  go_wp2_with fail
  go_at_call 80
  refine Calls.mono (containsRate_is _ _ rates (RdS.mv hrh.out (fun a u hu => T3.old hu))) ?_
  rintro e w4 ⟨rfl, t4⟩
  cases hg : rates.all goodR
  case false =>
    have e24 := eh.out
    rw [hg] at e24
    simp only [if_true] at e24
    clear eh hrh
    go_wp2_with fail
    go_ret
    exact ⟨by rw [e24]; rfl, T3.trans t4⟩
  case true =>
    have e24 := eh.out
    rw [hg] at e24
    simp only [Bool.true_eq_false, if_false] at e24
    clear eh hrh
    go_wp2_with fail
    go_ret
    exact ⟨by rw [e24]; rfl, T3.trans t4⟩
end Go.Proofs.Ythnegmpdadkkcaa.Cc
