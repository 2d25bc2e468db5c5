/- The walks of package conf over a configuration, and annonalaw03.alive. -/
import Derived.Test.YthnegmpdadkkcaaCn
import Derived.Test.YthnegmpdadkkcaaMu
import Derived.Test.YthnegmpdadkkcaaHf
import Derived.Test.YthnegmpdadkkcaaHv
set_option linter.unusedVariables false
set_option linter.unusedSimpArgs false
set_option maxRecDepth 100000
namespace Go.Proofs.Ythnegmpdadkkcaa.Ca
open Go.RowKit Go.MapKept Hm Hs Hr Hb Hf Hv Cf Cn Sm Sat Mu
structure Cfg where
  n : Int
  skew : Int
  ttl : Int
  valid : Int
  loss : Int
  hear : Int
  keys : Int
  queue : Int
  rv : Value
  rates : List (Int × Int)
def Cfg.v (c : Cfg) : Value := .agg #[.int .i64 c.n, .int .i64 c.skew, .int .i64 c.ttl, .int .i64 c.valid, .int .i64 c.loss, .int .i64 c.hear, .int .i64 c.keys, .int .i64 c.queue, c.rv]
attribute [local go_sem] Cfg.v
def rts (l : List (Int × Int)) : List (List Value) := l.map fun r => [.int .i64 r.1, .int .i64 r.2]
@[simp] theorem rts_len (l : List (Int × Int)) : (rts l).length = l.length := by simp [rts]
theorem key_no (p m : Int) (w : World) (h : ¬ (0 ≤ p ∧ p < 8 ∧ 0 ≤ m ∧ m ≤ 65535)) : Calls Try.prog 75 #[.int .i64 p, .int .i64 m] w fun e w' => e = .returned (.tuple #[.int .i64 0, .int .i64 1]) ∧ Turns [] w w' := by
  by_cases h1 : p < 0
  · have g1 := decide_eq_true h1
    clear h h1
    go_enter Try.func75, Try.ntmps75
    go_wp2_with fail
    go_ret2
    exact ⟨rfl, Turns.refl _ _⟩
  · have g1 := decide_eq_false h1
    by_cases h2 : p ≥ 8
    · have g2 := decide_eq_true h2
      clear h h1 h2
      go_enter Try.func75, Try.ntmps75
      go_wp2_with fail
      go_ret2
      exact ⟨rfl, Turns.refl _ _⟩
    · have g2 := decide_eq_false h2
      by_cases h3 : m < 0
      · have g3 := decide_eq_true h3
        clear h h1 h2 h3
        go_enter Try.func75, Try.ntmps75
        go_wp2_with fail
        go_ret2
        exact ⟨rfl, Turns.refl _ _⟩
      · have g3 := decide_eq_false h3
        have g4 : decide (m > 65535) = true := decide_eq_true (by omega)
        clear h h1 h2 h3
        go_enter Try.func75, Try.ntmps75
        go_wp2_with fail
        go_ret2
        exact ⟨rfl, Turns.refl _ _⟩
theorem key_yes (p m : Int) (w : World) (h : 0 ≤ p ∧ p < 8 ∧ 0 ≤ m ∧ m ≤ 65535) : Calls Try.prog 75 #[.int .i64 p, .int .i64 m] w fun e w' => e = .returned (.tuple #[.int .i64 (p * 65536 + m), .int .i64 0]) ∧ Turns [] w w' := by
  obtain ⟨h1, h2, h3, h4⟩ := h
  have g1 : decide (p < 0) = false := decide_eq_false (by omega)
  have g2 : decide (p ≥ 8) = false := decide_eq_false (by omega)
  have g3 : decide (m < 0) = false := decide_eq_false (by omega)
  have g4 : decide (m > 65535) = false := decide_eq_false (by omega)
  go_enter Try.func75, Try.ntmps75
  go_wp2_with fail
  go_ret2
  exact ⟨rfl, Turns.refl _ _⟩
theorem kright_is (k : Int) (w : World) : Calls Try.prog 36 #[.int .i64 k] w fun e w' => e = .returned (.bool (decide (0 ≤ k ∧ k < 524288))) ∧ Turns [] w w' := by
  by_cases h1 : k ≥ 0
  · have g1 := decide_eq_true h1
    by_cases h2 : k < 524288
    · have g2 := decide_eq_true h2
      rw [decide_eq_true (by omega : 0 ≤ k ∧ k < 524288)]
      go_enter Try.func36, Try.ntmps36
      go_wp2_with fail
      go_ret
      exact ⟨rfl, Turns.refl _ _⟩
    · have g2 := decide_eq_false h2
      rw [decide_eq_false (by omega : ¬ (0 ≤ k ∧ k < 524288))]
      go_enter Try.func36, Try.ntmps36
      go_wp2_with fail
      go_ret
      exact ⟨rfl, Turns.refl _ _⟩
  · have g1 := decide_eq_false h1
    rw [decide_eq_false (by omega : ¬ (0 ≤ k ∧ k < 524288))]
    go_enter Try.func36, Try.ntmps36
    go_wp2_with fail
    go_ret
    exact ⟨rfl, Turns.refl _ _⟩
theorem rate_yes (w : World) (c : Cfg) (k : Int) (r : Int × Int) (hr : RdS 2 w c.rv (rts c.rates)) (hk : 0 ≤ k ∧ k < 524288) (hi : c.rates[(k / 65536).toNat]? = some r) :
    Calls Try.prog 28 #[c.v, .int .i64 k] w fun e w' => e = .returned (.tuple #[.agg #[.int .i64 r.1, .int .i64 r.2], .bool true]) ∧ Turns [] w w' := by
  obtain ⟨n, skew, ttl, valid, loss, hear, keys, queue, rv, rates⟩ := c
  simp only at hr hi
  obtain ⟨A, cap, rfl, hcap, hcm⟩ := hr.form
  simp only [rts_len] at hcap
  unfold Cfg.v
  simp only
  obtain ⟨q, hq⟩ : ∃ q : Nat, k / 65536 = q := ⟨(k / 65536).toNat, by omega⟩
  rw [hq] at hi
  simp only [Int.toNat_natCast] at hi
  have hql : q < rates.length := (List.getElem?_eq_some_iff.1 hi).1
  obtain ⟨ad, c', hv, _, hcell⟩ := hr.at_ (j := q) (r := [.int .i64 r.1, .int .i64 r.2]) (by unfold rts; rw [List.getElem?_map, hi]; rfl)
  injection hv with e1 e2 e3
  subst e1 e3
  have i0 := hcell 0 _ rfl
  have i1 := hcell 1 _ rfl
  rw [Nat.add_zero] at i0
  rw [add_field _ _ _ (by omega)] at i1
  have g1 : decide (0 ≤ k ∧ k < 524288) = true := decide_eq_true hk
  have g2 : decide ((q : Int) ≥ (rates.length : Int)) = false := by simp; omega
  have hkq : 0 ≤ k := hk.1
  rw [rts_len]
  let rv : Value := .slice (some ad) rates.length cap
  have T0 := (Turns.refl [] w).alloc (.cells #[.int .i64 n, .int .i64 skew, .int .i64 ttl, .int .i64 valid, .int .i64 loss, .int .i64 hear, .int .i64 keys, .int .i64 queue, .slice (some ad) rates.length cap] 52)
  have hB := (Blk.new w #[.int .i64 n, .int .i64 skew, .int .i64 ttl, .int .i64 valid, .int .i64 loss, .int .i64 hear, .int .i64 keys, .int .i64 queue, .slice (some ad) rates.length cap] 52).alloc (.cells #[.int .i64 0, .int .i64 0] 54)
  have T1 := T0.alloc (.cells #[.int .i64 0, .int .i64 0] 54)
  have hR := Blk.new (w.alloc (.cells #[.int .i64 n, .int .i64 skew, .int .i64 ttl, .int .i64 valid, .int .i64 loss, .int .i64 hear, .int .i64 keys, .int .i64 queue, .slice (some ad) rates.length cap] 52)) #[.int .i64 0, .int .i64 0] 54
  go_enter Try.func28, Try.ntmps28
  go_wp2_with fail
  go_at_call 36
  refine Calls.mono (kright_is k _) ?_
  rintro e w1 ⟨rfl, t1⟩
  replace hB := hB.turns t1 (by simp)
  replace hR := hR.turns t1 (by simp)
  have T2 := T1.trans t1
  have d8 : w1.cell? ⟨w.heap.size, 8, none⟩ = some _ := hB.cell 8
  have j0 := T2.old i0
  have j1 := T2.old i1
  clear i0 i1 T0 T1 t1
  simp only [World.size_alloc] at hR
  have f0 := hR.frozen 0
  have f1 := hR.frozen 1
  have e0 : w1.cell? ⟨w.heap.size + 1, 0, none⟩ = some _ := hR.cell 0
  have e1 : w1.cell? ⟨w.heap.size + 1, 1, none⟩ = some _ := hR.cell 1
  have hR2 := (hR.set 0 (.int .i64 r.1)).set 1 (.int .i64 r.2)
  have z0 := hR2.cell 0
  have z1 := hR2.cell 1
  have T3 := (T2.setCell (p := ⟨w.heap.size + 1, 0, none⟩) (by simp) (.int .i64 r.1)).setCell (p := ⟨w.heap.size + 1, 1, none⟩) (by simp) (.int .i64 r.2)
  go_wp2_with fail
  refine bodyPost_ret (res_list (rs := [.cell 4 54, .tmp 5]) rfl (by simp) (.cell (w.heap.size + 1) _ _ _ rfl hR2 Try.underlying54 rfl (by kernel_rfl) (.tmp .nil))) rfl ?_
  exact ⟨rfl, T3⟩
theorem ins_blk {w : World} {b : Nat} {l : List Int} {t : TypeId} {cs : Array Value} {fr : Nat × Nat} (h : w.heap[b]? = some (.cells cs t fr)) (hx : cs.toList = l.map (Value.int .i64)) (c : Nat) (hc : l.length ≤ c) (hm : c ≤ 9223372036854775807) : RdS 1 w (.slice (some ⟨b, 0, Option.none⟩) l.length c) (ins l) :=
  ⟨some ⟨b, 0, Option.none⟩, c, by simp, by simpa using hc, hm, by simp, ⟨by simp; omega, fun _ => ⟨_, rfl, fun j r hj => by
    unfold ins at hj
    rw [List.getElem?_map] at hj
    cases hl : l[j]? with
    | none => rw [hl] at hj; cases hj
    | some x =>
      rw [hl] at hj
      simp only [Option.map_some, Option.some.injEq] at hj
      subst hj
      refine ⟨rfl, fun i u hu => ?_⟩
      cases i with
      | zero =>
        simp only [List.getElem?_cons_zero, Option.some.injEq] at hu
        subst hu
        rw [Nat.mul_one, Nat.add_zero, add_zero_]
        simp only [World.cell?, h, Option.isSome_none, Bool.false_eq_true, if_false]
        rw [← Array.getElem?_toList, hx, List.getElem?_map, hl]
        rfl
      | succ i => simp at hu⟩⟩, by intro r hr; obtain ⟨x, _, rfl⟩ := List.mem_map.1 hr; rfl⟩
theorem check_rooms (w : World) (c : Cfg) (hn : nodesB c.n = true) (hs : [c.skew].all (inSpan 0) = true) (ht : [c.ttl, c.valid, c.loss, c.hear].all (inSpan 1) = true) (hk : decide (c.keys < 1) = true) :
    Calls Try.prog 30 #[c.v] w fun e w' => e = .returned (.int .i64 23) ∧ Turns [] w w' := by
  obtain ⟨n, skew, ttl, valid, loss, hear, keys, queue, rv, rates⟩ := c
  simp only at hn hs ht hk
  unfold Cfg.v
  simp only
  have T0 := (Turns.refl [] w).alloc (.cells #[.int .i64 n, .int .i64 skew, .int .i64 ttl, .int .i64 valid, .int .i64 loss, .int .i64 hear, .int .i64 keys, .int .i64 queue, rv] 52)
  have hB := Blk.new w #[.int .i64 n, .int .i64 skew, .int .i64 ttl, .int .i64 valid, .int .i64 loss, .int .i64 hear, .int .i64 keys, .int .i64 queue, rv] 52
  go_enter Try.func30, Try.ntmps30
  go_wp2_with fail
  go_at_call 78
  refine Calls.mono (nodes_is n _) ?_
  rintro e w1 ⟨rfl, t1⟩
  replace hB := hB.turns t1 (by simp)
  have d1 : w1.cell? ⟨w.heap.size, 1, none⟩ = some _ := hB.cell 1
  have A1 := (Turns.refl [] w1).alloc (.cells #[.int .i64 skew] 3)
  have R1 := ins_blk (l := [skew]) (heap_alloc w1 (.cells #[.int .i64 skew] 3)).1 rfl 1 (by simp) (by decide)
  go_wp2_with fail
  go_at_call 79
  refine Calls.mono (span_is _ 0 _ [skew] R1) ?_
  rintro e w2 ⟨rfl, t2⟩
  replace hB := (hB.turns A1 (by simp)).turns t2 (by simp)
  have d2 : w2.cell? ⟨w.heap.size, 2, none⟩ = some _ := hB.cell 2
  have d3 : w2.cell? ⟨w.heap.size, 3, none⟩ = some _ := hB.cell 3
  have d4 : w2.cell? ⟨w.heap.size, 4, none⟩ = some _ := hB.cell 4
  have d5 : w2.cell? ⟨w.heap.size, 5, none⟩ = some _ := hB.cell 5
  have A2 := (Turns.refl [] w2).alloc (.cells #[.int .i64 ttl, .int .i64 valid, .int .i64 loss, .int .i64 hear] 3)
  have R2 := ins_blk (l := [ttl, valid, loss, hear]) (heap_alloc w2 (.cells #[.int .i64 ttl, .int .i64 valid, .int .i64 loss, .int .i64 hear] 3)).1 rfl 4 (by simp) (by decide)
  rw [hs]
  go_wp2_with fail
  go_at_call 79
  refine Calls.mono (span_is _ 1 _ [ttl, valid, loss, hear] R2) ?_
  rintro e w3 ⟨rfl, t3⟩
  replace hB := (hB.turns A2 (by simp)).turns t3 (by simp)
  have d6 : w3.cell? ⟨w.heap.size, 6, none⟩ = some _ := hB.cell 6
  rw [ht]
  go_wp2_with fail
  go_ret
  exact ⟨rfl, (((((T0.trans t1).trans A1).trans t2).trans A2).trans t3)⟩
theorem quarantine_is (w : World) (c : Cfg) : Calls Try.prog 32 #[c.v] w fun e w' => e = .returned (.int .i64 (sum [c.valid, c.ttl, mul 4 c.skew])) ∧ Turns [] w w' := by
  obtain ⟨n, skew, ttl, valid, loss, hear, keys, queue, rv, rates⟩ := c
  unfold Cfg.v
  simp only
  have T0 := (Turns.refl [] w).alloc (.cells #[.int .i64 n, .int .i64 skew, .int .i64 ttl, .int .i64 valid, .int .i64 loss, .int .i64 hear, .int .i64 keys, .int .i64 queue, rv] 52)
  have hB := Blk.new w #[.int .i64 n, .int .i64 skew, .int .i64 ttl, .int .i64 valid, .int .i64 loss, .int .i64 hear, .int .i64 keys, .int .i64 queue, rv] 52
  go_enter Try.func32, Try.ntmps32
  go_wp2_with fail
  generalize w.alloc (.cells #[.int .i64 n, .int .i64 skew, .int .i64 ttl, .int .i64 valid, .int .i64 loss, .int .i64 hear, .int .i64 keys, .int .i64 queue, rv] 52) = w0 at *
  have td := T0.drew
  have hBd : Blk w0.drew w.heap.size _ _ := hB
  go_wp2_with fail
  refine wp_region_flo [(0, true), (1, true), (2, true), (3, true), (4, true), (5, true), (6, false), (7, false), (8, false), (9, true)] (fun W => Blk W w.heap.size #[.int .i64 n, .int .i64 skew, .int .i64 ttl, .int .i64 valid, .int .i64 loss, .int .i64 hear, .int .i64 keys, .int .i64 queue, rv] 52) (by kernel_rfl) rfl (by kernel_rfl) (by intro c d v a w h; cases d <;> first | (simpa [Exit.then, Exit.inBlock, Act.put] using h) | exact h) (hBd) ?_
  clear T0 hB
  generalize w0.drew = w1 at *
  have d1 : w1.cell? ⟨w.heap.size, 1, none⟩ = some _ := hBd.cell 1
  have d2 : w1.cell? ⟨w.heap.size, 2, none⟩ = some _ := hBd.cell 2
  have d3 : w1.cell? ⟨w.heap.size, 3, none⟩ = some _ := hBd.cell 3
  refine flo_read _ rfl (fun K hK => ?_)
  go_simp
  first | (refine hK _ ?_) | (refine ⟨fun W hS => ?_, hK _ ?_⟩; · (have x1 : W.cell? ⟨w.heap.size, 1, none⟩ = some _ := hS.cell 1; have x2 : W.cell? ⟨w.heap.size, 2, none⟩ = some _ := hS.cell 2; have x3 : W.cell? ⟨w.heap.size, 3, none⟩ = some _ := hS.cell 3; try go_simp))
  clear hK K
  refine flo_read _ rfl (fun K hK => ?_)
  go_simp
  first | (refine hK _ ?_) | (refine ⟨fun W hS => ?_, hK _ ?_⟩; · (have x1 : W.cell? ⟨w.heap.size, 1, none⟩ = some _ := hS.cell 1; have x2 : W.cell? ⟨w.heap.size, 2, none⟩ = some _ := hS.cell 2; have x3 : W.cell? ⟨w.heap.size, 3, none⟩ = some _ := hS.cell 3; try go_simp))
  clear hK K
  refine flo_read _ rfl (fun K hK => ?_)
  go_simp
  first | (refine hK _ ?_) | (refine ⟨fun W hS => ?_, hK _ ?_⟩; · (have x1 : W.cell? ⟨w.heap.size, 1, none⟩ = some _ := hS.cell 1; have x2 : W.cell? ⟨w.heap.size, 2, none⟩ = some _ := hS.cell 2; have x3 : W.cell? ⟨w.heap.size, 3, none⟩ = some _ := hS.cell 3; try go_simp))
  clear hK K
  refine flo_read _ rfl (fun K hK => ?_)
  go_simp
  first | (refine hK _ ?_) | (refine ⟨fun W hS => ?_, hK _ ?_⟩; · (have x1 : W.cell? ⟨w.heap.size, 1, none⟩ = some _ := hS.cell 1; have x2 : W.cell? ⟨w.heap.size, 2, none⟩ = some _ := hS.cell 2; have x3 : W.cell? ⟨w.heap.size, 3, none⟩ = some _ := hS.cell 3; try go_simp))
  clear hK K
  refine flo_read _ rfl (fun K hK => ?_)
  go_simp
  first | (refine hK _ ?_) | (refine ⟨fun W hS => ?_, hK _ ?_⟩; · (have x1 : W.cell? ⟨w.heap.size, 1, none⟩ = some _ := hS.cell 1; have x2 : W.cell? ⟨w.heap.size, 2, none⟩ = some _ := hS.cell 2; have x3 : W.cell? ⟨w.heap.size, 3, none⟩ = some _ := hS.cell 3; try go_simp))
  clear hK K
  refine flo_read _ rfl (fun K hK => ?_)
  go_simp
  first | (refine hK _ ?_) | (refine ⟨fun W hS => ?_, hK _ ?_⟩; · (have x1 : W.cell? ⟨w.heap.size, 1, none⟩ = some _ := hS.cell 1; have x2 : W.cell? ⟨w.heap.size, 2, none⟩ = some _ := hS.cell 2; have x3 : W.cell? ⟨w.heap.size, 3, none⟩ = some _ := hS.cell 3; try go_simp))
  clear hK K
  clear d1 d2 d3
  refine flo_alone _ rfl ?_
  go_wp2_with fail
  go_at_call 85
  refine Calls.mono (mul_walk 4 skew _) ?_
  rintro e w2 ⟨rfl, t2⟩
  go_wp2_with fail
  refine ⟨fun W => Blk W w.heap.size #[.int .i64 n, .int .i64 skew, .int .i64 ttl, .int .i64 valid, .int .i64 loss, .int .i64 hear, .int .i64 keys, .int .i64 queue, rv] 52, fun W h => h, hBd.turns t2 (by simp), ?_⟩
  have hB2 := hBd.turns t2 (by simp)
  have T2 := td.trans t2
  have A2 := (Turns.refl [] w2).alloc (.cells #[.int .i64 valid, .int .i64 ttl, .int .i64 (mul 4 skew)] 3)
  have R2 : IRow (w2.alloc (.cells #[.int .i64 valid, .int .i64 ttl, .int .i64 (mul 4 skew)] 3)) _ _ := IRow.of_blk (xs := [valid, ttl, mul 4 skew]) (Blk.new w2 #[.int .i64 valid, .int .i64 ttl, .int .i64 (mul 4 skew)] 3) rfl (by simp)
  refine flo_alone _ rfl ?_
  go_wp2_with fail
  refine ⟨fun W => Blk W w.heap.size #[.int .i64 n, .int .i64 skew, .int .i64 ttl, .int .i64 valid, .int .i64 loss, .int .i64 hear, .int .i64 keys, .int .i64 queue, rv] 52, fun W h => h, hB2.turns A2 (by simp), ?_⟩
  have hB3 := hB2.turns A2 (by simp)
  have T3 := T2.trans A2
  refine flo_alone _ rfl ?_
  go_wp2_with fail
  go_at_call 84
  refine Calls.mono (add_is _ [valid, ttl, mul 4 skew] 3 _ R2) ?_
  rintro e w4 ⟨rfl, t4⟩
  go_wp2_with fail
  refine ⟨fun W => Blk W w.heap.size #[.int .i64 n, .int .i64 skew, .int .i64 ttl, .int .i64 valid, .int .i64 loss, .int .i64 hear, .int .i64 keys, .int .i64 queue, rv] 52, fun W h => h, hB3.turns t4 (by simp), ?_⟩
  refine flo_read _ rfl (fun K hK => ?_)
  go_simp
  first | (refine hK _ ?_) | (refine ⟨fun W hS => ?_, hK _ ?_⟩; · (skip; try go_simp))
  clear hK K
  refine flo_end ?_
  go_wp2_with fail
  go_ret
  exact ⟨rfl, T3.trans t4⟩
theorem alive_any (w : World) : Calls Try.prog 27 #[] w fun e w' => e = .returned (.bool true) ∧ Turns [] w w' := by
  have s0 : [(2 : Int)].all (inSpan 0) = true := by rfl
  have s1 : [(10 : Int), 20, 99, 5].all (inSpan 1) = true := by rfl
  have hq : sum [(20 : Int), 10, mul 4 2] = 38 := by unfold sum two mul fit; rfl
  have hN : nextR 5 12 1 = (16, 0) := by unfold nextR nextT; rfl
  have hO : ownerR 5 16 = 1 := by unfold ownerR; rfl
  have TA := (Turns.refl [] w).alloc (.cells #[.int .i64 1, .int .i64 9, .int .i64 2, .int .i64 8] 54)
  have hRt : RdS 2 (w.alloc (.cells #[.int .i64 1, .int .i64 9, .int .i64 2, .int .i64 8] 54)) (.slice (some ⟨w.heap.size, 0, none⟩) 2 2) (rts [(1, 9), (2, 8)]) :=
    RdS.of_cells (rows := rts [(1, 9), (2, 8)]) (heap_alloc w (.cells #[.int .i64 1, .int .i64 9, .int .i64 2, .int .i64 8] 54)).1 rfl (by intro r hr; simp [rts] at hr; rcases hr with rfl | rfl <;> rfl) 2 (by decide) (by decide)
  go_enter Try.func27, Try.ntmps27
  go_wp2_with fail
  go_at_call 75
  refine Calls.mono (key_yes 1 7 _ (by decide)) ?_
  rintro e w1 ⟨rfl, t1⟩
  have hB := (Blk.new (w.alloc (.cells #[.int .i64 1, .int .i64 9, .int .i64 2, .int .i64 8] 54)) #[.int .i64 3, .int .i64 2, .int .i64 10, .int .i64 20, .int .i64 99, .int .i64 5, .int .i64 4, .int .i64 2, .slice (some ⟨w.heap.size, 0, none⟩) 2 2] 52).turns t1 (by simp)
  have TB := ((Turns.refl [] (w.alloc (.cells #[.int .i64 1, .int .i64 9, .int .i64 2, .int .i64 8] 54))).alloc (.cells #[.int .i64 3, .int .i64 2, .int .i64 10, .int .i64 20, .int .i64 99, .int .i64 5, .int .i64 4, .int .i64 2, .slice (some ⟨w.heap.size, 0, none⟩) 2 2] 52)).trans t1
  replace hRt := hRt.mv (fun a u hu => TB.old hu)
  have T1 := TA.trans TB
  simp only [World.size_alloc] at hB
  clear TA TB t1
  have c0 : w1.cell? ⟨w.heap.size + 1, 0, none⟩ = some _ := hB.cell 0
  have c1 : w1.cell? ⟨w.heap.size + 1, 1, none⟩ = some _ := hB.cell 1
  have c2 : w1.cell? ⟨w.heap.size + 1, 2, none⟩ = some _ := hB.cell 2
  have c3 : w1.cell? ⟨w.heap.size + 1, 3, none⟩ = some _ := hB.cell 3
  have c4 : w1.cell? ⟨w.heap.size + 1, 4, none⟩ = some _ := hB.cell 4
  have c5 : w1.cell? ⟨w.heap.size + 1, 5, none⟩ = some _ := hB.cell 5
  have c6 : w1.cell? ⟨w.heap.size + 1, 6, none⟩ = some _ := hB.cell 6
  have c7 : w1.cell? ⟨w.heap.size + 1, 7, none⟩ = some _ := hB.cell 7
  have c8 : w1.cell? ⟨w.heap.size + 1, 8, none⟩ = some _ := hB.cell 8
  go_wp2_with fail
  go_at_call 28
  refine Calls.mono (rate_yes _ ⟨3, 2, 10, 20, 99, 5, 4, 2, .slice (some ⟨w.heap.size, 0, none⟩) 2 2, [(1, 9), (2, 8)]⟩ 65543 (2, 8) hRt (by decide) rfl) ?_
  rintro e w2 ⟨rfl, t2⟩
  replace hB := hB.turns t2 (by simp)
  replace hRt := hRt.mv (fun a u hu => t2.old hu)
  have T2 := T1.trans t2
  have hlt2 := hB.lt
  clear c0 c1 c2 c3 c4 c5 c6 c7 c8
  have hQ := Blk.new w2 #[.int .i64 2, .int .i64 8] 54
  have hs2 := T2.size
  go_wp2_with fail
  go_at_call 76
  refine Calls.mono (next_is 5 12 1 _ (by unfold mayNext; decide) (by decide)) ?_
  rintro e w3 ⟨rfl, t3⟩
  have TC := ((Turns.refl [] w2).alloc (.cells #[.int .i64 2, .int .i64 8] 54)).trans t3
  rw [hN]
  replace hB := hB.turns TC (by simp)
  replace hQ := hQ.turns t3 (by simp)
  have T3 := T2.trans TC
  have q1 : w3.cell? ⟨w2.heap.size, 1, none⟩ = some _ := hQ.cell 1
  have c6 : w3.cell? ⟨w.heap.size + 1, 6, none⟩ = some _ := hB.cell 6
  have f6 := hB.frozen 6
  have hB2 := hB.set 6 (.int .i64 0)
  have hqn : w2.heap.size ≠ w.heap.size + 1 := by omega
  have hQ2 := hQ.far (p := ⟨w.heap.size + 1, 6, none⟩) hqn (.int .i64 0)
  have T4 := T3.setCell (p := ⟨w.heap.size + 1, 6, none⟩) (by simp) (.int .i64 0)
  have c0 : w3.cell? ⟨w.heap.size + 1, 0, none⟩ = some _ := hB.cell 0
  have c1 : w3.cell? ⟨w.heap.size + 1, 1, none⟩ = some _ := hB.cell 1
  have c2 : w3.cell? ⟨w.heap.size + 1, 2, none⟩ = some _ := hB.cell 2
  have c3 : w3.cell? ⟨w.heap.size + 1, 3, none⟩ = some _ := hB.cell 3
  have c4 : w3.cell? ⟨w.heap.size + 1, 4, none⟩ = some _ := hB.cell 4
  have c5 : w3.cell? ⟨w.heap.size + 1, 5, none⟩ = some _ := hB.cell 5
  have c7 : w3.cell? ⟨w.heap.size + 1, 7, none⟩ = some _ := hB.cell 7
  have c8 : w3.cell? ⟨w.heap.size + 1, 8, none⟩ = some _ := hB.cell 8
  go_wp2_with fail
  go_at_call 30
  refine Calls.mono (check_rooms _ ⟨3, 2, 10, 20, 99, 5, 0, 2, .slice (some ⟨w.heap.size, 0, none⟩) 2 2, [(1, 9), (2, 8)]⟩ rfl s0 s1 rfl) ?_
  rintro e w4 ⟨rfl, t4⟩
  clear c0 c1 c2 c3 c4 c5 c6 c7 c8 q1 f6
  have hB4 := hB2.turns t4 (by simp)
  have T5 := T4.trans t4
  have e0 : w4.cell? ⟨w.heap.size + 1, 0, none⟩ = some _ := hB4.cell 0
  have e1 : w4.cell? ⟨w.heap.size + 1, 1, none⟩ = some _ := hB4.cell 1
  have e2 : w4.cell? ⟨w.heap.size + 1, 2, none⟩ = some _ := hB4.cell 2
  have e3 : w4.cell? ⟨w.heap.size + 1, 3, none⟩ = some _ := hB4.cell 3
  have e4 : w4.cell? ⟨w.heap.size + 1, 4, none⟩ = some _ := hB4.cell 4
  have e5 : w4.cell? ⟨w.heap.size + 1, 5, none⟩ = some _ := hB4.cell 5
  have e6 : w4.cell? ⟨w.heap.size + 1, 6, none⟩ = some _ := hB4.cell 6
  have e7 : w4.cell? ⟨w.heap.size + 1, 7, none⟩ = some _ := hB4.cell 7
  have e8 : w4.cell? ⟨w.heap.size + 1, 8, none⟩ = some _ := hB4.cell 8
  go_wp2_with fail
  go_at_call 32
  refine Calls.mono (quarantine_is _ ⟨3, 2, 10, 20, 99, 5, 0, 2, .slice (some ⟨w.heap.size, 0, none⟩) 2 2, [(1, 9), (2, 8)]⟩) ?_
  rintro e w5 ⟨rfl, t5⟩
  rw [hq]
  go_wp2_with fail
  go_at_call 77
  refine Calls.mono (owner_is 5 16 _) ?_
  rintro e w6 ⟨rfl, t6⟩
  rw [hO]
  go_wp2_with fail
  go_ret
  exact ⟨rfl, (T5.trans t5).trans t6⟩
end Go.Proofs.Ythnegmpdadkkcaa.Ca
