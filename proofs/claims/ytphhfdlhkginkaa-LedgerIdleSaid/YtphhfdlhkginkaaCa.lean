/- The walks of package conf over a configuration, and annonalaw03.alive. -/
import Derived.Test.YtphhfdlhkginkaaWh
import Derived.Test.YtphhfdlhkginkaaWg
set_option linter.unusedVariables false
set_option linter.unusedSimpArgs false
set_option maxRecDepth 100000
namespace Go.Proofs.Ytphhfdlhkginkaa.Ca
open Go.RowKit Go.MapKept Hm Hs Hr Hb Hf Hv Cf Cn Sm Sat Mu
structure Cfg where
  n : Int
  skew : Int
  ttl : Int
  valid : Int
  loss : Int
  hear : Int
  keys : Int
  queue : Int
  rv : Value
  rates : List (Int × Int)
def Cfg.v (c : Cfg) : Value := .agg #[.int .i64 c.n, .int .i64 c.skew, .int .i64 c.ttl, .int .i64 c.valid, .int .i64 c.loss, .int .i64 c.hear, .int .i64 c.keys, .int .i64 c.queue, c.rv]
attribute [local go_sem] Cfg.v
def rts (l : List (Int × Int)) : List (List Value) := l.map fun r => [.int .i64 r.1, .int .i64 r.2]
@[simp] theorem rts_len (l : List (Int × Int)) : (rts l).length = l.length := by simp [rts]
theorem kright_is (k : Int) (w : World) : Calls Try.prog 68 #[.int .i64 k] w fun e w' => e = .returned (.bool (decide (0 ≤ k ∧ k < 524288))) ∧ Turns [] w w' := by
  by_cases h1 : k ≥ 0
  · have g1 := decide_eq_true h1
    by_cases h2 : k < 524288
    · have g2 := decide_eq_true h2
      rw [decide_eq_true (by omega : 0 ≤ k ∧ k < 524288)]
      go_enter Try.func68, Try.ntmps68
      go_wp2_with fail
      go_ret
      exact ⟨rfl, Turns.refl _ _⟩
    · have g2 := decide_eq_false h2
      rw [decide_eq_false (by omega : ¬ (0 ≤ k ∧ k < 524288))]
      go_enter Try.func68, Try.ntmps68
      go_wp2_with fail
      go_ret
      exact ⟨rfl, Turns.refl _ _⟩
  · have g1 := decide_eq_false h1
    rw [decide_eq_false (by omega : ¬ (0 ≤ k ∧ k < 524288))]
    go_enter Try.func68, Try.ntmps68
    go_wp2_with fail
    go_ret
    exact ⟨rfl, Turns.refl _ _⟩
theorem rate_yes (w : World) (c : Cfg) (k : Int) (r : Int × Int) (hr : RdS 2 w c.rv (rts c.rates)) (hk : 0 ≤ k ∧ k < 524288) (hi : c.rates[(k / 65536).toNat]? = some r) :
    Calls Try.prog 54 #[c.v, .int .i64 k] w fun e w' => e = .returned (.tuple #[.agg #[.int .i64 r.1, .int .i64 r.2], .bool true]) ∧ Turns [] w w' := by
  obtain ⟨n, skew, ttl, valid, loss, hear, keys, queue, rv, rates⟩ := c
  simp only at hr hi
  obtain ⟨A, cap, rfl, hcap, hcm⟩ := hr.form
  simp only [rts_len] at hcap
  unfold Cfg.v
  simp only
  obtain ⟨q, hq⟩ : ∃ q : Nat, k / 65536 = q := ⟨(k / 65536).toNat, by omega⟩
  rw [hq] at hi
  simp only [Int.toNat_natCast] at hi
  have hql : q < rates.length := (List.getElem?_eq_some_iff.1 hi).1
  obtain ⟨ad, c', hv, _, hcell⟩ := hr.at_ (j := q) (r := [.int .i64 r.1, .int .i64 r.2]) (by unfold rts; rw [List.getElem?_map, hi]; rfl)
  injection hv with e1 e2 e3
  subst e1 e3
  have i0 := hcell 0 _ rfl
  have i1 := hcell 1 _ rfl
  rw [Nat.add_zero] at i0
  rw [add_field _ _ _ (by omega)] at i1
  have g1 : decide (0 ≤ k ∧ k < 524288) = true := decide_eq_true hk
  have g2 : decide ((q : Int) ≥ (rates.length : Int)) = false := by simp; omega
  have hkq : 0 ≤ k := hk.1
  rw [rts_len]
  let rv : Value := .slice (some ad) rates.length cap
  have T0 := (Turns.refl [] w).alloc (.cells #[.int .i64 n, .int .i64 skew, .int .i64 ttl, .int .i64 valid, .int .i64 loss, .int .i64 hear, .int .i64 keys, .int .i64 queue, .slice (some ad) rates.length cap] 27)
  have hB := (Blk.new w #[.int .i64 n, .int .i64 skew, .int .i64 ttl, .int .i64 valid, .int .i64 loss, .int .i64 hear, .int .i64 keys, .int .i64 queue, .slice (some ad) rates.length cap] 27).alloc (.cells #[.int .i64 0, .int .i64 0] 44)
  have T1 := T0.alloc (.cells #[.int .i64 0, .int .i64 0] 44)
  have hR := Blk.new (w.alloc (.cells #[.int .i64 n, .int .i64 skew, .int .i64 ttl, .int .i64 valid, .int .i64 loss, .int .i64 hear, .int .i64 keys, .int .i64 queue, .slice (some ad) rates.length cap] 27)) #[.int .i64 0, .int .i64 0] 44
  go_enter Try.func54, Try.ntmps54
  go_wp2_with fail
  go_at_call 68
  refine Calls.mono (kright_is k _) ?_
  rintro e w1 ⟨rfl, t1⟩
  replace hB := hB.turns t1 (by simp)
  replace hR := hR.turns t1 (by simp)
  have T2 := T1.trans t1
  have d8 : w1.cell? ⟨w.heap.size, 8, none⟩ = some _ := hB.cell 8
  have j0 := T2.old i0
  have j1 := T2.old i1
  clear i0 i1 T0 T1 t1
  simp only [World.size_alloc] at hR
  have f0 := hR.frozen 0
  have f1 := hR.frozen 1
  have e0 : w1.cell? ⟨w.heap.size + 1, 0, none⟩ = some _ := hR.cell 0
  have e1 : w1.cell? ⟨w.heap.size + 1, 1, none⟩ = some _ := hR.cell 1
  have hR2 := (hR.set 0 (.int .i64 r.1)).set 1 (.int .i64 r.2)
  have z0 := hR2.cell 0
  have z1 := hR2.cell 1
  have T3 := (T2.setCell (p := ⟨w.heap.size + 1, 0, none⟩) (by simp) (.int .i64 r.1)).setCell (p := ⟨w.heap.size + 1, 1, none⟩) (by simp) (.int .i64 r.2)
  go_wp2_with fail
  refine bodyPost_ret (res_list (rs := [.cell 4 44, .tmp 5]) rfl (by simp) (.cell (w.heap.size + 1) _ _ _ rfl hR2 Try.underlying44 rfl (by kernel_rfl) (.tmp .nil))) rfl ?_
  exact ⟨rfl, T3⟩
theorem ins_blk {w : World} {b : Nat} {l : List Int} {t : TypeId} {cs : Array Value} {fr : Nat × Nat} (h : w.heap[b]? = some (.cells cs t fr)) (hx : cs.toList = l.map (Value.int .i64)) (c : Nat) (hc : l.length ≤ c) (hm : c ≤ 9223372036854775807) : RdS 1 w (.slice (some ⟨b, 0, Option.none⟩) l.length c) (ins l) :=
  ⟨some ⟨b, 0, Option.none⟩, c, by simp, by simpa using hc, hm, by simp, ⟨by simp; omega, fun _ => ⟨_, rfl, fun j r hj => by
    unfold ins at hj
    rw [List.getElem?_map] at hj
    cases hl : l[j]? with
    | none => rw [hl] at hj; cases hj
    | some x =>
      rw [hl] at hj
      simp only [Option.map_some, Option.some.injEq] at hj
      subst hj
      refine ⟨rfl, fun i u hu => ?_⟩
      cases i with
      | zero =>
        simp only [List.getElem?_cons_zero, Option.some.injEq] at hu
        subst hu
        rw [Nat.mul_one, Nat.add_zero, add_zero_]
        simp only [World.cell?, h, Option.isSome_none, Bool.false_eq_true, if_false]
        rw [← Array.getElem?_toList, hx, List.getElem?_map, hl]
        rfl
      | succ i => simp at hu⟩⟩, by intro r hr; obtain ⟨x, _, rfl⟩ := List.mem_map.1 hr; rfl⟩
end Go.Proofs.Ytphhfdlhkginkaa.Ca
