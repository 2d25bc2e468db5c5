/- The walks of package conf: numbers, keys, ballots, spans, Check, Quarantine. -/
import Derived.Test.YthnegmpdadkkcaaProg
import Derived.Test.YthnegmpdadkkcaaHs
import Derived.Test.YthnegmpdadkkcaaHr
import Derived.Test.YthnegmpdadkkcaaHb
import Derived.Deep.LoopGhost
import Derived.Lib.MinMax
import Derived.KernelRfl
import Derived.Lib.Hide
import Derived.WalkSpells
set_option linter.unusedVariables false
set_option linter.unusedSimpArgs false
set_option maxRecDepth 100000
namespace Go.Proofs.Ythnegmpdadkkcaa.Cf
open Go.RowKit Go.MapKept Hm Hs Hr Hb
def inSpan (lo x : Int) : Bool := !(decide (x < lo) || decide (x > 2147483648))
theorem span1_is (w : World) (b : Nat) (lo x : Int) (hB : w.cell? ⟨b, 0, none⟩ = some (.int .i64 lo)) : Calls Try.prog 120 #[.int .i64 x, .pointer (some ⟨b, 0, none⟩)] w fun e w' => e = .returned (.bool (!inSpan lo x)) ∧ Turns [] w w' := by
  have hd : (!inSpan lo x) = (decide (x < lo) || decide (x > 2147483648)) := by unfold inSpan; rw [Bool.not_not]
  rw [hd]
  clear hd
  by_cases h1 : x < lo
  · have g1 := decide_eq_true h1
    rw [show (decide (x < lo) || decide (x > 2147483648)) = true from by rw [g1]; rfl]
    go_enter Try.func120, Try.ntmps120
    go_wp2_with fail
    go_ret
    exact ⟨rfl, Turns.refl _ _⟩
  · have g1 := decide_eq_false h1
    by_cases h2 : x > 2147483648
    · have g2 := decide_eq_true h2
      rw [show (decide (x < lo) || decide (x > 2147483648)) = true from by rw [g1, g2]; rfl]
      go_enter Try.func120, Try.ntmps120
      go_wp2_with fail
      go_ret
      exact ⟨rfl, Turns.refl _ _⟩
    · have g2 := decide_eq_false h2
      rw [show (decide (x < lo) || decide (x > 2147483648)) = false from by rw [g1, g2]; rfl]
      go_enter Try.func120, Try.ntmps120
      go_wp2_with fail
      go_ret
      exact ⟨rfl, Turns.refl _ _⟩
/-- at the first that is outside -/
def outAt (lo : Int) : List Int → Nat → Int
  | [], _ => -1
  | x :: l, k => if inSpan lo x then outAt lo l (k + 1) else (k : Int)
theorem outAt_cons (lo x : Int) (l : List Int) (k : Nat) : outAt lo (x :: l) k = if inSpan lo x then outAt lo l (k + 1) else (k : Int) := rfl
theorem outAt_nil (lo : Int) (k : Nat) : outAt lo [] k = -1 := rfl
theorem outAt_ge (lo : Int) : ∀ (l : List Int) (k : Nat), decide (outAt lo l k ≥ 0) = !(l.all (inSpan lo))
  | [], k => by simp [outAt]
  | x :: l, k => by
    unfold outAt
    cases h : inSpan lo x
    · simp [h]
    · simp only [h, if_true, List.all_cons, Bool.true_and]
      exact outAt_ge lo l (k + 1)
theorem indexInt_is (w : World) (b : Nat) (lo : Int) (v : Value) (xs : List Int) (h : RdS 1 w v (ins xs)) (hB : w.cell? ⟨b, 0, none⟩ = some (.int .i64 lo)) :
    Calls Try.prog 147 #[v, .func (.func 120) #[] #[.pointer (some ⟨b, 0, none⟩)]] w fun e w' => e = .returned (.int .i64 (outAt lo xs 0)) ∧ Turns [] w w' := by
  have h0 := h
  obtain ⟨A, c, rfl, hc, hcm⟩ := h.form
  simp only [ins_len] at hc ⊢
  go_enter Try.func147, Try.ntmps147
  go_wp2_with fail
  go_loopw [5, 8] (fun v5 v8 wr => ∃ (k : Nat), k ≤ xs.length ∧ v8 = .int .i64 k ∧ outAt lo xs 0 = outAt lo (xs.drop k) k ∧ Turns [] w wr) (fun _ v8 _ => xs.length - (intOf v8).toNat)
  case atStart => exact ⟨0, Nat.zero_le _, rfl, rfl, Turns.refl _ _⟩
  case round =>
    obtain ⟨k, hk, rfl, ho, T⟩ := hrel
    by_cases hlt : k < xs.length
    · have g1 : decide ((k : Int) < (xs.length : Int)) = true := by simp; omega
      obtain ⟨x, hx⟩ : ∃ x, xs[k]? = some x := ⟨_, List.getElem?_eq_getElem hlt⟩
      obtain ⟨ad, c', hv, _, hcell⟩ := h0.at_ (j := k) (r := [.int .i64 x]) (by unfold ins; rw [List.getElem?_map, hx]; rfl)
      injection hv with e1 e2 e3
      subst e1 e3
      have i0 := T.old (hcell 0 _ rfl)
      rw [Nat.mul_one, Nat.add_zero] at i0
      have hB1 := T.old hB
      have hdr : xs.drop k = x :: xs.drop (k + 1) := by rw [List.drop_eq_getElem?_toList_append, hx]; rfl
      rw [hdr, outAt_cons] at ho
      by_cases hp : inSpan lo x = true
      · have hq : (!inSpan lo x) = false := by rw [hp]; rfl
        rw [hp] at ho
        simp only [if_true] at ho
        have hoh : Hid (outAt lo xs 0 = outAt lo (xs.drop (k + 1)) (k + 1)) := ho
        clear ho
        go_wp2_with fail
        go_at_call 120
        refine Calls.mono (span1_is _ b lo x hB1) ?_
        rintro e w2 ⟨rfl, t2⟩
        go_wp2_with fail
        go_roundw
        case rel => exact ⟨k + 1, by omega, by go_num, hoh.out, T.trans t2⟩
        case measure => simp [intOf]; omega
      · have hq : (!inSpan lo x) = true := by simpa using hp
        rw [if_neg hp] at ho
        replace ho : Hid (outAt lo xs 0 = (k : Int)) := ho
        go_wp2_with fail
        go_at_call 120
        refine Calls.mono (span1_is _ b lo x hB1) ?_
        rintro e w2 ⟨rfl, t2⟩
        go_wp2_with fail
        go_ret
        rw [ho.out]
        exact ⟨rfl, T.trans t2⟩
    · obtain rfl : k = xs.length := by omega
      have g1 : decide ((xs.length : Int) < (xs.length : Int)) = false := by simp
      rw [List.drop_length, outAt_nil] at ho
      replace ho : Hid (outAt lo xs 0 = -1) := ho
      go_wp2_with fail
      go_ret
      rw [ho.out]
      exact ⟨rfl, T⟩
theorem containsInt_is (w : World) (b : Nat) (lo : Int) (v : Value) (xs : List Int) (h : RdS 1 w v (ins xs)) (hB : w.cell? ⟨b, 0, none⟩ = some (.int .i64 lo)) :
    Calls Try.prog 119 #[v, .func (.func 120) #[] #[.pointer (some ⟨b, 0, none⟩)]] w fun e w' => e = .returned (.bool (!(xs.all (inSpan lo)))) ∧ Turns [] w w' := by
  have hg := outAt_ge lo xs 0
  go_enter Try.func119, Try.ntmps119
  go_wp2_with fail
  go_at_call 147
  refine Calls.mono (indexInt_is w b lo v xs h hB) ?_
  rintro e w2 ⟨rfl, t2⟩
  go_wp2_with fail
  go_ret
  exact ⟨rfl, t2⟩
theorem span_is (w : World) (lo : Int) (v : Value) (xs : List Int) (h : RdS 1 w v (ins xs)) : Calls Try.prog 79 #[.int .i64 lo, v] w fun e w' => e = .returned (.bool (xs.all (inSpan lo))) ∧ Turns [] w w' := by
  have T0 := (Turns.refl [] w).alloc (.cells #[.int .i64 lo] 3)
  have h1 := h.mv (fun a u hu => T0.old hu)
  have hB : (w.alloc (.cells #[.int .i64 lo] 3)).cell? ⟨w.heap.size, 0, none⟩ = some _ := (Blk.new w #[.int .i64 lo] 3).cell 0
  go_enter Try.func79, Try.ntmps79
  go_wp2_with fail
  go_at_call 119
  refine Calls.mono (containsInt_is _ _ lo v xs h1 hB) ?_
  rintro e w2 ⟨rfl, t2⟩
  go_wp2_with fail
  go_ret
  exact ⟨by simp, T0.trans t2⟩
end Go.Proofs.Ythnegmpdadkkcaa.Cf
