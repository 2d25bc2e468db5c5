/- The law RingRound. -/
import Derived.Test.YtmaielpfeajelaaDoorRi
import Derived.Test.YtmaielpfeajelaaDoorRk
set_option linter.unusedVariables false
set_option linter.unusedSimpArgs false
set_option maxRecDepth 100000
namespace Go.Proofs.YtmaielpfeajelaaDoor.Rl
open Go.RowKit Go.Shelf Go.ChangeShapes Go.WideShapes Hm Hs Hv Hc Hd Hx Hy Ho Hn Ha Ra Rg Rb Rc Rd Rh Ri Rk
theorem set_eq {s t : Nat} (hs : U64 s) (ht : U64 t) (h : ∀ y, bit s y = true ↔ y ∈ nod t) : s = t := by
  refine bit_ext (fun y => ?_)
  have h1 : ∀ {u : Nat}, U64 u → 64 ≤ y → bit u y = false := fun {u} hu hy => by
    rw [← bit_test]
    have hu' : u < 18446744073709551616 := hu
    have : 2 ^ 64 ≤ 2 ^ y := Nat.pow_le_pow_right (by omega) hy
    exact Nat.testBit_lt_two_pow (by omega)
  by_cases hy : y < 64
  · have h2 := h y
    rw [mem_nod] at h2
    cases hb : bit s y with
    | true => exact ((h2.1 hb).2).symm
    | false =>
      cases hb2 : bit t y with
      | false => rfl
      | true => exact absurd (h2.2 ⟨hy, hb2⟩) (by rw [hb]; simp)
  · rw [h1 hs (by omega), h1 ht (by omega)]
theorem and_self_mask {a m : Nat} : (a &&& m) &&& m = a &&& m := by rw [Nat.and_assoc, Nat.and_self]
set_option maxHeartbeats 4000000 in
theorem round_is (S s F : Nat) (hS : S < 256) (hs : U64 s) (hF : F < 256) (w : World) (hT : Tab w) : Calls Tryd.prog 8 #[.int .u8 S, .int .u64 s, .int .u8 F] w fun e w' => e = .returned (.bool true) ∧ Turns [] w w' := by
  obtain ⟨N, hN⟩ : ∃ N, S % 64 + 1 = N := ⟨_, rfl⟩
  have hN1 : 1 ≤ N ∧ N ≤ 64 := by omega
  have hp : 2 ^ N ≤ 2 ^ 64 := Nat.pow_le_pow_right (by omega) hN1.2
  have g0 : IntKind.i64.wrap (S : Int) = (S : Int) := IntWalk.i64_in _ (by omega)
  have g1 : Int.tmod (S : Int) 64 = ((S % 64 : Nat) : Int) := by rw [Int.tmod_eq_emod_of_nonneg (by omega)]; omega
  have g1b : IntKind.i64.wrap ((S % 64 : Nat) : Int) = ((S % 64 : Nat) : Int) := IntWalk.i64_in _ (by omega)
  have g2 : IntKind.i64.wrap (((S % 64 : Nat) : Int) + 1) = (N : Int) := by rw [IntWalk.i64_in _ (by omega)]; omega
  have g1c : (S : Int) % 64 = ((S % 64 : Nat) : Int) := by omega
  generalize S % 64 = q at *
  obtain ⟨i, hi⟩ : ∃ i, F % N = i := ⟨_, rfl⟩
  have hil : i < N := by rw [← hi]; exact Nat.mod_lt _ (by omega)
  have g3 : IntKind.i64.wrap (F : Int) = (F : Int) := IntWalk.i64_in _ (by omega)
  have g4 : Int.tmod (F : Int) (N : Int) = (i : Int) := by rw [Int.tmod_eq_emod_of_nonneg (by omega), ← hi]; simp
  have g4b : IntKind.i64.wrap (i : Int) = (i : Int) := IntWalk.i64_in _ (by omega)
  have g4c : (F : Int) % (N : Int) = (i : Int) := by rw [← hi]; simp
  have g4d : ¬ ((N : Int) = 0) := by omega
  have g4e : ((N : Int) == 0) = false := by simp; omega
  have g4f : ¬ (N = 0) := by omega
  obtain ⟨m, hm⟩ : ∃ m, 2 ^ N - 1 = m := ⟨_, rfl⟩
  have Ah := Lib.hid (fun w => all_yes N hN1 w)
  rw [hm] at Ah
  have ga : bits .and .u64 (s : Int) (m : Int) = ((s &&& m : Nat) : Int) := u64_and_nat s m hs (by omega)
  have la : U64 (s &&& m) := Nat.lt_of_le_of_lt Nat.and_le_left hs
  have Wh := Lib.hid (fun w => with_yes (s &&& m) i la (by omega) w)
  obtain ⟨x, hx⟩ : ∃ x, (s &&& m) ||| 2 ^ i = x := ⟨_, rfl⟩
  rw [hx] at Wh
  have hxl : U64 x := by rw [← hx]; exact Nat.or_lt_two_pow (n := 64) la (Nat.pow_lt_pow_right (by omega) (by omega))
  have hxi : bit x i = true := by rw [← hx, bit_or, bit_pow]; simp
  have hxm : x &&& m = x := by
    refine bit_ext (fun y => ?_)
    rw [← hx, ← hm, bit_and, bit_or, bit_and, bit_mask, bit_pow]
    by_cases h1 : y < N
    · simp [h1]
    · have : i ≠ y := by omega
      simp [h1, this]
  have hsrt := nod_sorted x
  obtain ⟨p, hpl⟩ := List.getElem?_of_mem (mem_nod.2 ⟨(by omega : i < 64), hxi⟩)
  have hlen := nod_ones x
  have hl64 := nod_len x
  have Ch := Lib.hid (fun w => count_is x hxl w)
  rw [← hlen] at Ch
  have Nh := Lib.hid (fun k (hk : k < N) w h => next_is x N k hxl hN1 hk w h)
  rw [hm, hxm] at Nh
  have hin : Hid (∀ y ∈ nod x, y < N) := Lib.hid (fun y hy => by
    obtain ⟨_, h2⟩ := mem_nod.1 hy
    rw [← hxm, ← hm, bit_and, bit_mask] at h2
    simp at h2
    exact h2.2)
  have hbx : Hid (∀ y ∈ nod x, bit x y = true) := Lib.hid (fun y hy => (mem_nod.1 hy).2)
  have hset : Hid (∀ sn, U64 sn → (∀ y, bit sn y = true ↔ y ∈ nod x) → sn = x) := Lib.hid (fun sn h1 h2 => set_eq h1 hxl h2)
  have Hx2 := Lib.hid (fun k (hk : k < 64) w => has_yes x k hxl hk w)
  have hx0 := Lib.hid hxl
  generalize nod x = l at *
  have hTh := Lib.hid hT
  have hsrth := Lib.hid hsrt
  have hplh := Lib.hid hpl
  have hNh := Lib.hid hN1
  obtain ⟨X, hX⟩ : ∃ X : Ending → World → Prop, X = fun e w' => e = .returned (.bool true) ∧ Turns [] w w' := ⟨_, rfl⟩
  rw [← hX]
  have hXh : Hid (∀ w', Turns [] w w' → X (.returned (.bool true)) w') := Lib.hid (fun w' t => by rw [hX]; exact ⟨rfl, t⟩)
  generalize s &&& m = sm at *
  clear hT hN hp hm hs hF hS hx hxi hxm hxl hlen hsrt hpl hX hi hN1 la
  go_enter Tryd.func8, Tryd.ntmps8
  go_wp2_with fail
  go_at_call 30
  refine Calls.mono (Ah.out _) ?_
  rintro e w1 ⟨rfl, t1⟩
  go_wp2_with fail
  go_at_call 24
  refine Calls.mono (Wh.out _) ?_
  rintro e w2 ⟨rfl, t2⟩
  have T2 := t1.trans t2
  clear t1 t2
  go_wp2_with fail
  go_loopw [10, 11, 12] (fun v10 v11 v12 wr => ∃ (t k sn : Nat), t ≤ l.length ∧ v12 = .int .i64 t ∧ v11 = .int .i64 k ∧ v10 = .int .u64 sn ∧ U64 sn ∧ k < 64 ∧ Rnd l p t k sn ∧ Turns [] w wr) (fun _ _ v12 _ => l.length - (RowKit.intOf v12).toNat)
  case atStart => exact ⟨0, i, 0, by omega, rfl, rfl, rfl, by decide, by have := hNh.out; omega, Rnd.start hplh.out, T2⟩
  case round =>
    clear T2
    obtain ⟨t, k, sn, ht, rfl, rfl, rfl, hsn, hk, hR, T⟩ := hrel
    have hTb := Lib.hid (hTh.out.turns T)
    have hRh := Lib.hid hR
    have hsnh := Lib.hid hsn
    clear hR hsn
    by_cases hlt : t < l.length
    · have g5 : decide ((t : Int) < (l.length : Int)) = true := decide_eq_true (by omega)
      have g5b : decide (t < l.length) = true := decide_eq_true hlt
      obtain ⟨r1, r2, r3⟩ := hRh.out.step hsrth.out hlt
      have hkN : k < N := hin.out k (List.mem_of_getElem? hRh.out.k)
      have Nk := Lib.hid (Nh.out k hkN)
      have hjN := hin.out _ r2
      have hjb := hbx.out _ r2
      generalize nextIn l k = j at *
      have hj64 : j < 64 := by have := hNh.out; omega
      have H1 := Lib.hid (fun w => has_yes sn j hsnh.out hj64 w)
      rw [r1] at H1
      have H2 := Lib.hid (fun w => Hx2.out j hj64 w)
      rw [hjb] at H2
      have H3 := Lib.hid (fun w => with_yes sn j hsnh.out hj64 w)
      have r3h := Lib.hid r3
      have hsn2 := Lib.hid (show U64 (sn ||| 2 ^ j) from Nat.or_lt_two_pow (n := 64) hsnh.out (Nat.pow_lt_pow_right (by omega) (by omega)))
      generalize sn ||| 2 ^ j = sn2 at *
      clear r1 r2 r3 hjb hjN hkN
      go_wp2_with fail
      go_at_call 34
      refine Calls.mono (Ch.out _) ?_
      rintro e w3 ⟨rfl, t3⟩
      go_wp2_with fail
      go_at_call 28
      refine Calls.mono (Nk.out _ (hTb.out.turns t3)) ?_
      rintro e w4 ⟨rfl, t4⟩
      go_wp2_with fail
      go_at_call 20
      refine Calls.mono (H1.out _) ?_
      rintro e w5 ⟨rfl, t5⟩
      go_wp2_with fail
      go_at_call 20
      refine Calls.mono (H2.out _) ?_
      rintro e w6 ⟨rfl, t6⟩
      go_wp2_with fail
      go_at_call 24
      refine Calls.mono (H3.out _) ?_
      rintro e w7 ⟨rfl, t7⟩
      have T7 := ((((T.trans t3).trans t4).trans t5).trans t6).trans t7
      clear t3 t4 t5 t6 t7
      go_wp2_with fail
      go_roundw
      case rel => exact ⟨t + 1, j, sn2, by omega, by go_num, rfl, rfl, hsn2.out, hj64, r3h.out, T7⟩
      case measure => simp [RowKit.intOf]; omega
    · obtain rfl : t = l.length := by omega
      have g5 : decide ((l.length : Int) < (l.length : Int)) = false := by simp
      obtain ⟨rfl, h2⟩ := hRh.out.done hsrth.out hplh.out
      obtain rfl := hset.out sn hsnh.out h2
      go_wp2_with fail
      go_at_call 34
      refine Calls.mono (Ch.out _) ?_
      rintro e w3 ⟨rfl, t3⟩
      go_wp2_with fail
      go_at_call 35
      refine Calls.mono (alive_is _ (hTb.out.turns t3)) ?_
      rintro e w4 ⟨rfl, t4⟩
      have hX := hXh.out _ ((T.trans t3).trans t4)
      go_wp2_with fail
      exact hX
theorem round_opened {H : Type} (enc : TypeId × Value → H) (W : World) (hT : TabAt 0 Lib.deBruijn64tab W) {base : Nat} {v0 v1 v2 : Value} {d0 d1 d2 : DataW H} {p0 p1 p2 : List MemPlace} (h0 : DataW.Trod enc Tryd.prog W 0 (fun _ => true) true 5 v0 d0 p0)
    (h1 : DataW.Trod enc Tryd.prog W 0 (fun _ => true) true 39 v1 d1 p1) (h2 : DataW.Trod enc Tryd.prog W 0 (fun _ => true) true 5 v2 d2 p2)
    (o0 : Value.okWide Tryd.prog W .any base 5 v0) (o1 : Value.okWide Tryd.prog W .any base 39 v1) (o2 : Value.okWide Tryd.prog W .any base 5 v2) :
    Calls Tryd.prog 8 #[v0, v1, v2] W fun e w' => e = .returned (.bool true) ∧ Below W.heap.size W w' := by
  obtain ⟨S, rfl, b0⟩ := arg_int Tryd.underlying5 (by kernel_rfl) h0 o0
  obtain ⟨a, rfl, b1⟩ := arg_int Tryd.underlying39 (by kernel_rfl) h1 o1
  obtain ⟨b, rfl, b2⟩ := arg_int Tryd.underlying5 (by kernel_rfl) h2 o2
  have c0 := u8_bd b0
  have c1 := u64_bd b1
  have c2 := u8_bd b2
  obtain ⟨S, rfl⟩ : ∃ k : Nat, S = k := ⟨S.toNat, by omega⟩
  obtain ⟨a, rfl⟩ : ∃ k : Nat, a = k := ⟨a.toNat, by omega⟩
  obtain ⟨b, rfl⟩ : ∃ k : Nat, b = k := ⟨b.toNat, by omega⟩
  exact (round_is S a b (by omega) (show a < _ by omega) (by omega) W hT).mono fun e w' ⟨he, t⟩ => ⟨he, t.isBelow⟩
end Go.Proofs.YtmaielpfeajelaaDoor.Rl
