/- Views: ViewSilent. -/
import Derived.Test.YtmaielpfeajelaaDoorYd
set_option linter.unusedVariables false
set_option linter.unusedSimpArgs false
set_option maxRecDepth 100000
namespace Go.Proofs.YtmaielpfeajelaaDoor.Ye
open Go.RowKit Go.MapKept Go.ChangeShapes Go.WideShapes Hm Hs Hf Hg Hv Hx Hy Ho Hn Ha Hc Hd Sm Sat Clk Ra Rg Rb Rd Rh Rm Rs Ya Yb Yc Yd
theorem liveK_bit (L : List Int) (node span now : Int) (i : Nat) : ∀ k, k ≤ 64 → bit (liveK L node span now k) i = (decide (i < k) && goes L node span now i)
  | 0, _ => by show bit 0 i = _; rw [bit_zero]; simp
  | k + 1, h => by
    have ih := liveK_bit L node span now i k (by omega)
    unfold liveK
    by_cases e : i = k
    · subst e
      cases hg : goes L node span now i with
      | true => rw [if_pos rfl, withN_nat _ _ (by omega), bit_or, bit_pow]; simp
      | false => rw [if_neg (by simp), ih, hg]; simp
    · have e2 : decide (i < k + 1) = decide (i < k) := by rw [decide_eq_decide]; omega
      rw [e2]
      cases hg : goes L node span now k with
      | true => rw [if_pos rfl, withN_nat _ _ (by omega), bit_or, bit_pow, ih]; simp; omega
      | false => rw [if_neg (by simp), ih]
theorem has_live (L : List Int) (node span now : Int) (i : Nat) (hL : L.length ≤ 64) (hi : i < L.length) : hasB (live L node span now) i = goes L node span now i := by
  rw [hasB_nat _ _ (by omega)]
  unfold live
  rw [liveK_bit _ _ _ _ _ _ hL, decide_eq_true hi, Bool.true_and]
theorem passed_plain (a now span : Int) (ha : 0 ≤ a ∧ a ≤ 67108864) (hn : 0 ≤ now ∧ now ≤ 4294967295) (hs : 0 ≤ span ∧ span ≤ 4294967295) : (!passedB a now span) = decide (now < a + span) := by
  rw [← passed_doc]
  unfold two fit
  rw [← decide_not, decide_eq_decide]
  omega
theorem hear_take (La : List Int) (n f : Nat) (t : Int) (hn : n ≤ La.length) (hf : f < n) : hearL (La.take n) f t = (La.set f (max (La.getD f 0) t)).take n := by
  unfold hearL
  have hl : (La.take n).length = n := by rw [List.length_take]; omega
  rw [if_pos ⟨by omega, by rw [hl]; omega⟩, Int.toNat_natCast, List.take_set]
  congr 2
  rw [List.getD_eq_getElem?_getD, List.getD_eq_getElem?_getD, List.getElem?_take_of_lt hf]
def arr (La : List Int) : Array Value := (La.map (Value.int .i64)).toArray
theorem arr_get {La : List Int} {j : Nat} {x : Int} (h : La[j]? = some x) : (arr La)[j]? = some (.int .i64 x) := by unfold arr; simp [h]
theorem arr_set (La : List Int) (j : Nat) (x : Int) : (arr La).setIfInBounds j (.int .i64 x) = arr (La.set j x) := by unfold arr; simp
def us (l : List Int) : List (List Value) := l.map fun x => [.int .u32 x]
theorem us_len (l : List Int) : (us l).length = l.length := by unfold us; simp
theorem ucell {w : World} {v : Value} {l : List Int} {j : Nat} {x : Int} (h : RdS 1 w v (us l)) (hj : l[j]? = some x) : ∃ ad c, v = .slice (some ad) l.length c ∧ w.cell? (ad.add j) = some (.int .u32 x) := by
  obtain ⟨ad, c, hv, _, hc⟩ := h.at_ (j := j) (r := [.int .u32 x]) (by unfold us; rw [List.getElem?_map, hj]; rfl)
  rw [us_len] at hv
  have := hc 0 _ rfl
  rw [Nat.mul_one, Nat.add_zero] at this
  exact ⟨ad, c, hv, this⟩
set_option maxHeartbeats 4000000 in
theorem silent_is (m : Int) (hm : 0 ≤ m ∧ m ≤ 255) (v : Value) (l : List Int) (hu : ∀ x ∈ l, 0 ≤ x ∧ x ≤ 4294967295) (q s z : Int) (hq : 0 ≤ q ∧ q ≤ 4294967295) (hs : 0 ≤ s ∧ s ≤ 4294967295) (hz : 0 ≤ z ∧ z ≤ 4294967295) (w : World) (hT : Tab w) (hl : RdS 1 w v (us l)) :
    Calls Tryd.prog 4 #[.int .u8 m, v, .agg #[.int .u32 q, .int .u32 s, .int .u32 z]] w fun e w' => e = .returned (.bool true) ∧ Turns [] w w' := by
  have T0 := (Turns.refl [] w).alloc (.cells #[.int .u32 q, .int .u32 s, .int .u32 z] 47)
  have b0 := Blk.new w #[.int .u32 q, .int .u32 s, .int .u32 z] 47
  have hlh := Lib.hid hl
  have hTh := Lib.hid hT
  obtain ⟨A, c, rfl, _⟩ := hl.form
  rw [us_len] at hlh ⊢
  obtain ⟨X, hX⟩ : ∃ X : Ending → World → Prop, X = fun e w' => e = .returned (.bool true) ∧ Turns [] w w' := ⟨_, rfl⟩
  rw [← hX]
  have hXh : Hid (∀ w', Turns [] w w' → X (.returned (.bool true)) w') := Lib.hid (fun w' h => by rw [hX]; exact ⟨rfl, h⟩)
  clear hX hl hT
  by_cases h1 : (l.length : Int) > 100
  · have g1 := decide_eq_true h1
    have Ah := Lib.hid (alive_is _ (hTh.out.turns T0))
    clear h1 b0 hq hs hz hm hu
    go_enter Tryd.func4, Tryd.ntmps4
    go_wp2_with fail
    go_at_call 9
    refine Calls.mono (Ah.out) ?_
    rintro e w1 ⟨rfl, t1⟩
    have hX := hXh.out _ (T0.trans t1)
    go_wp2_with fail
    exact hX
  · have g1 : decide ((l.length : Int) > 100) = false := decide_eq_false h1
    have hl100 : l.length ≤ 100 := by omega
    obtain ⟨N, hNe⟩ : ∃ N : Nat, m % 64 + 1 = N := ⟨(m % 64 + 1).toNat, by omega⟩
    have hN : 1 ≤ N ∧ N ≤ 64 := by omega
    obtain ⟨nd, hnd⟩ : ∃ nd : Nat, q % (N : Int) = nd := ⟨(q % (N : Int)).toNat, by have := Int.emod_nonneg q (show (N : Int) ≠ 0 by omega); omega⟩
    have hndN : nd < N := by have := Int.emod_lt_of_pos q (show (0 : Int) < N by omega); omega
    have k1 : Int.tmod m 64 = m % 64 := Int.tmod_eq_emod_of_nonneg hm.1
    have k2 : Int.tmod q (N : Int) = nd := by rw [Int.tmod_eq_emod_of_nonneg hq.1]; exact hnd
    have V0 := Lib.hid (fun W => vnew_ok N nd s 0 ⟨⟨by omega, by omega⟩, by omega, by omega⟩ W)
    have c0 : World.cell? (w.alloc (.cells #[.int .u32 q, .int .u32 s, .int .u32 z] 47)) ⟨w.heap.size, 0, none⟩ = some _ := (b0).cell 0
    have c1 : World.cell? (w.alloc (.cells #[.int .u32 q, .int .u32 s, .int .u32 z] 47)) ⟨w.heap.size, 1, none⟩ = some _ := (b0).cell 1
    have c2 : World.cell? (w.alloc (.cells #[.int .u32 q, .int .u32 s, .int .u32 z] 47)) ⟨w.heap.size, 2, none⟩ = some _ := (b0).cell 2
    have H0 := (Sep.start w).alloc #[.int .u32 q, .int .u32 s, .int .u32 z] 47
    have w1e : IntKind.i64.wrap m = m := IntWalk.i64_in _ (by omega)
    have w2e : IntKind.i64.wrap q = q := IntWalk.i64_in _ (by omega)
    have w3e : IntKind.i64.wrap s = s := IntWalk.i64_in _ (by omega)
    have w4e : IntKind.i64.wrap z = z := IntWalk.i64_in _ (by omega)
    have w5e : IntKind.i64.wrap (m % 64 + 1) = N := by rw [IntWalk.i64_in _ (by omega)]; exact hNe
    have w6e : IntKind.i64.wrap (m % 64) = m % 64 := IntWalk.i64_in _ (by omega)
    have w7e : IntKind.i64.wrap (nd : Int) = nd := IntWalk.i64_in _ (by omega)
    clear h1
    go_enter Tryd.func4, Tryd.ntmps4
    go_wp2_with fail
    go_at_call 10
    refine Calls.mono (V0.out _) ?_
    rintro e w1 ⟨b, hv, rfl, k1⟩
    have H1 := (H0.upon (a := []) k1).keep [0, 1]
    have k1t := k1.t
    have y0 := k1t.old c0
    have y1 := k1t.old c1
    have y2 := k1t.old c2
    have H2 : Sep [] w [tBlk w1.heap.size (arr (List.replicate 64 0)) 48, tBlk b #[.int .i64 nd, .int .i64 s, hv] 65, tOwn 3 1 hv (ins ((List.replicate 64 (0 : Int)).take N))] (w1.alloc (.cells (arr (List.replicate 64 0)) 48)) := by
      rw [List.take_replicate, Nat.min_eq_left hN.2]
      exact H1.alloc (arr (List.replicate 64 0)) 48
    clear k1 k1t H0 H1 V0 c0 c1 c2 b0 T0
    go_wp2_with fail
    clear y0 y1 y2
    go_loopw [14] (fun v14 wr => ∃ (k : Nat) (hv : Value) (La : List Int), k ≤ l.length ∧ v14 = .int .i64 k ∧ La.length = 64 ∧ (∀ x ∈ La, 0 ≤ x ∧ x ≤ 67108864) ∧ Sep [] w [tBlk w1.heap.size (arr La) 48, tBlk b #[.int .i64 nd, .int .i64 s, hv] 65, tOwn 3 1 hv (ins (La.take N))] wr) (fun v14 _ => l.length - (RowKit.intOf v14).toNat)
    case atStart => exact ⟨0, hv, _, by omega, rfl, by simp, by intro x hx; rw [List.mem_replicate] at hx; omega, H2⟩
    case round =>
      clear H2 hv
      obtain ⟨k, hv, La, hk, rfl, hLa, hbd, H⟩ := hrel
      generalize w1.heap.size = bl at *
      by_cases hlt : k < l.length
      · have g2 : decide ((k : Int) < (l.length : Int)) = true := decide_eq_true (by omega)
        have g2b : decide (k < l.length) = true := decide_eq_true hlt
        obtain ⟨x, hx⟩ : ∃ x, l[k]? = some x := ⟨_, List.getElem?_eq_getElem hlt⟩
        obtain ⟨ad, c', hvv, f0⟩ := ucell hlh.out hx
        injection hvv with e1 e2 e3
        subst e1 e3
        have hxb := hu x (List.mem_of_getElem? hx)
        have i0 := H.t.old f0
        obtain ⟨f, hf⟩ : ∃ f : Nat, x % (N : Int) = f := ⟨(x % (N : Int)).toNat, by have := Int.emod_nonneg x (show (N : Int) ≠ 0 by omega); omega⟩
        have hfN : f < N := by have := Int.emod_lt_of_pos x (show (0 : Int) < N by omega); omega
        obtain ⟨t, ht⟩ : ∃ t : Int, x / 64 = t := ⟨_, rfl⟩
        have htb : 0 ≤ t ∧ t ≤ 67108864 := by omega
        have j1 : IntKind.i64.wrap x = x := IntWalk.i64_in _ (by omega)
        have j2 : Int.tmod x (N : Int) = f := by rw [Int.tmod_eq_emod_of_nonneg hxb.1]; exact hf
        have j3 : IntKind.i64.wrap (f : Int) = f := IntWalk.i64_in _ (by omega)
        have j4 : Int.tdiv x 64 = t := by rw [Int.tdiv_eq_ediv_of_nonneg hxb.1]; exact ht
        have j5 : IntKind.u32.wrap t = t := IntWalk.u32_in _ (by omega)
        have j6 : IntKind.i64.wrap t = t := IntWalk.i64_in _ (by omega)
        have hf64 : f < 64 := by omega
        obtain ⟨y, hy⟩ : ∃ y, La[f]? = some y := ⟨_, List.getElem?_eq_getElem (by omega)⟩
        have hyb := hbd y (List.mem_of_getElem? hy)
        have hgd : La.getD f 0 = y := by rw [List.getD_eq_getElem?_getD, hy]; rfl
        have hht := hear_take La N f t (by omega) hfN
        rw [hgd] at hht
        have E1 := Lib.hid (hear_is b nd s hv (La.take N) f t wr (H.got [1, 2]))
        rw [hht] at E1
        have Hh := Lib.hid H
        clear hx e2 hht H hxb hf ht f0
        go_wp2_with fail
        go_at_call 12
        refine Calls.mono (E1.out) ?_
        rintro e w4 ⟨rfl, k4⟩
        have H4 := (Hh.out.call [1, 2] k4).keep [2, 0, 1]
        have hb4 := H4.blk 0 rfl
        have c0 : w4.cell? ⟨bl, f, none⟩ = some (.int .i64 y) := by rw [hb4.cell f]; exact arr_get hy
        have f4 := hb4.frozen f
        have H5 := H4.set 0 rfl f (.int .i64 (max y t))
        rw [arr_set] at H5
        have hL5 : (La.set f (max y t)).length = 64 := by rw [List.length_set]; exact hLa
        have hb5 : ∀ z ∈ La.set f (max y t), 0 ≤ z ∧ z ≤ 67108864 := fun z hz => by
          rcases List.mem_or_eq_of_mem_set hz with h | rfl
          · exact hbd z h
          · omega
        have H5h := Lib.hid H5
        have hL5h := Lib.hid hL5
        have hb5h := Lib.hid hb5
        clear k4 E1 Hh hb4 H4 H5 hbd hLa hL5 hb5 hgd hy
        go_wp2_with fail
        go_roundw
        case rel => exact ⟨k + 1, hv, _, by omega, by go_num, hL5h.out, hb5h.out, H5h.out⟩
        case measure => simp [RowKit.intOf]; omega
      · obtain rfl : k = l.length := by omega
        have g2 : decide ((l.length : Int) < (l.length : Int)) = false := by simp
        have htl : (La.take N).length = N := by rw [List.length_take]; omega
        have E1 := Lib.hid (live_is b nd s hv (La.take N) z (by omega) wr (H.got [1, 2]))
        have hhas : ∀ i : Nat, i < N → hasB (live (La.take N) nd s z) i = (decide ((i : Int) = nd) || decide (z < La.getD i 0 + s)) := fun i hi => by
          rw [has_live _ _ _ _ _ (by omega) (by omega)]
          unfold goes
          have e : (La.take N).getD i 0 = La.getD i 0 := by rw [List.getD_eq_getElem?_getD, List.getD_eq_getElem?_getD, List.getElem?_take_of_lt hi]
          have hi2 : La[i]? = some (La.getD i 0) := by rw [List.getD_eq_getElem?_getD, List.getElem?_eq_getElem (by omega)]; rfl
          rw [e, passed_plain _ _ _ (hbd _ (List.mem_of_getElem? hi2)) hz hs]
        have hS := live_lt (La.take N) nd s z
        have hnode : hasB (live (La.take N) nd s z) nd = true := by rw [hhas nd hndN]; simp
        have hbl := H.blk 0 rfl
        have TH := H.t
        generalize live (La.take N) nd s z = S at *
        have hhas2 : ∀ i : Nat, i < N → hasB S i = (decide ((i : Int) = nd) || decide (z < La.getD i 0 + s)) := hhas
        generalize hnde : (nd : Int) = node at *
        have hhash := Lib.hid hhas2
        have hnh := Lib.hid hnode
        clear H hhas hhas2 hnode htl
        go_wp2_with fail
        go_at_call 16
        refine Calls.mono (E1.out) ?_
        rintro e w5 ⟨rfl, t5⟩
        have hb5 := Lib.hid (hbl.turns t5 (by simp))
        have TW := TH.trans t5
        clear E1 hbl TH t5
        go_wp2_with fail
        go_loopw [18] (fun v18 wr => ∃ (i : Nat), i ≤ N ∧ v18 = .int .i64 i ∧ Turns [] w5 wr) (fun v18 _ => N - (RowKit.intOf v18).toNat)
        case atStart => exact ⟨0, by omega, rfl, Turns.refl _ _⟩
        case round =>
          obtain ⟨i, hi, rfl, T⟩ := hrel
          by_cases hiN : i < N
          · have g3 : decide ((i : Int) < (N : Int)) = true := decide_eq_true (by omega)
            have g3b : decide (i < N) = true := decide_eq_true hiN
            obtain ⟨y, hy⟩ : ∃ y, La[i]? = some y := ⟨_, List.getElem?_eq_getElem (by omega)⟩
            have hyb := hbd y (List.mem_of_getElem? hy)
            have hgd : La.getD i 0 = y := by rw [List.getD_eq_getElem?_getD, hy]; rfl
            have hh := hhash.out i hiN
            rw [hgd] at hh
            have c0 : wr.cell? ⟨bl, i, none⟩ = some (.int .i64 y) := T.old (by rw [hb5.out.cell i]; exact arr_get hy)
            have Hs := Lib.hid (fun W => has_any S i hS W)
            have j1 : IntKind.i64.wrap (y + s) = y + s := IntWalk.i64_in _ (by omega)
            have hi64 : i < 64 := by omega
            generalize hasB S i = r at *
            clear hy hgd hb5
            by_cases hin : (i : Int) = node
            · have g4 : ((i : Int) == node) = true := by simpa using hin
              rw [decide_eq_true hin, Bool.true_or] at hh
              subst hh
              clear hin
              go_wp2_with fail
              go_at_call 20
              refine Calls.mono (Hs.out _) ?_
              rintro e w6 ⟨rfl, t6⟩
              go_wp2_with fail
              go_roundw
              case rel => exact ⟨i + 1, by omega, by go_num, T.trans t6⟩
              case measure => simp [RowKit.intOf]; omega
            · have g4 : ((i : Int) == node) = false := by simpa using hin
              rw [decide_eq_false hin, Bool.false_or] at hh
              clear hin
              cases hd : decide (z < y + s) with
              | true =>
                rw [hd] at hh
                subst hh
                go_wp2_with fail
                go_at_call 20
                refine Calls.mono (Hs.out _) ?_
                rintro e w6 ⟨rfl, t6⟩
                have c6 := t6.old c0
                go_wp2_with fail
                go_roundw
                case rel => exact ⟨i + 1, by omega, by go_num, T.trans t6⟩
                case measure => simp [RowKit.intOf]; omega
              | false =>
                rw [hd] at hh
                subst hh
                go_wp2_with fail
                go_at_call 20
                refine Calls.mono (Hs.out _) ?_
                rintro e w6 ⟨rfl, t6⟩
                have c6 := t6.old c0
                go_wp2_with fail
                go_roundw
                case rel => exact ⟨i + 1, by omega, by go_num, T.trans t6⟩
                case measure => simp [RowKit.intOf]; omega
          · obtain rfl : i = N := by omega
            have g3 : decide ((i : Int) < (i : Int)) = false := by simp
            have T6 := TW.trans T
            have A6 := Lib.hid (alive_is _ (hTh.out.turns T6))
            have Hs := Lib.hid (fun W => has_any S node hS W)
            rw [hnh.out] at Hs
            go_wp2_with fail
            go_at_call 9
            refine Calls.mono (A6.out) ?_
            rintro e w7 ⟨rfl, t7⟩
            go_wp2_with fail
            go_at_call 20
            refine Calls.mono (Hs.out _) ?_
            rintro e w8 ⟨rfl, t8⟩
            have hX := hXh.out _ ((T6.trans t7).trans t8)
            go_wp2_with fail
            exact hX
theorem silent_opened {H : Type} (enc : TypeId × Value → H) (W : World) (hT : Tab W) {base : Nat} {v0 v1 v2 : Value} {d0 d1 d2 : DataW H} {p0 p1 p2 : List MemPlace} (h0 : DataW.Trod enc Tryd.prog W 0 (fun _ => true) true 5 v0 d0 p0)
    (h1 : DataW.Trod enc Tryd.prog W 0 (fun _ => true) true 45 v1 d1 p1) (h2 : DataW.Trod enc Tryd.prog W 0 (fun _ => true) true 47 v2 d2 p2)
    (o0 : Value.okWide Tryd.prog W .any base 5 v0) (o1 : Value.okWide Tryd.prog W .any base 45 v1) (o2 : Value.okWide Tryd.prog W .any base 47 v2) :
    Calls Tryd.prog 4 #[v0, v1, v2] W fun e w' => e = .returned (.bool true) ∧ Below W.heap.size W w' := by
  have u32 : ∀ {n : Int}, (Lit.int .u32 n).wf = true → 0 ≤ n ∧ n ≤ 4294967295 := fun {n} h => by
    simp [Lit.wf, IntKind.min, IntKind.max, IntKind.signed, IntKind.bits] at h
    exact h
  obtain ⟨l, hl, hu⟩ := (arg_slice Tryd.underlying45 (nInt Tryd.underlying46 (by kernel_rfl)) (by kernel_rfl) h1 o1).list (f := fun x : Int => [.int .u32 x]) (p := fun x => 0 ≤ x ∧ x ≤ 4294967295) (fun r hr => by
    obtain ⟨v0, r0, rfl, ⟨n0, rfl, w0⟩, k0⟩ := hr.out
    obtain rfl := k0.none
    exact ⟨n0, rfl, u32 w0⟩)
  obtain ⟨m, rfl, wm⟩ := arg_int Tryd.underlying5 (by kernel_rfl) h0 o0
  obtain ⟨cs, rfl, kf⟩ := arg_array Tryd.underlying47 (nArray Tryd.underlying47 (nInt Tryd.underlying46 (by kernel_rfl)) (by kernel_rfl)) h2 o2
  obtain ⟨_, r0, rfl, ⟨n0, rfl, w0⟩, k0⟩ := (show Kds W [kInt .u32, kInt .u32, kInt .u32] cs from kf).out
  obtain ⟨_, r1, rfl, ⟨n1, rfl, w1⟩, k1⟩ := k0.out
  obtain ⟨_, r2, rfl, ⟨n2, rfl, w2⟩, k2⟩ := k1.out
  obtain rfl := k2.none
  have hm := u8_bd wm
  exact (silent_is m hm v1 l hu n0 n1 n2 (u32 w0) (u32 w1) (u32 w2) W hT hl).mono fun e w' ⟨he, t⟩ => ⟨he, t.isBelow⟩
end Go.Proofs.YtmaielpfeajelaaDoor.Ye
