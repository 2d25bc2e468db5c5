/- The law DemandFades. -/
import Derived.Test.YtcmaloncfdmpnaaWe
set_option linter.unusedVariables false
set_option linter.unusedSimpArgs false
set_option maxRecDepth 100000
namespace Go.Proofs.Ytcmaloncfdmpnaa.Wf
open Go.RowKit Go.MapKept Go.ChangeShapes Go.WideShapes Hm Hs Hf Hg Hk Hx Hv Hj Ho Hn Ha Sm Sat Wa Wb Wc Wd We
/-- a demand, of some notes -/
def FInv (w : World) (b mb : Nat) (n : Nat) (key o : Int) (wr : World) : Prop := ∃ l NS, Est l NS ∧ NS.length ≤ n ∧ ofN NS key = o ∧ Sep [] w (dm b mb l) wr
theorem FInv.t {w wr : World} {b mb n : Nat} {key o : Int} (h : FInv w b mb n key o wr) : Turns [] w wr := by
  obtain ⟨_, _, _, _, _, H⟩ := h
  exact H.t
theorem FInv.turns {w wr w2 : World} {b mb n : Nat} {key o : Int} (h : FInv w b mb n key o wr) (t : Turns [] wr w2) : FInv w b mb n key o w2 := by
  obtain ⟨l, NS, h1, h2, h3, H⟩ := h
  exact ⟨l, NS, h1, h2, h3, H.turns t⟩
theorem FInv.of_ {w wr : World} {b mb n : Nat} {key o : Int} (h : FInv w b mb n key o wr) : Calls Try.prog 54 #[.pointer (some ⟨b, 0, none⟩), .int .i64 key] wr fun e w' => e = .returned (.int .i64 o) ∧ Turns [] wr w' := by
  obtain ⟨l, NS, h1, h2, rfl, H⟩ := h
  exact Wb.of_is wr b mb l NS key (H.got [0, 1]) h1
theorem FInv.note {w wr : World} {b mb n : Nat} {key o : Int} (h : FInv w b mb n key o wr) (k s : Int) (hk : -9223372036854775808 ≤ k ∧ k ≤ 9223372036854775807) : ∃ x, Calls Try.prog 52 #[.pointer (some ⟨b, 0, none⟩), .int .i64 k, .int .i64 s] wr fun e w' => e = .returned (.int .i64 x) ∧ (k = key → x = max (fit s) (o / 2)) ∧ ∃ o', FInv w b mb (n + 1) key o' w' ∧ (k = key → o' = x) := by
  obtain ⟨l, NS, h1, h2, rfl, H⟩ := h
  refine ⟨ofN (NS ++ [(k, s)]) k, (Wb.note_is wr b mb l NS k s (H.got [0, 1]) h1 hk).mono ?_⟩
  rintro e w' ⟨rfl, l', h3, h4⟩
  refine ⟨rfl, fun he => ?_, _, ⟨l', _, h3, by rw [List.length_append]; simp; omega, rfl, H.call [0, 1] h4⟩, fun he => by rw [he]⟩
  subst he
  rw [ofN_snoc]
  unfold st
  rw [if_pos rfl]
theorem FInv.keys {w wr : World} {b mb n : Nat} {key : Int} (h : FInv w b mb n key 0 wr) (hn : n ≤ 1000) : Calls Try.prog 58 #[.pointer (some ⟨b, 0, none⟩)] wr fun e w' => ∃ v ks, e = .returned v ∧ OwnS 3 1 w' v (ins ks) ∧ Turns [] wr w' ∧ key ∉ ks := by
  obtain ⟨l, NS, h1, h2, h3, H⟩ := h
  refine (Wb.keys_is wr b mb l NS (H.got [0, 1]) h1 (by omega)).mono ?_
  rintro e w' ⟨v, rfl, o, t, _⟩
  exact ⟨v, _, rfl, o, t, fun hm => (mem_keys h1 key).1 hm h3⟩
set_option maxHeartbeats 2000000 in
theorem fades_is (w : World) (A : Option Addr) (c : Nat) (NS : List (Int × Int)) (key low : Int) (hl : FlatRow w A 2 (NS.map nrow)) (hk : ∀ n ∈ NS, -9223372036854775808 ≤ n.1 ∧ n.1 ≤ 9223372036854775807) (hkey : -9223372036854775808 ≤ key ∧ key ≤ 9223372036854775807) :
    Calls Try.prog 9 #[.slice A NS.length c, .int .i64 key, .int .i64 low] w fun e w' => e = .returned (.bool true) ∧ Turns [] w w' := by
  obtain ⟨X, hX⟩ : ∃ X : Ending → World → Prop, X = fun e w' => e = .returned (.bool true) ∧ Turns [] w w' := ⟨_, rfl⟩
  rw [← hX]
  have hXh : Hid (∀ w', Turns [] w w' → X (.returned (.bool true)) w') := Lib.hid (fun w' h => by rw [hX]; exact ⟨rfl, h⟩)
  clear hX
  have hll := hl.1
  rw [List.length_map] at hll
  have hlh := Lib.hid hl
  have hkh := Lib.hid hk
  have hkeyh := Lib.hid hkey
  clear hl hk hkey
  by_cases hlong : (NS.length : Int) > 80
  · have g1 := decide_eq_true hlong
    clear hlong
    go_enter Try.func9, Try.ntmps9
    go_wp2_with fail
    go_at_call 50
    refine Calls.mono (alive_any _) ?_
    rintro e w1 ⟨rfl, t1⟩
    have hX := hXh.out _ t1
    go_wp2_with fail
    exact hX
  · have g1 : decide ((NS.length : Int) > 80) = false := decide_eq_false hlong
    have hl80 : NS.length ≤ 80 := by omega
    clear hlong
    by_cases hlow : low > 0
    · have g2 := decide_eq_true hlow
      clear hlow
      go_enter Try.func9, Try.ntmps9
      go_wp2_with fail
      go_at_call 50
      refine Calls.mono (alive_any _) ?_
      rintro e w1 ⟨rfl, t1⟩
      have hX := hXh.out _ t1
      go_wp2_with fail
      exact hX
    · have g2 : decide (low > 0) = false := decide_eq_false hlow
      have hfl : fit low = 0 := by unfold fit; omega
      have hflh := Lib.hid hfl
      clear hlow hfl
      go_enter Try.func9, Try.ntmps9
      go_wp2_with fail
      go_at_call 51
      refine Calls.mono (new_is _) ?_
      rintro e w1 ⟨b, mb, rfl, h1⟩
      have hP : FInv w b mb 0 key 0 w1 := ⟨[], [], Est.nil, by simp, rfl, h1⟩
      clear h1
      go_wp2_with fail
      go_loopw [8] (fun v8 wr => ∃ (k : Nat) (o : Int), k ≤ NS.length ∧ v8 = .int .i64 k ∧ FInv w b mb k key o wr) (fun v8 _ => NS.length - (RowKit.intOf v8).toNat)
      case atStart => exact ⟨0, 0, by omega, rfl, hP⟩
      case round =>
        obtain ⟨k, o, hk, rfl, hF⟩ := hrel
        clear hP
        obtain ⟨wo, rfl⟩ : ∃ wo : World, wo = wr := ⟨_, rfl⟩
        by_cases hlt : k < NS.length
        · have g3 : decide ((k : Int) < (NS.length : Int)) = true := by simp; omega
          obtain ⟨n, hx⟩ : ∃ n, NS[k]? = some n := ⟨_, List.getElem?_eq_getElem hlt⟩
          obtain ⟨ad, rfl, _, hc⟩ := hlh.out.at_ (j := k) (c := nrow n) (by rw [List.getElem?_map, hx]; rfl)
          have hkn := hkh.out n (List.mem_of_getElem? hx)
          have i0 := hF.t.drew.old (hc 0 _ rfl)
          have i1 := hF.t.drew.old (hc 1 _ rfl)
          rw [Nat.add_zero] at i0
          rw [add_field _ _ _ (by omega)] at i1
          have hF2 := hF.turns (Turns.refl _ _).drew
          obtain ⟨x, hN⟩ := hF2.note n.1 n.2 hkn
          have hNh := Lib.hid hN
          clear hx hc hkn hN hF
          go_wp2_with fail
          go_wp2_with fail
          refine wp_region_flo2 [(0, true, []), (1, true, [11]), (2, true, [11]), (3, true, [11]), (4, true, [11]), (5, true, []), (6, true, [11]), (7, true, [11]), (8, true, [11]), (9, true, [11]), (10, true, []), (11, false, [])] (fun j W => True) (by kernel_rfl) rfl (by kernel_rfl) (by intro c d v a w h; cases d <;> first | (simpa [Exit.then, Exit.inBlock, Act.put] using h) | exact h) ?_
          generalize wo.drew = w3 at *
          first
            | (refine flo2_read _ rfl (fun _ => True) trivial (fun _ _ _ _ => trivial) (fun K hK => ?_); go_simp; first | (refine hK _ ?_) | (refine ⟨fun W _ => ?_, hK _ ?_⟩; · (go_simp)) | (refine ⟨fun W => ?_, hK _ ?_⟩; · (go_simp)))
            | (refine flo2_read _ rfl (fun W => W = _) rfl (by simp) (fun K hK => ?_); go_simp; first | (refine hK _ ?_) | (refine ⟨fun W hS => ?_, hK _ ?_⟩; · (subst hS; go_simp)) | (refine ⟨?_, hK _ ?_⟩; · (go_simp)))
          clear hK K
          first
            | (refine flo2_read _ rfl (fun _ => True) trivial (fun _ _ _ _ => trivial) (fun K hK => ?_); go_simp; first | (refine hK _ ?_) | (refine ⟨fun W _ => ?_, hK _ ?_⟩; · (go_simp)) | (refine ⟨fun W => ?_, hK _ ?_⟩; · (go_simp)))
            | (refine flo2_read _ rfl (fun W => W = _) rfl (by simp) (fun K hK => ?_); go_simp; first | (refine hK _ ?_) | (refine ⟨fun W hS => ?_, hK _ ?_⟩; · (subst hS; go_simp)) | (refine ⟨?_, hK _ ?_⟩; · (go_simp)))
          clear hK K
          first
            | (refine flo2_read _ rfl (fun _ => True) trivial (fun _ _ _ _ => trivial) (fun K hK => ?_); go_simp; first | (refine hK _ ?_) | (refine ⟨fun W _ => ?_, hK _ ?_⟩; · (go_simp)) | (refine ⟨fun W => ?_, hK _ ?_⟩; · (go_simp)))
            | (refine flo2_read _ rfl (fun W => W = _) rfl (by simp) (fun K hK => ?_); go_simp; first | (refine hK _ ?_) | (refine ⟨fun W hS => ?_, hK _ ?_⟩; · (subst hS; go_simp)) | (refine ⟨?_, hK _ ?_⟩; · (go_simp)))
          clear hK K
          first
            | (refine flo2_read _ rfl (fun _ => True) trivial (fun _ _ _ _ => trivial) (fun K hK => ?_); go_simp; first | (refine hK _ ?_) | (refine ⟨fun W _ => ?_, hK _ ?_⟩; · (go_simp)) | (refine ⟨fun W => ?_, hK _ ?_⟩; · (go_simp)))
            | (refine flo2_read _ rfl (fun W => W = _) rfl (by simp) (fun K hK => ?_); go_simp; first | (refine hK _ ?_) | (refine ⟨fun W hS => ?_, hK _ ?_⟩; · (subst hS; go_simp)) | (refine ⟨?_, hK _ ?_⟩; · (go_simp)))
          clear hK K
          first
            | (refine flo2_read _ rfl (fun _ => True) trivial (fun _ _ _ _ => trivial) (fun K hK => ?_); go_simp; first | (refine hK _ ?_) | (refine ⟨fun W _ => ?_, hK _ ?_⟩; · (go_simp)) | (refine ⟨fun W => ?_, hK _ ?_⟩; · (go_simp)))
            | (refine flo2_read _ rfl (fun W => W = _) rfl (by simp) (fun K hK => ?_); go_simp; first | (refine hK _ ?_) | (refine ⟨fun W hS => ?_, hK _ ?_⟩; · (subst hS; go_simp)) | (refine ⟨?_, hK _ ?_⟩; · (go_simp)))
          clear hK K
          first
            | (refine flo2_read _ rfl (fun _ => True) trivial (fun _ _ _ _ => trivial) (fun K hK => ?_); go_simp; first | (refine hK _ ?_) | (refine ⟨fun W _ => ?_, hK _ ?_⟩; · (go_simp)) | (refine ⟨fun W => ?_, hK _ ?_⟩; · (go_simp)))
            | (refine flo2_read _ rfl (fun W => W = _) rfl (by simp) (fun K hK => ?_); go_simp; first | (refine hK _ ?_) | (refine ⟨fun W hS => ?_, hK _ ?_⟩; · (subst hS; go_simp)) | (refine ⟨?_, hK _ ?_⟩; · (go_simp)))
          clear hK K
          first
            | (refine flo2_read _ rfl (fun _ => True) trivial (fun _ _ _ _ => trivial) (fun K hK => ?_); go_simp; first | (refine hK _ ?_) | (refine ⟨fun W _ => ?_, hK _ ?_⟩; · (go_simp)) | (refine ⟨fun W => ?_, hK _ ?_⟩; · (go_simp)))
            | (refine flo2_read _ rfl (fun W => W = _) rfl (by simp) (fun K hK => ?_); go_simp; first | (refine hK _ ?_) | (refine ⟨fun W hS => ?_, hK _ ?_⟩; · (subst hS; go_simp)) | (refine ⟨?_, hK _ ?_⟩; · (go_simp)))
          clear hK K
          first
            | (refine flo2_read _ rfl (fun _ => True) trivial (fun _ _ _ _ => trivial) (fun K hK => ?_); go_simp; first | (refine hK _ ?_) | (refine ⟨fun W _ => ?_, hK _ ?_⟩; · (go_simp)) | (refine ⟨fun W => ?_, hK _ ?_⟩; · (go_simp)))
            | (refine flo2_read _ rfl (fun W => W = _) rfl (by simp) (fun K hK => ?_); go_simp; first | (refine hK _ ?_) | (refine ⟨fun W hS => ?_, hK _ ?_⟩; · (subst hS; go_simp)) | (refine ⟨?_, hK _ ?_⟩; · (go_simp)))
          clear hK K
          first
            | (refine flo2_read _ rfl (fun _ => True) trivial (fun _ _ _ _ => trivial) (fun K hK => ?_); go_simp; first | (refine hK _ ?_) | (refine ⟨fun W _ => ?_, hK _ ?_⟩; · (go_simp)) | (refine ⟨fun W => ?_, hK _ ?_⟩; · (go_simp)))
            | (refine flo2_read _ rfl (fun W => W = _) rfl (by simp) (fun K hK => ?_); go_simp; first | (refine hK _ ?_) | (refine ⟨fun W hS => ?_, hK _ ?_⟩; · (subst hS; go_simp)) | (refine ⟨?_, hK _ ?_⟩; · (go_simp)))
          clear hK K
          first
            | (refine flo2_read _ rfl (fun _ => True) trivial (fun _ _ _ _ => trivial) (fun K hK => ?_); go_simp; first | (refine hK _ ?_) | (refine ⟨fun W _ => ?_, hK _ ?_⟩; · (go_simp)) | (refine ⟨fun W => ?_, hK _ ?_⟩; · (go_simp)))
            | (refine flo2_read _ rfl (fun W => W = _) rfl (by simp) (fun K hK => ?_); go_simp; first | (refine hK _ ?_) | (refine ⟨fun W hS => ?_, hK _ ?_⟩; · (subst hS; go_simp)) | (refine ⟨?_, hK _ ?_⟩; · (go_simp)))
          clear hK K
          first
            | (refine flo2_read _ rfl (fun _ => True) trivial (fun _ _ _ _ => trivial) (fun K hK => ?_); go_simp; first | (refine hK _ ?_) | (refine ⟨fun W _ => ?_, hK _ ?_⟩; · (go_simp)) | (refine ⟨fun W => ?_, hK _ ?_⟩; · (go_simp)))
            | (refine flo2_read _ rfl (fun W => W = _) rfl (by simp) (fun K hK => ?_); go_simp; first | (refine hK _ ?_) | (refine ⟨fun W hS => ?_, hK _ ?_⟩; · (subst hS; go_simp)) | (refine ⟨?_, hK _ ?_⟩; · (go_simp)))
          clear hK K
          refine flo2_alone _ rfl ?_
          go_wp2_with fail
          go_at_call 52
          refine Calls.mono (hNh.out) ?_
          rintro e w4 ⟨rfl, _, o2, hF4, _⟩
          go_wp2_with fail
          refine ⟨trivial, _, fun _ _ h => h, ?_⟩
          refine flo2_end ?_
          go_wp2_with fail
          go_roundw
          case rel => exact ⟨k + 1, o2, by omega, by go_num, hF4⟩
          case measure => simp [RowKit.intOf]; omega
        · obtain rfl : k = NS.length := by omega
          have g3 : decide ((NS.length : Int) < (NS.length : Int)) = false := by simp
          have hob : Hid (0 ≤ o ∧ o ≤ 4611686018427387904) := Lib.hid (by obtain ⟨_, NS', _, _, h3, _⟩ := hF; rw [← h3]; exact ofN_bd _ _)
          have hO := hF.of_
          have hOh := Lib.hid hO
          clear hO
          go_wp2_with fail
          go_at_call 54
          refine Calls.mono (hOh.out) ?_
          rintro e w3 ⟨rfl, t3⟩
          have hF3 := hF.turns t3
          clear hF t3 hOh
          go_wp2_with fail
          go_loopw [9, 10] (fun v9 v10 wr => ∃ (j : Nat), j ≤ 63 ∧ v9 = .int .i64 (o / 2 ^ j) ∧ v10 = .int .i64 j ∧ FInv w b mb (NS.length + j) key (o / 2 ^ j) wr) (fun _ v10 _ => 63 - (RowKit.intOf v10).toNat)
          case atStart => exact ⟨0, by omega, by simp, rfl, by simpa using hF3⟩
          case round =>
            obtain ⟨j, hj, rfl, rfl, hF4⟩ := hrel
            clear hF3
            have hq0 : 0 ≤ o / 2 ^ j := Int.ediv_nonneg hob.out.1 (Int.le_of_lt (Wc.pow_pos j))
            have hq1 : o / 2 ^ j ≤ 4611686018427387904 := Int.le_trans (Int.ediv_le_self _ hob.out.1) hob.out.2
            have hqs : o / 2 ^ (j + 1) = o / 2 ^ j / 2 := by rw [Int.pow_succ, Int.ediv_ediv_of_nonneg (Int.le_of_lt (Wc.pow_pos j))]
            have hqsh := Lib.hid hqs
            clear hqs
            by_cases hjl : j < 63
            · have g4 : decide ((j : Int) < 63) = true := by simp; omega
              obtain ⟨x, hN⟩ := hF4.note key low hkeyh.out
              have hNh := Lib.hid hN
              generalize o / 2 ^ j = q at *
              clear hN hF4
              go_wp2_with fail
              go_at_call 52
              refine Calls.mono (hNh.out) ?_
              rintro e w5 ⟨rfl, hx, o2, hF5, ho2⟩
              have hxe : x = q / 2 := by rw [hx (by trivial), hflh.out]; omega
              subst hxe
              obtain rfl : o2 = q / 2 := ho2 (by trivial)
              have g5 : decide (q / 2 > q) = false := decide_eq_false (by omega)
              clear hx ho2 hNh
              go_wp2_with fail
              go_roundw
              case rel => exact ⟨j + 1, by omega, by rw [hqsh.out], by go_num, by rw [hqsh.out]; exact hF5⟩
              case measure => simp [RowKit.intOf]; omega
            · obtain rfl : j = 63 := by omega
              have hz : o / 2 ^ 63 = 0 := Int.ediv_eq_zero_of_lt hob.out.1 (by have := hob.out.2; omega)
              rw [hz] at hF4 ⊢
              have hK := hF4.keys (by omega)
              have hKh := Lib.hid hK
              clear hK hz hqsh hq0 hq1
              go_wp2_with fail
              go_at_call 58
              refine Calls.mono (hKh.out) ?_
              rintro e w5 ⟨v, ks, rfl, o5, t5, hni⟩
              obtain ⟨B, c5, rfl, hc5, hc6⟩ := formI o5
              have hnih := Lib.hid hni
              have o5h := Lib.hid o5
              have T5 := hF4.t.trans t5
              clear hni o5 t5 hF4 hKh
              go_wp2_with fail
              go_loopw [13] (fun v13 wr => ∃ (i : Nat), i ≤ ks.length ∧ v13 = .int .i64 i ∧ Turns [] w5 wr) (fun v13 _ => ks.length - (RowKit.intOf v13).toNat)
              case atStart => exact ⟨0, by omega, rfl, Turns.refl _ _⟩
              case round =>
                obtain ⟨i, hi, rfl, Tr⟩ := hrel
                by_cases hil : i < ks.length
                · have g5 : decide ((i : Int) < (ks.length : Int)) = true := by simp; omega
                  obtain ⟨y, hy⟩ : ∃ y, ks[i]? = some y := ⟨_, List.getElem?_eq_getElem hil⟩
                  obtain ⟨ad2, c2', hv2, _, hcell2⟩ := o5h.out.reads.at_ (j := i) (r := [.int .i64 y]) (by unfold ins; rw [List.getElem?_map, hy]; rfl)
                  rw [ins_len] at hv2
                  injection hv2 with e4 e5 e6
                  subst e4 e6
                  have s0 := Tr.old (hcell2 0 _ rfl)
                  rw [Nat.mul_one, Nat.add_zero] at s0
                  have hne : y ≠ key := fun h => hnih.out (h ▸ List.mem_of_getElem? hy)
                  have g6 : (y == key) = false := by simpa using hne
                  clear hy hcell2 e5 hne
                  go_wp2_with fail
                  go_roundw
                  case rel => exact ⟨i + 1, by omega, by go_num, Tr⟩
                  case measure => simp [RowKit.intOf]; omega
                · obtain rfl : i = ks.length := by omega
                  have g5 : decide ((ks.length : Int) < (ks.length : Int)) = false := by simp
                  go_wp2_with fail
                  go_at_call 50
                  refine Calls.mono (alive_any _) ?_
                  rintro e w6 ⟨rfl, t6⟩
                  have hX := hXh.out _ ((T5.trans Tr).trans t6)
                  go_wp2_with fail
                  exact hX
theorem fades_opened {H : Type} (enc : TypeId × Value → H) (W : World) {base : Nat} {v0 v1 v2 : Value} {d0 d1 d2 : DataW H} {p0 p1 p2 : List MemPlace} (h0 : DataW.Trod enc Try.prog W 0 (fun _ => true) true 88 v0 d0 p0)
    (h1 : DataW.Trod enc Try.prog W 0 (fun _ => true) true 3 v1 d1 p1) (h2 : DataW.Trod enc Try.prog W 0 (fun _ => true) true 3 v2 d2 p2)
    (o0 : Value.okWide Try.prog W .any base 88 v0) (o1 : Value.okWide Try.prog W .any base 3 v1) (o2 : Value.okWide Try.prog W .any base 3 v2) :
    Calls Try.prog 9 #[v0, v1, v2] W fun e w' => e = .returned (.bool true) ∧ Below W.heap.size W w' := by
  obtain ⟨A, c, NS, rfl, hf, hk⟩ := notes_of (arg_slice Try.underlying88 nestNote (by kernel_rfl) h0 o0)
  obtain ⟨key, rfl, hkey⟩ := arg_int Try.underlying3 (by kernel_rfl) h1 o1
  obtain ⟨low, rfl, _⟩ := arg_int Try.underlying3 (by kernel_rfl) h2 o2
  exact (fades_is W A c NS key low hf hk (int_bd hkey)).mono fun e w' ⟨he, t⟩ => ⟨he, t.isBelow⟩
end Go.Proofs.Ytcmaloncfdmpnaa.Wf
