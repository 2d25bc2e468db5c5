/- The law VaultPlays: its walk. -/
import Derived.Test.YtknmjmhiejmjdaaVt
set_option linter.unusedVariables false
set_option linter.unusedSimpArgs false
set_option maxRecDepth 100000
namespace Go.Proofs.Ytknmjmhiejmjdaa.Vu
open Go.RowKit Go.MapKept Go.ChangeShapes Go.WideShapes Hm Hs Hr Hb Hf Hg Hv Ho Hx Dk Dr Kw Kn Kr Ks Va Vb Vc Vd Ve Vf Vs Vg Vi Vj Vl Vm Vo Vp Vt Hn Ha
set_option maxHeartbeats 4000000 in
theorem plays_is (w : World) (room : Int) (A : Option Addr) (c : Nat) (acts : List Ac) (s1 s2 : V4) (hl : FlatRow w A 6 (acts.map Ac.cells)) (hk : ∀ a ∈ acts, 0 ≤ a.kind ∧ a.kind ≤ 255) (hroom : 0 ≤ room ∧ room ≤ 65535) :
    Calls Try.prog 3 #[.int .u16 room, .slice A acts.length c, .agg #[.int .i64 s1.p, .int .i64 s1.g, .int .i64 s1.h, .int .i64 s1.r, .int .i64 s2.p, .int .i64 s2.g, .int .i64 s2.h, .int .i64 s2.r]] w fun e w' => e = .returned (.bool true) ∧ Turns [] w w' := by
  have H := (Sep.start w).alloc #[.int .i64 s1.p, .int .i64 s1.g, .int .i64 s1.h, .int .i64 s1.r, .int .i64 s2.p, .int .i64 s2.g, .int .i64 s2.h, .int .i64 s2.r] 26
  obtain ⟨X, hX⟩ : ∃ X : Ending → World → Prop, X = fun e w' => e = .returned (.bool true) ∧ Turns [] w w' := ⟨_, rfl⟩
  rw [← hX]
  have hXh : Hid (∀ w', Turns [] w w' → X (.returned (.bool true)) w') := Lib.hid (fun w' h => by rw [hX]; exact ⟨rfl, h⟩)
  clear hX
  obtain ⟨hr0, hr1⟩ := hroom
  have hll := hl.1
  rw [List.length_map] at hll
  have hlh := Lib.hid hl
  have hkh : Hid _ := hk
  have hwc : IntKind.i64.wrap room = room := IntWalk.i64_in _ (by omega)
  clear hl hk
  by_cases hlong : (acts.length : Int) > 200
  · have g1 := decide_eq_true hlong
    clear hlong
    go_enter Try.func3, Try.ntmps3
    go_wp2_with fail
    go_at_call 6
    refine Calls.mono (alive_any _) ?_
    rintro e w1 ⟨rfl, t1⟩
    have hX := hXh.out _ (H.turns t1).t
    go_wp2_with fail
    exact hX
  · have g1 : decide ((acts.length : Int) > 200) = false := decide_eq_false hlong
    clear hlong
    go_enter Try.func3, Try.ntmps3
    go_wp2_with fail
    go_at_call 7
    refine Calls.mono (new_ok room _ (by omega)) ?_
    rintro e w1 ⟨b, rfl, h1, hb1, t1⟩
    replace H := Vp.Sep.newDisk H h1 hb1 t1
    clear h1 hb1 t1
    go_wp2_with fail
    go_at_call 8
    refine Calls.mono (vopen_is w1 b _ [] 0 room [] 0 (H.got [0]) (by simp) (by intro c hc; simp at hc) (by intro j x hj; simp at hj) rfl (.inl rfl) (by simpa using hr0)) ?_
    rintro e w2 (⟨h0, _⟩|⟨_, vb, fv1, sf1, rfl, h2, hs1, _⟩)
    · exact absurd h0 (by simp)
    replace H := H.call [0] h2
    obtain rfl := hs1 rfl
    clear h2 hs1
    replace H := H.alloc #[.int .i64 room, .slice none 0 0, .slice none 0 0] 41
    have H2 : Sep [] w [tDr w2.heap.size (.slice none 0 0) (.slice none 0 0) [] [] room, tV vb b (lastV []) ([] : List V4).length, tDk b fv1 (List.take (32 * ([] : List V4).length) []) 0 room, tBlk w.heap.size #[.int .i64 s1.p, .int .i64 s1.g, .int .i64 s1.h, .int .i64 s1.r, .int .i64 s2.p, .int .i64 s2.g, .int .i64 s2.h, .int .i64 s2.r] 26] (w2.alloc (.cells #[.int .i64 room, .slice none 0 0, .slice none 0 0] 41)) :=
      H.same 0 rfl (tDr w2.heap.size (.slice none 0 0) (.slice none 0 0) [] [] room) (by simp [tDr, tBlk, rfoot, Value.ownBlock]) (fun h => ⟨h, OwnS.nil _ _ _, OwnS.nil _ _ _⟩)
    clear H
    have P3 := dopen_is _ w2.heap.size (.slice none 0 0) (.slice none 0 0) [] [] room [] 0 (H2.at_ 0 rfl) (by simp) (by intro c hc; simp at hc) (by intro j x hj; simp at hj) rfl (.inl rfl) (by simpa using hr0)
    have P3h : Hid _ := P3
    clear P3
    go_wp2_with fail
    go_at_call 9
    refine Calls.mono (P3h.out) ?_
    rintro e w3 (⟨h0, _⟩|⟨_, mb, lv3, sv3, lw3, sf3, ls3, rfl, h3, hs3, _⟩)
    · exact absurd h0 (by simp)
    have H := H2.call1 0 rfl h3
    obtain ⟨rfl, rfl⟩ := hs3 rfl
    clear h3 hs3 P3h H2
    obtain ⟨T, hT⟩ : ∃ T, T = tBlk w.heap.size #[.int .i64 s1.p, .int .i64 s1.g, .int .i64 s1.h, .int .i64 s1.r, .int .i64 s2.p, .int .i64 s2.g, .int .i64 s2.h, .int .i64 s2.r] 26 := ⟨_, rfl⟩
    rw [← hT] at H
    have hP : PInv T w room b w2.heap.size vb mb w3 := ⟨fv1, lv3, [], sv3, lw3, [], [], Chain.nil, rfl, by simpa using hr0, H.keep [2, 3, 0, 1, 4]⟩
    have hTh : Hid _ := hT
    clear H hT
    go_wp2_with fail
    generalize w2.heap.size = d' at *
    go_loopw [9, 10, 11, 13] (fun v9 v10 v11 v13 wr => ∃ (k vb mb : Nat), k ≤ acts.length ∧ v9 = .pointer (some ⟨vb, 0, none⟩) ∧ v10 = .int .i64 0 ∧ v11 = .pointer (some ⟨mb, 0, none⟩) ∧ v13 = .int .i64 k ∧ PInv T w room b d' vb mb wr) (fun _ _ _ v13 _ => acts.length - (intOf v13).toNat)
    case atStart => exact ⟨0, vb, mb, by omega, rfl, rfl, rfl, rfl, hP⟩
    case round =>
      obtain ⟨k, vb, mb, hk, rfl, rfl, rfl, rfl, hP1⟩ := hrel
      clear hP
      obtain ⟨wo, rfl⟩ : ∃ wo : World, wo = wr := ⟨_, rfl⟩
      by_cases hlt : k < acts.length
      · have g2 : decide ((k : Int) < (acts.length : Int)) = true := by simp; omega
        obtain ⟨a, ha⟩ : ∃ a, acts[k]? = some a := ⟨_, List.getElem?_eq_getElem hlt⟩
        have hm := List.mem_of_getElem? ha
        obtain ⟨ad, rfl, _, hc⟩ := hlh.out.at_ (j := k) (c := a.cells) (by rw [List.getElem?_map, ha]; rfl)
        have hka := hkh.out a hm
        have hc0 := hc 0 _ rfl
        have hc1 := hc 1 _ rfl
        have hc2 := hc 2 _ rfl
        have hc3 := hc 3 _ rfl
        have hc4 := hc 4 _ rfl
        have hc5 := hc 5 _ rfl
        rw [Nat.add_zero] at hc0
        rw [add_field _ _ _ (by omega)] at hc1 hc2 hc3 hc4 hc5
        have hcW : Hid (∀ wr, Turns [] w wr → wr.cell? (ad.add (k * 6)) = some (.int .u8 a.kind) ∧ wr.cell? ⟨(ad.add (k * 6)).block, (ad.add (k * 6)).off + 1, none⟩ = some (.int .i64 a.s.p) ∧ wr.cell? ⟨(ad.add (k * 6)).block, (ad.add (k * 6)).off + 2, none⟩ = some (.int .i64 a.s.g) ∧
          wr.cell? ⟨(ad.add (k * 6)).block, (ad.add (k * 6)).off + 3, none⟩ = some (.int .i64 a.s.h) ∧ wr.cell? ⟨(ad.add (k * 6)).block, (ad.add (k * 6)).off + 4, none⟩ = some (.int .i64 a.s.r) ∧ wr.cell? ⟨(ad.add (k * 6)).block, (ad.add (k * 6)).off + 5, none⟩ = some (.int .i64 a.keep)) :=
          Lib.hid (fun wr t => ⟨t.old hc0, t.old hc1, t.old hc2, t.old hc3, t.old hc4, t.old hc5⟩)
        clear ha hm hc hc0 hc1 hc2 hc3 hc4 hc5
        have hP1h : Hid _ := hP1
        go_wp2_with fail
        go_loopw [14] (fun v14 wr2 => ∃ (j : Nat), j ≤ nputs a ∧ v14 = .int .i64 j ∧ PInv T w room b d' vb mb wr2) (fun v14 _ => nputs a - (intOf v14).toNat)
        case atStart => exact ⟨0, by omega, rfl, hP1h.out⟩
        case round =>
          obtain ⟨j, hj, rfl, hP2⟩ := hrel
          clear hP1 hP1h
          obtain ⟨i0, i1, i2, i3, i4, i5⟩ := hcW.out _ hP2.t
          have hpu := puts_is wr a.kind a.s a.keep hka
          rw [← nputs_eq] at hpu
          have hpuh : Hid _ := hpu
          have hnp := nputs_le a
          clear hpu
          by_cases hjl : j < nputs a
          · have g3 : decide ((j : Int) < (nputs a : Int)) = true := by simp; omega
            have g4 : decide (j < nputs a) = true := decide_eq_true hjl
            go_wp2_with fail
            go_at_call 10
            refine Calls.mono (hpuh.out) ?_
            rintro e w4 ⟨rfl, t4⟩
            have hP4 := hP2.turns t4
            obtain ⟨r, hr⟩ := put_both hP4 a.s hr1
            have hrh : Hid _ := hr
            clear i0 i1 i2 i3 i4 i5 hpuh hr hP2 t4
            obtain ⟨i0, i1, i2, i3, i4, i5⟩ := hcW.out _ hP4.t
            go_wp2_with fail
            go_at_call 11
            refine Calls.mono (hrh.out) ?_
            rintro e w5 ⟨rfl, T5, h5⟩
            have h5h : Hid _ := h5
            clear i0 i1 i2 i3 i4 i5 h5 hP4 hrh
            obtain ⟨i0, i1, i2, i3, i4, i5⟩ := hcW.out _ T5
            go_wp2_with fail
            go_at_call 13
            refine Calls.mono (of_is _ a.s) ?_
            rintro e w6 ⟨rfl, t6⟩
            go_wp2_with fail
            go_at_call 12
            refine Calls.mono (h5h.out w6 t6) ?_
            rintro e w7 ⟨rfl, hP7⟩
            go_wp2_with fail
            go_roundw
            case rel => exact ⟨j + 1, by omega, by go_num, hP7⟩
            case measure => simp [intOf]; omega
          · obtain rfl : j = nputs a := by omega
            have g3 : decide ((nputs a : Int) < (nputs a : Int)) = false := by simp
            have g4 : decide (nputs a < nputs a) = false := by simp
            go_wp2_with fail
            go_at_call 10
            refine Calls.mono (hpuh.out) ?_
            rintro e w4 ⟨rfl, t4⟩
            have hP4 := hP2.turns t4
            clear i0 i1 i2 i3 i4 i5 hpuh hP2 t4
            obtain ⟨i0, i1, i2, i3, i4, i5⟩ := hcW.out _ hP4.t
            obtain ⟨q, hq⟩ : ∃ q, a.kind % 6 = q := ⟨_, rfl⟩
            have hmod : Int.tmod a.kind 6 = q := by rw [← hq]; exact Int.tmod_eq_emod_of_nonneg (by omega)
            have hqb : 0 ≤ q ∧ q ≤ 5 := by omega
            clear hq hj g3 g4 hnp
            go_upto_block 4 with fail
            go_cut [9, 10, 11] (fun v9 v10 v11 wc => ∃ vb mb, v9 = .pointer (some ⟨vb, 0, none⟩) ∧ v10 = .int .i64 0 ∧ v11 = .pointer (some ⟨mb, 0, none⟩) ∧ PInv T w room b d' vb mb wc)
            case first =>
              by_cases h3 : q = 3
              · have q3 : (q == 3) = true := by simp [h3]
                have hS := sync_both hP4 hr1
                have hSh : Hid _ := hS
                clear hS h3 hqb hmod i0 i1 i2 i3 i4 i5 hP4
                go_wp2_with fail
                go_at_call 14
                refine Calls.mono (hSh.out) ?_
                rintro e w5 ⟨rfl, h5⟩
                have h5h : Hid _ := h5
                clear h5
                go_wp2_with fail
                go_at_call 15
                refine Calls.mono (h5h.out) ?_
                rintro e w6 ⟨rfl, hP6⟩
                go_wp2_with fail
                go_meet
                exact ⟨_, _, rfl, rfl, rfl, hP6⟩
              · have q3 : (q == 3) = false := by simp [h3]
                by_cases h4 : q = 4
                · have q4 : (q == 4) = true := by simp [h4]
                  obtain ⟨r1, r2, hC⟩ := crash_both hP4 a.keep hr1
                  have hCh : Hid _ := hC
                  clear hC h3 h4 hqb hmod hP4
                  go_wp2_with fail
                  go_at_call 16
                  refine Calls.mono (hCh.out) ?_
                  rintro e w5 ⟨rfl, T5, ⟨lv5, B5⟩, h5⟩
                  have h5h := Lib.hid h5
                  clear i0 i1 i2 i3 i4 i5 h5 hCh
                  obtain ⟨i0, i1, i2, i3, i4, i5⟩ := hcW.out _ T5.drew
                  go_wp2_with fail
                  go_wp2_with fail
                  refine wp_region_flo2 [(0, true, [9]), (1, true, [9]), (2, true, [9]), (3, true, []), (4, true, [9]), (5, true, [9]), (6, true, [9]), (7, true, [9]), (8, true, []), (9, false, [])] (fun j W => True) (by kernel_rfl) rfl (by kernel_rfl) (by intro c d v a w h; cases d <;> first | (simpa [Exit.then, Exit.inBlock, Act.put] using h) | exact h) ?_
                  have e1 : w5.drew.cell? ⟨mb, 0, none⟩ = some _ := (B5.drew).cell 0
                  first
                    | (refine flo2_read _ rfl (fun _ => True) trivial (fun _ _ _ _ => trivial) (fun K hK => ?_); go_simp; first | (refine hK _ ?_) | (refine ⟨fun W _ => ?_, hK _ ?_⟩; · (go_simp)) | (refine ⟨fun W => ?_, hK _ ?_⟩; · (go_simp)))
                    | (refine flo2_read _ rfl (fun W => W = _) rfl (by simp) (fun K hK => ?_); go_simp; first | (refine hK _ ?_) | (refine ⟨fun W hS => ?_, hK _ ?_⟩; · (subst hS; go_simp)) | (refine ⟨?_, hK _ ?_⟩; · (go_simp)))
                  clear hK K
                  first
                    | (refine flo2_read _ rfl (fun _ => True) trivial (fun _ _ _ _ => trivial) (fun K hK => ?_); go_simp; first | (refine hK _ ?_) | (refine ⟨fun W _ => ?_, hK _ ?_⟩; · (go_simp)) | (refine ⟨fun W => ?_, hK _ ?_⟩; · (go_simp)))
                    | (refine flo2_read _ rfl (fun W => W = _) rfl (by simp) (fun K hK => ?_); go_simp; first | (refine hK _ ?_) | (refine ⟨fun W hS => ?_, hK _ ?_⟩; · (subst hS; go_simp)) | (refine ⟨?_, hK _ ?_⟩; · (go_simp)))
                  clear hK K
                  first
                    | (refine flo2_read _ rfl (fun _ => True) trivial (fun _ _ _ _ => trivial) (fun K hK => ?_); go_simp; first | (refine hK _ ?_) | (refine ⟨fun W _ => ?_, hK _ ?_⟩; · (go_simp)) | (refine ⟨fun W => ?_, hK _ ?_⟩; · (go_simp)))
                    | (refine flo2_read _ rfl (fun W => W = _) rfl (by simp) (fun K hK => ?_); go_simp; first | (refine hK _ ?_) | (refine ⟨fun W hS => ?_, hK _ ?_⟩; · (subst hS; go_simp)) | (refine ⟨?_, hK _ ?_⟩; · (go_simp)))
                  clear hK K
                  first
                    | (refine flo2_read _ rfl (fun _ => True) trivial (fun _ _ _ _ => trivial) (fun K hK => ?_); go_simp; first | (refine hK _ ?_) | (refine ⟨fun W _ => ?_, hK _ ?_⟩; · (go_simp)) | (refine ⟨fun W => ?_, hK _ ?_⟩; · (go_simp)))
                    | (refine flo2_read _ rfl (fun W => W = _) rfl (by simp) (fun K hK => ?_); go_simp; first | (refine hK _ ?_) | (refine ⟨fun W hS => ?_, hK _ ?_⟩; · (subst hS; go_simp)) | (refine ⟨?_, hK _ ?_⟩; · (go_simp)))
                  clear hK K
                  first
                    | (refine flo2_read _ rfl (fun _ => True) trivial (fun _ _ _ _ => trivial) (fun K hK => ?_); go_simp; first | (refine hK _ ?_) | (refine ⟨fun W _ => ?_, hK _ ?_⟩; · (go_simp)) | (refine ⟨fun W => ?_, hK _ ?_⟩; · (go_simp)))
                    | (refine flo2_read _ rfl (fun W => W = _) rfl (by simp) (fun K hK => ?_); go_simp; first | (refine hK _ ?_) | (refine ⟨fun W hS => ?_, hK _ ?_⟩; · (subst hS; go_simp)) | (refine ⟨?_, hK _ ?_⟩; · (go_simp)))
                  clear hK K
                  first
                    | (refine flo2_read _ rfl (fun _ => True) trivial (fun _ _ _ _ => trivial) (fun K hK => ?_); go_simp; first | (refine hK _ ?_) | (refine ⟨fun W _ => ?_, hK _ ?_⟩; · (go_simp)) | (refine ⟨fun W => ?_, hK _ ?_⟩; · (go_simp)))
                    | (refine flo2_read _ rfl (fun W => W = _) rfl (by simp) (fun K hK => ?_); go_simp; first | (refine hK _ ?_) | (refine ⟨fun W hS => ?_, hK _ ?_⟩; · (subst hS; go_simp)) | (refine ⟨?_, hK _ ?_⟩; · (go_simp)))
                  clear hK K
                  first
                    | (refine flo2_read _ rfl (fun _ => True) trivial (fun _ _ _ _ => trivial) (fun K hK => ?_); go_simp; first | (refine hK _ ?_) | (refine ⟨fun W _ => ?_, hK _ ?_⟩; · (go_simp)) | (refine ⟨fun W => ?_, hK _ ?_⟩; · (go_simp)))
                    | (refine flo2_read _ rfl (fun W => W = _) rfl (by simp) (fun K hK => ?_); go_simp; first | (refine hK _ ?_) | (refine ⟨fun W hS => ?_, hK _ ?_⟩; · (subst hS; go_simp)) | (refine ⟨?_, hK _ ?_⟩; · (go_simp)))
                  clear hK K
                  first
                    | (refine flo2_read _ rfl (fun _ => True) trivial (fun _ _ _ _ => trivial) (fun K hK => ?_); go_simp; first | (refine hK _ ?_) | (refine ⟨fun W _ => ?_, hK _ ?_⟩; · (go_simp)) | (refine ⟨fun W => ?_, hK _ ?_⟩; · (go_simp)))
                    | (refine flo2_read _ rfl (fun W => W = _) rfl (by simp) (fun K hK => ?_); go_simp; first | (refine hK _ ?_) | (refine ⟨fun W hS => ?_, hK _ ?_⟩; · (subst hS; go_simp)) | (refine ⟨?_, hK _ ?_⟩; · (go_simp)))
                  clear hK K
                  first
                    | (refine flo2_read _ rfl (fun _ => True) trivial (fun _ _ _ _ => trivial) (fun K hK => ?_); go_simp; first | (refine hK _ ?_) | (refine ⟨fun W _ => ?_, hK _ ?_⟩; · (go_simp)) | (refine ⟨fun W => ?_, hK _ ?_⟩; · (go_simp)))
                    | (refine flo2_read _ rfl (fun W => W = _) rfl (by simp) (fun K hK => ?_); go_simp; first | (refine hK _ ?_) | (refine ⟨fun W hS => ?_, hK _ ?_⟩; · (subst hS; go_simp)) | (refine ⟨?_, hK _ ?_⟩; · (go_simp)))
                  clear hK K
                  refine flo2_alone _ rfl ?_
                  go_wp2_with fail
                  go_at_call 17
                  refine Calls.mono (h5h.out w5.drew (Turns.refl _ _).drew) ?_
                  rintro e w6 ⟨rfl, h6⟩
                  go_wp2_with fail
                  refine ⟨trivial, _, fun _ _ h => h, ?_⟩
                  refine flo2_end ?_
                  have h6h : Hid _ := h6
                  clear h6 h5h e1 i0 i1 i2 i3 i4 i5 B5 T5
                  go_wp2_with fail
                  go_at_call 8
                  refine Calls.mono (h6h.out) ?_
                  rintro e w7 ⟨vb', rfl, ⟨lv7, B7⟩, h7⟩
                  have h7h : Hid _ := h7
                  have e1 : w7.cell? ⟨mb, 0, none⟩ = some _ := B7.cell 0
                  clear h7 h6h B7
                  go_wp2_with fail
                  go_at_call 9
                  refine Calls.mono (h7h.out) ?_
                  rintro e w8 ⟨mb', rfl, hP8⟩
                  go_wp2_with fail
                  go_meet
                  exact ⟨_, _, rfl, rfl, rfl, hP8⟩
                · have q4 : (q == 4) = false := by simp [h4]
                  clear h3 h4 hqb hmod
                  have hP4h : Hid _ := hP4
                  go_wp2_with fail
                  go_meet
                  exact ⟨_, _, rfl, rfl, rfl, hP4h.out⟩
            case rest =>
              obtain ⟨vb2, mb2, rfl, rfl, rfl, hP5⟩ := hcut
              clear hP4 i0 i1 i2 i3 i4 i5 hmod hqb
              have hS := hP5.same hr1
              have hSh : Hid _ := hS
              clear hS
              go_wp2_with fail
              go_at_call 18
              refine Calls.mono (hSh.out) ?_
              rintro e w6 ⟨rfl, t6⟩
              have hP6 := hP5.turns t6
              go_wp2_with fail
              go_roundw
              case rel => exact ⟨k + 1, vb2, mb2, by omega, rfl, rfl, rfl, by go_num, hP6⟩
              case measure => simp [intOf]; omega
      · obtain rfl : k = acts.length := by omega
        have g2 : decide ((acts.length : Int) < (acts.length : Int)) = false := by simp
        go_wp2_with fail
        go_at_call 14
        refine Calls.mono (vsync_nil _) ?_
        rintro e w4 ⟨rfl, t4⟩
        go_wp2_with fail
        go_at_call 8
        refine Calls.mono (open_nil _) ?_
        rintro e w5 ⟨rfl, t5⟩
        have hP5 := ((hP1.turns t4).turns t5).turns (Turns.refl _ _).drew
        have hB : Blk w5.drew w.heap.size #[.int .i64 s1.p, .int .i64 s1.g, .int .i64 s1.h, .int .i64 s1.r, .int .i64 s2.p, .int .i64 s2.g, .int .i64 s2.h, .int .i64 s2.r] 26 := by
          have := hP5.thing
          rw [hTh.out] at this
          exact this
        have hRi := fun w => rises_is w s1 s2
        have hRi2 := fun w => drises_is w s1 s2
        obtain ⟨ris, hris⟩ : ∃ ris, s1.rises s2 = ris := ⟨_, rfl⟩
        rw [hris] at hRi hRi2
        have hRih : Hid _ := hRi
        have hRi2h : Hid _ := hRi2
        clear hP1 t4 t5 hRi hRi2 hris hk
        go_wp2_with fail
        go_wp2_with fail
        refine wp_region_flo [(0, true), (1, true), (2, true), (3, true), (5, true), (6, true), (8, true), (9, true), (4, false), (7, false), (10, false), (11, false), (12, true), (13, true)] (fun W => Turns [] w5.drew W) (by kernel_rfl) rfl (by kernel_rfl) (by intro c d v a w h; cases d <;> first | (simpa [Exit.then, Exit.inBlock, Act.put] using h) | exact h) (Turns.refl _ _) ?_
        generalize w5.drew = w6 at *
        have e0 : World.cell? (w6) ⟨w.heap.size, 0, none⟩ = some _ := (hB).cell 0
        have e1 : World.cell? (w6) ⟨w.heap.size, 1, none⟩ = some _ := (hB).cell 1
        have e2 : World.cell? (w6) ⟨w.heap.size, 2, none⟩ = some _ := (hB).cell 2
        have e3 : World.cell? (w6) ⟨w.heap.size, 3, none⟩ = some _ := (hB).cell 3
        have e4 : World.cell? (w6) ⟨w.heap.size, 4, none⟩ = some _ := (hB).cell 4
        have e5 : World.cell? (w6) ⟨w.heap.size, 5, none⟩ = some _ := (hB).cell 5
        have e6 : World.cell? (w6) ⟨w.heap.size, 6, none⟩ = some _ := (hB).cell 6
        have e7 : World.cell? (w6) ⟨w.heap.size, 7, none⟩ = some _ := (hB).cell 7
        refine flo_read _ rfl (fun K hK => ?_)
        go_simp
        first | (refine hK _ ?_) | (refine ⟨fun W hS => ?_, hK _ ?_⟩; · (have y0 := hS.old e0; have y1 := hS.old e1; have y2 := hS.old e2; have y3 := hS.old e3; have y4 := hS.old e4; have y5 := hS.old e5; have y6 := hS.old e6; have y7 := hS.old e7; try go_simp))
        clear hK K
        refine flo_read _ rfl (fun K hK => ?_)
        go_simp
        first | (refine hK _ ?_) | (refine ⟨fun W hS => ?_, hK _ ?_⟩; · (have y0 := hS.old e0; have y1 := hS.old e1; have y2 := hS.old e2; have y3 := hS.old e3; have y4 := hS.old e4; have y5 := hS.old e5; have y6 := hS.old e6; have y7 := hS.old e7; try go_simp))
        clear hK K
        refine flo_read _ rfl (fun K hK => ?_)
        go_simp
        first | (refine hK _ ?_) | (refine ⟨fun W hS => ?_, hK _ ?_⟩; · (have y0 := hS.old e0; have y1 := hS.old e1; have y2 := hS.old e2; have y3 := hS.old e3; have y4 := hS.old e4; have y5 := hS.old e5; have y6 := hS.old e6; have y7 := hS.old e7; try go_simp))
        clear hK K
        refine flo_read _ rfl (fun K hK => ?_)
        go_simp
        first | (refine hK _ ?_) | (refine ⟨fun W hS => ?_, hK _ ?_⟩; · (have y0 := hS.old e0; have y1 := hS.old e1; have y2 := hS.old e2; have y3 := hS.old e3; have y4 := hS.old e4; have y5 := hS.old e5; have y6 := hS.old e6; have y7 := hS.old e7; try go_simp))
        clear hK K
        refine flo_read _ rfl (fun K hK => ?_)
        go_simp
        first | (refine hK _ ?_) | (refine ⟨fun W hS => ?_, hK _ ?_⟩; · (have y0 := hS.old e0; have y1 := hS.old e1; have y2 := hS.old e2; have y3 := hS.old e3; have y4 := hS.old e4; have y5 := hS.old e5; have y6 := hS.old e6; have y7 := hS.old e7; try go_simp))
        clear hK K
        refine flo_read _ rfl (fun K hK => ?_)
        go_simp
        first | (refine hK _ ?_) | (refine ⟨fun W hS => ?_, hK _ ?_⟩; · (have y0 := hS.old e0; have y1 := hS.old e1; have y2 := hS.old e2; have y3 := hS.old e3; have y4 := hS.old e4; have y5 := hS.old e5; have y6 := hS.old e6; have y7 := hS.old e7; try go_simp))
        clear hK K
        refine flo_read _ rfl (fun K hK => ?_)
        go_simp
        first | (refine hK _ ?_) | (refine ⟨fun W hS => ?_, hK _ ?_⟩; · (have y0 := hS.old e0; have y1 := hS.old e1; have y2 := hS.old e2; have y3 := hS.old e3; have y4 := hS.old e4; have y5 := hS.old e5; have y6 := hS.old e6; have y7 := hS.old e7; try go_simp))
        clear hK K
        refine flo_read _ rfl (fun K hK => ?_)
        go_simp
        first | (refine hK _ ?_) | (refine ⟨fun W hS => ?_, hK _ ?_⟩; · (have y0 := hS.old e0; have y1 := hS.old e1; have y2 := hS.old e2; have y3 := hS.old e3; have y4 := hS.old e4; have y5 := hS.old e5; have y6 := hS.old e6; have y7 := hS.old e7; try go_simp))
        clear hK K
        refine flo_alone _ rfl ?_
        go_wp2_with fail
        go_at_call 19
        refine Calls.mono (hRih.out _) ?_
        rintro e w7 ⟨rfl, t7⟩
        go_wp2_with fail
        refine ⟨fun W => Turns [] w7 W, fun W h => t7.trans h, Turns.refl _ _, ?_⟩
        refine flo_alone _ rfl ?_
        go_wp2_with fail
        go_at_call 13
        refine Calls.mono (of_is _ s1) ?_
        rintro e w8 ⟨rfl, t8⟩
        go_wp2_with fail
        refine ⟨fun W => Turns [] w8 W, fun W h => t8.trans h, Turns.refl _ _, ?_⟩
        refine flo_alone _ rfl ?_
        go_wp2_with fail
        go_at_call 13
        refine Calls.mono (of_is _ s2) ?_
        rintro e w9 ⟨rfl, t9⟩
        go_wp2_with fail
        refine ⟨fun W => Turns [] w9 W, fun W h => t9.trans h, Turns.refl _ _, ?_⟩
        refine flo_alone _ rfl ?_
        go_wp2_with fail
        go_at_call 20
        refine Calls.mono (hRi2h.out _) ?_
        rintro e wa ⟨rfl, ta⟩
        go_wp2_with fail
        refine ⟨fun W => Turns [] wa W, fun W h => ta.trans h, Turns.refl _ _, ?_⟩
        refine flo_read _ rfl (fun K hK => ?_)
        go_simp
        first | (refine hK _ ?_) | (refine ⟨fun W hS => ?_, hK _ ?_⟩; · (skip; try go_simp))
        clear hK K
        refine flo_read _ rfl (fun K hK => ?_)
        go_simp
        first | (refine hK _ ?_) | (refine ⟨fun W hS => ?_, hK _ ?_⟩; · (skip; try go_simp))
        clear hK K
        refine flo_end ?_
        have Ta := ((((hP5.t).trans t7).trans t8).trans t9).trans ta
        clear t7 t8 t9 ta hB e0 e1 e2 e3 e4 e5 e6 e7 hP5
        go_wp2_with fail
        go_at_call 6
        refine Calls.mono (alive_any _) ?_
        rintro e wb ⟨rfl, tb⟩
        go_wp2_with fail
        go_at_call 11
        refine Calls.mono (put_nil _ z4) ?_
        rintro e wc ⟨rfl, tc⟩
        go_wp2_with fail
        go_at_call 21
        refine Calls.mono (state_nil _) ?_
        rintro e wd ⟨rfl, td⟩
        go_wp2_with fail
        go_at_call 22
        refine Calls.mono (records_nil _) ?_
        rintro e we ⟨rfl, te⟩
        have hX := hXh.out _ ((((Ta.trans tb).trans tc).trans td).trans te)
        go_wp2_with fail
        exact hX
end Go.Proofs.Ytknmjmhiejmjdaa.Vu
