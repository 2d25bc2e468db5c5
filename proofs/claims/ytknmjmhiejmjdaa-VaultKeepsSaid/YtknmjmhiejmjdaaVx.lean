/- The law VaultKeeps: its walk. -/
import Derived.Test.YtknmjmhiejmjdaaVw
set_option linter.unusedVariables false
set_option linter.unusedSimpArgs false
set_option maxRecDepth 100000
namespace Go.Proofs.Ytknmjmhiejmjdaa.Vx
open Go.RowKit Go.MapKept Go.ChangeShapes Go.WideShapes Hm Hs Hr Hb Hf Hg Hv Ho Hx Dk Dr Kw Kn Kr Ks Va Vb Vc Vd Ve Vf Vs Vg Vi Vj Vl Vm Vo Vp Vt Vw Hn Ha
theorem v4_ne {a b : V4} (h : a ≠ b) : (a.p == b.p) = false ∨ ((a.p = b.p) ∧ (a.g == b.g) = false) ∨ (a.p = b.p ∧ a.g = b.g ∧ (a.h == b.h) = false) ∨ (a.p = b.p ∧ a.g = b.g ∧ a.h = b.h ∧ (a.r == b.r) = false) := by
  obtain ⟨p, g, hh, r⟩ := a
  obtain ⟨p', g', hh', r'⟩ := b
  simp only [ne_eq, V4.mk.injEq, not_and] at h
  simp only [beq_eq_false_iff_ne, ne_eq]
  by_cases h1 : p = p'
  · by_cases h2 : g = g'
    · by_cases h3 : hh = hh'
      · exact .inr (.inr (.inr ⟨h1, h2, h3, h h1 h2 h3⟩))
      · exact .inr (.inr (.inl ⟨h1, h2, h3⟩))
    · exact .inr (.inl ⟨h1, h2⟩)
  · exact .inl h1
set_option maxHeartbeats 4000000 in
theorem keeps_is (w : World) (A : Option Addr) (c : Nat) (l : List V4) (synced keep : Int) (hl : FlatRow w A 4 (l.map V4.cells)) :
    Calls Try.prog 5 #[.slice A l.length c, .int .i64 synced, .int .i64 keep] w fun e w' => e = .returned (.bool true) ∧ Turns [] w w' := by
  have H := Sep.start w
  obtain ⟨X, hX⟩ : ∃ X : Ending → World → Prop, X = fun e w' => e = .returned (.bool true) ∧ Turns [] w w' := ⟨_, rfl⟩
  rw [← hX]
  have hXh : Hid (∀ w', Turns [] w w' → X (.returned (.bool true)) w') := Lib.hid (fun w' h => by rw [hX]; exact ⟨rfl, h⟩)
  clear hX
  have hll := hl.1
  rw [List.length_map] at hll
  have hlh := Lib.hid hl
  clear hl
  by_cases hlong : (l.length : Int) > 200
  · have g1 := decide_eq_true hlong
    clear hlong
    go_enter Try.func5, Try.ntmps5
    go_wp2_with fail
    go_at_call 6
    refine Calls.mono (alive_any _) ?_
    rintro e w1 ⟨rfl, t1⟩
    have hX := hXh.out _ t1
    go_wp2_with fail
    exact hX
  · have g1 : decide ((l.length : Int) > 200) = false := decide_eq_false hlong
    have hl200 : l.length ≤ 200 := by omega
    clear hlong
    go_enter Try.func5, Try.ntmps5
    go_wp2_with fail
    go_at_call 7
    refine Calls.mono (new_ok 65536 _ (by omega)) ?_
    rintro e w1 ⟨b, rfl, h1, hb1, t1⟩
    replace H := Vp.Sep.newDisk H h1 hb1 t1
    clear h1 hb1 t1
    go_wp2_with fail
    go_at_call 8
    refine Calls.mono (vopen_is w1 b _ [] 0 65536 [] 0 (H.got [0]) (by simp) (by intro c hc; simp at hc) (by intro j x hj; simp at hj) rfl (.inl rfl) (by simp)) ?_
    rintro e w2 (⟨h0, _⟩|⟨_, vb, fv1, sf1, rfl, h2, hs1, _⟩)
    · exact absurd h0 (by simp)
    replace H := H.call [0] h2
    obtain rfl := hs1 rfl
    clear h2 hs1
    replace H := (H.alloc #[.int .i64 0, .int .i64 0, .int .i64 0, .int .i64 0] 25).alloc #[.int .i64 0, .int .i64 0, .int .i64 0, .int .i64 0] 25
    rw [World.size_alloc] at H
    have hK : KInv w w2.heap.size (w2.heap.size + 1) vb b z4 z4 l 0 ((w2.alloc (.cells #[.int .i64 0, .int .i64 0, .int .i64 0, .int .i64 0] 25)).alloc (.cells #[.int .i64 0, .int .i64 0, .int .i64 0, .int .i64 0] 25)) :=
      ⟨[], 0, fv1, Chain.nil, Nat.le_refl _, Nat.le_refl _, by simp, rfl, rfl, H⟩
    clear H
    go_wp2_with fail
    generalize (w2.alloc (.cells #[.int .i64 0, .int .i64 0, .int .i64 0, .int .i64 0] 25)).alloc (.cells #[.int .i64 0, .int .i64 0, .int .i64 0, .int .i64 0] 25) = w3 at *
    generalize hsb : w2.heap.size = sb at *
    clear hsb
    go_loopw [13] (fun v13 wr => ∃ (k : Nat) (ss ls : V4), k ≤ l.length ∧ v13 = .int .i64 k ∧ KInv w sb (sb + 1) vb b ss ls l k wr) (fun v13 _ => l.length - (intOf v13).toNat)
    case atStart => exact ⟨0, z4, z4, by omega, rfl, hK⟩
    case round =>
      obtain ⟨k, ss, ls, hk, rfl, hK1⟩ := hrel
      clear hK
      obtain ⟨wo, rfl⟩ : ∃ wo : World, wo = wr := ⟨_, rfl⟩
      by_cases hlt : k < l.length
      · have g2 : decide ((k : Int) < (l.length : Int)) = true := by simp; omega
        obtain ⟨a, ha⟩ : ∃ a, l[k]? = some a := ⟨_, List.getElem?_eq_getElem hlt⟩
        obtain ⟨ad, rfl, _, hc⟩ := hlh.out.at_ (j := k) (c := a.cells) (by rw [List.getElem?_map, ha]; rfl)
        have hc0 := hc 0 _ rfl
        have hc1 := hc 1 _ rfl
        have hc2 := hc 2 _ rfl
        have hc3 := hc 3 _ rfl
        rw [Nat.add_zero] at hc0
        rw [add_field _ _ _ (by omega)] at hc1 hc2 hc3
        have hcW : Hid (∀ wr, Turns [] w wr → wr.cell? (ad.add (k * 4)) = some (.int .i64 a.p) ∧ wr.cell? ⟨(ad.add (k * 4)).block, (ad.add (k * 4)).off + 1, none⟩ = some (.int .i64 a.g) ∧ wr.cell? ⟨(ad.add (k * 4)).block, (ad.add (k * 4)).off + 2, none⟩ = some (.int .i64 a.h) ∧
          wr.cell? ⟨(ad.add (k * 4)).block, (ad.add (k * 4)).off + 3, none⟩ = some (.int .i64 a.r)) :=
          Lib.hid (fun wr t => ⟨t.old hc0, t.old hc1, t.old hc2, t.old hc3⟩)
        have hain : a ∈ l.take (k + 1) := by rw [List.take_add_one, ha]; exact List.mem_append_right _ (by simp)
        obtain ⟨r, hP⟩ := kput hK1 a (by omega) ha
        have hPh := Lib.hid hP
        have hainh := Lib.hid hain
        clear ha hc hc0 hc1 hc2 hc3 hP hain
        obtain ⟨i0, i1, i2, i3⟩ := hcW.out _ hK1.t
        go_wp2_with fail
        go_at_call 11
        refine Calls.mono (hPh.out) ?_
        rintro e w4 ⟨rfl, T4, h4⟩
        clear i0 i1 i2 i3 hPh hK1
        by_cases hr : r = 0
        · subst hr
          obtain ⟨B4, hK5⟩ := h4 rfl
          unfold setS at hK5
          have f0 : World.cell? (w4) ⟨(sb + 1), 0, none⟩ = some _ := (B4).cell 0
          have ff0 : World.frozen? (w4) ⟨(sb + 1), 0, none⟩ = false := (B4).frozen 0
          have f1 : World.cell? (w4) ⟨(sb + 1), 1, none⟩ = some _ := (B4).cell 1
          have ff1 : World.frozen? (w4) ⟨(sb + 1), 1, none⟩ = false := (B4).frozen 1
          have f2 : World.cell? (w4) ⟨(sb + 1), 2, none⟩ = some _ := (B4).cell 2
          have ff2 : World.frozen? (w4) ⟨(sb + 1), 2, none⟩ = false := (B4).frozen 2
          have f3 : World.cell? (w4) ⟨(sb + 1), 3, none⟩ = some _ := (B4).cell 3
          have ff3 : World.frozen? (w4) ⟨(sb + 1), 3, none⟩ = false := (B4).frozen 3
          obtain ⟨i0, i1, i2, i3⟩ := hcW.out _ T4
          have hK5h := Lib.hid hK5
          by_cases hsy : (k : Int) < synced
          · have g3 := decide_eq_true hsy
            have hSy := ksync hK5 (by omega) hainh.out
            have hSyh := Lib.hid hSy
            clear hsy hSy h4 B4 hK5
            go_wp2_with fail
            go_at_call 14
            refine Calls.mono (hSyh.out) ?_
            rintro e w6 ⟨rfl, T6, B6, hK7⟩
            unfold setS at hK7
            clear i0 i1 i2 i3 f0 f1 f2 f3 ff0 ff1 ff2 ff3 hSyh
            have f0 : World.cell? (w6) ⟨sb, 0, none⟩ = some _ := (B6).cell 0
            have ff0 : World.frozen? (w6) ⟨sb, 0, none⟩ = false := (B6).frozen 0
            have f1 : World.cell? (w6) ⟨sb, 1, none⟩ = some _ := (B6).cell 1
            have ff1 : World.frozen? (w6) ⟨sb, 1, none⟩ = false := (B6).frozen 1
            have f2 : World.cell? (w6) ⟨sb, 2, none⟩ = some _ := (B6).cell 2
            have ff2 : World.frozen? (w6) ⟨sb, 2, none⟩ = false := (B6).frozen 2
            have f3 : World.cell? (w6) ⟨sb, 3, none⟩ = some _ := (B6).cell 3
            have ff3 : World.frozen? (w6) ⟨sb, 3, none⟩ = false := (B6).frozen 3
            obtain ⟨i0, i1, i2, i3⟩ := hcW.out _ T6
            have hK7h := Lib.hid hK7
            clear hK7 B6
            go_wp2_with fail
            go_roundw
            case rel => exact ⟨k + 1, a, a, by omega, by go_num, hK7h.out⟩
            case measure => simp [intOf]; omega
          · have g3 : decide ((k : Int) < synced) = false := decide_eq_false hsy
            clear hsy h4 B4 hK5
            go_wp2_with fail
            go_roundw
            case rel => exact ⟨k + 1, ss, a, by omega, by go_num, hK5h.out⟩
            case measure => simp [intOf]; omega
        · have g3 : (r == 0) = false := by simpa using hr
          have g4 : (r != 0) = true := by simpa using hr
          clear hr h4
          go_wp2_with fail
          go_at_call 6
          refine Calls.mono (alive_any _) ?_
          rintro e w5 ⟨rfl, t5⟩
          have hX := hXh.out _ (T4.trans t5)
          go_wp2_with fail
          exact hX
      · obtain rfl : k = l.length := by omega
        have g2 : decide ((l.length : Int) < (l.length : Int)) = false := by simp
        obtain ⟨r1, hC⟩ := kcrash hK1 keep (by omega)
        have hCh := Lib.hid hC
        clear hC hK1
        go_wp2_with fail
        go_at_call 16
        refine Calls.mono (hCh.out) ?_
        rintro e w5 ⟨rfl, h5⟩
        have h5h := Lib.hid h5
        clear h5 hCh
        go_wp2_with fail
        go_at_call 8
        refine Calls.mono (h5h.out) ?_
        rintro e w6 ⟨vb', now, n, rfl, hin, hr1, hr2, hkp, H⟩
        clear h5h
        have hSt := state_is w6 vb' b now n (H.blk 0 rfl)
        have hSth := Lib.hid hSt
        have hinh := Lib.hid hin
        have hr1h := Lib.hid hr1
        have hr2h := Lib.hid hr2
        have hkph := Lib.hid hkp
        clear hSt hin hr1 hr2 hkp
        go_wp2_with fail
        go_at_call 21
        refine Calls.mono (hSth.out) ?_
        rintro e w7 ⟨rfl, t7⟩
        replace H := (H.turns t7).alloc #[.int .i64 now.p, .int .i64 now.g, .int .i64 now.h, .int .i64 now.r] 25
        clear t7 hSth
        have N : Blk (w7.alloc (.cells #[.int .i64 now.p, .int .i64 now.g, .int .i64 now.h, .int .i64 now.r] 25)) w7.heap.size #[.int .i64 now.p, .int .i64 now.g, .int .i64 now.h, .int .i64 now.r] 25 := H.blk 0 rfl
        have S : Blk (w7.alloc (.cells #[.int .i64 now.p, .int .i64 now.g, .int .i64 now.h, .int .i64 now.r] 25)) sb #[.int .i64 ss.p, .int .i64 ss.g, .int .i64 ss.h, .int .i64 ss.r] 25 := H.blk 3 rfl
        have La : Blk (w7.alloc (.cells #[.int .i64 now.p, .int .i64 now.g, .int .i64 now.h, .int .i64 now.r] 25)) (sb + 1) #[.int .i64 ls.p, .int .i64 ls.g, .int .i64 ls.h, .int .i64 ls.r] 25 := H.blk 2 rfl
        have T8 := H.t
        clear H
        go_upto_region 23 with fail
        generalize w7.alloc (.cells #[.int .i64 now.p, .int .i64 now.g, .int .i64 now.h, .int .i64 now.r] 25) = w8 at *
        have n0 : World.cell? (w8) ⟨w7.heap.size, 0, none⟩ = some _ := (N).cell 0
        have n1 : World.cell? (w8) ⟨w7.heap.size, 1, none⟩ = some _ := (N).cell 1
        have n2 : World.cell? (w8) ⟨w7.heap.size, 2, none⟩ = some _ := (N).cell 2
        have n3 : World.cell? (w8) ⟨w7.heap.size, 3, none⟩ = some _ := (N).cell 3
        have s0 : World.cell? (w8) ⟨sb, 0, none⟩ = some _ := (S).cell 0
        have s1 : World.cell? (w8) ⟨sb, 1, none⟩ = some _ := (S).cell 1
        have s2 : World.cell? (w8) ⟨sb, 2, none⟩ = some _ := (S).cell 2
        have s3 : World.cell? (w8) ⟨sb, 3, none⟩ = some _ := (S).cell 3
        go_cut [17] (fun v17 wc => wc = w8 ∧ ∃ bb : Bool, v17 = .bool bb ∧ (now = ss → bb = true))
        case first =>
          by_cases he : now = ss
          · subst he
            go_wp2_with fail
            go_meet
            exact ⟨rfl, true, rfl, fun _ => rfl⟩
          · have heh := Lib.hid he
            rcases v4_ne he with e1 | ⟨e0, e1⟩ | ⟨e0, e2, e1⟩ | ⟨e0, e2, e3, e1⟩
            all_goals
              clear he
              go_wp2_with fail
              go_meet
              exact ⟨rfl, false, rfl, fun h => absurd h heh.out⟩
        case rest =>
          obtain ⟨rfl, bb, rfl, hbb⟩ := hcut
          have hbbh := Lib.hid hbb
          clear hbb n0 n1 n2 n3 s0 s1 s2 s3
          obtain ⟨w8, rfl⟩ : ∃ w8 : World, w8 = wc := ⟨_, rfl⟩
          go_wp2_with fail
          go_loopw [17, 18] (fun v17 v18 wr => Turns [] w8 wr ∧ ∃ (k : Nat) (bb : Bool), k ≤ l.length ∧ v18 = .int .i64 k ∧ v17 = .bool bb ∧ ((now = ss ∨ now ∈ l.take k) → bb = true)) (fun _ v18 _ => l.length - (intOf v18).toNat)
          case atStart => exact ⟨Turns.refl _ _, 0, bb, by omega, rfl, rfl, fun h => hbbh.out (h.elim id (fun h => by simp at h))⟩
          case round =>
            obtain ⟨Tr, k, bb, hk, rfl, rfl, hbb⟩ := hrel
            have hbbh := Lib.hid hbb
            clear hbb
            have N2 := N.turns Tr (by simp)
            have S2 := S.turns Tr (by simp)
            have L2 := La.turns Tr (by simp)
            have Tw := T8.trans Tr
            by_cases hlt : k < l.length
            · have g3 : decide ((k : Int) < (l.length : Int)) = true := by simp; omega
              obtain ⟨a, ha⟩ : ∃ a, l[k]? = some a := ⟨_, List.getElem?_eq_getElem hlt⟩
              obtain ⟨ad, rfl, _, hc⟩ := hlh.out.at_ (j := k) (c := a.cells) (by rw [List.getElem?_map, ha]; rfl)
              have i0 := Tw.old (hc 0 _ rfl)
              have i1 := Tw.old (hc 1 _ rfl)
              have i2 := Tw.old (hc 2 _ rfl)
              have i3 := Tw.old (hc 3 _ rfl)
              rw [Nat.add_zero] at i0
              rw [add_field _ _ _ (by omega)] at i1 i2 i3
              have hts : l.take (k + 1) = l.take k ++ [a] := by rw [List.take_add_one, ha]; rfl
              have htsh := Lib.hid hts
              clear ha hc hts
              have n0 : World.cell? (wr) ⟨w7.heap.size, 0, none⟩ = some _ := (N2).cell 0
              have n1 : World.cell? (wr) ⟨w7.heap.size, 1, none⟩ = some _ := (N2).cell 1
              have n2 : World.cell? (wr) ⟨w7.heap.size, 2, none⟩ = some _ := (N2).cell 2
              have n3 : World.cell? (wr) ⟨w7.heap.size, 3, none⟩ = some _ := (N2).cell 3
              cases bb with
              | true =>
                go_wp2_with fail
                go_quiet (fail)
                go_wp2_with fail
                go_roundw
                case rel => exact ⟨Tr.drewN _, k + 1, true, by omega, by go_num, rfl, fun _ => rfl⟩
                case measure => simp [intOf]; omega
              | false =>
                by_cases he : now = a
                · subst he
                  go_wp2_with fail
                  go_quiet (fail)
                  go_wp2_with fail
                  go_roundw
                  case rel => exact ⟨Tr.drewN _, k + 1, true, by omega, by go_num, rfl, fun _ => rfl⟩
                  case measure => simp [intOf]; omega
                · have hno : (now = ss ∨ now ∈ l.take (k + 1)) → false = true := fun h => by
                    rcases h with h | h
                    · exact hbbh.out (.inl h)
                    · rw [htsh.out] at h
                      rcases List.mem_append.1 h with h | h
                      · exact hbbh.out (.inr h)
                      · exact absurd (by simpa using h) he
                  have hnoh := Lib.hid hno
                  clear hno
                  rcases v4_ne he with e1 | ⟨e0, e1⟩ | ⟨e0, e2, e1⟩ | ⟨e0, e2, e3, e1⟩
                  all_goals
                    clear he
                    go_wp2_with fail
                    go_quiet (fail)
                    go_wp2_with fail
                    go_roundw
                    case rel => exact ⟨Tr.drewN _, k + 1, false, by omega, by go_num, rfl, hnoh.out⟩
                    case measure => simp [intOf]; omega
            · obtain rfl : k = l.length := by omega
              have g3 : decide ((l.length : Int) < (l.length : Int)) = false := by simp
              rw [List.take_length] at hbbh
              have hb1 := hbbh.out (by have := hinh.out; rwa [List.take_length] at this)
              subst hb1
              clear hbbh
              have R1 := fun w => rises_is w ss now
              have R2 := fun w => rises_is w now ls
              rw [hr1h.out] at R1
              rw [hr2h.out] at R2
              have R1h := Lib.hid R1
              have R2h := Lib.hid R2
              clear R1 R2
              go_wp2_with fail
              go_at_call 6
              refine Calls.mono (alive_any _) ?_
              rintro e wa ⟨rfl, ta⟩
              have n0 : World.cell? (wa) ⟨w7.heap.size, 0, none⟩ = some _ := (N2.turns ta (by simp)).cell 0
              have n1 : World.cell? (wa) ⟨w7.heap.size, 1, none⟩ = some _ := (N2.turns ta (by simp)).cell 1
              have n2 : World.cell? (wa) ⟨w7.heap.size, 2, none⟩ = some _ := (N2.turns ta (by simp)).cell 2
              have n3 : World.cell? (wa) ⟨w7.heap.size, 3, none⟩ = some _ := (N2.turns ta (by simp)).cell 3
              have s0 : World.cell? (wa) ⟨sb, 0, none⟩ = some _ := (S2.turns ta (by simp)).cell 0
              have s1 : World.cell? (wa) ⟨sb, 1, none⟩ = some _ := (S2.turns ta (by simp)).cell 1
              have s2 : World.cell? (wa) ⟨sb, 2, none⟩ = some _ := (S2.turns ta (by simp)).cell 2
              have s3 : World.cell? (wa) ⟨sb, 3, none⟩ = some _ := (S2.turns ta (by simp)).cell 3
              go_wp2_with fail
              go_at_call 19
              refine Calls.mono (R1h.out _) ?_
              rintro e wb ⟨rfl, tb⟩
              clear n0 n1 n2 n3 s0 s1 s2 s3
              have n0 : World.cell? (wb) ⟨w7.heap.size, 0, none⟩ = some _ := ((N2.turns ta (by simp)).turns tb (by simp)).cell 0
              have n1 : World.cell? (wb) ⟨w7.heap.size, 1, none⟩ = some _ := ((N2.turns ta (by simp)).turns tb (by simp)).cell 1
              have n2 : World.cell? (wb) ⟨w7.heap.size, 2, none⟩ = some _ := ((N2.turns ta (by simp)).turns tb (by simp)).cell 2
              have n3 : World.cell? (wb) ⟨w7.heap.size, 3, none⟩ = some _ := ((N2.turns ta (by simp)).turns tb (by simp)).cell 3
              have s0 : World.cell? (wb) ⟨(sb + 1), 0, none⟩ = some _ := ((L2.turns ta (by simp)).turns tb (by simp)).cell 0
              have s1 : World.cell? (wb) ⟨(sb + 1), 1, none⟩ = some _ := ((L2.turns ta (by simp)).turns tb (by simp)).cell 1
              have s2 : World.cell? (wb) ⟨(sb + 1), 2, none⟩ = some _ := ((L2.turns ta (by simp)).turns tb (by simp)).cell 2
              have s3 : World.cell? (wb) ⟨(sb + 1), 3, none⟩ = some _ := ((L2.turns ta (by simp)).turns tb (by simp)).cell 3
              go_wp2_with fail
              go_at_call 19
              refine Calls.mono (R2h.out _) ?_
              rintro e wc ⟨rfl, tc⟩
              have hX := hXh.out _ (((Tw.trans ta).trans tb).trans tc)
              clear n0 n1 n2 n3 s0 s1 s2 s3
              by_cases hkp : keep > 0
              · have g4 := decide_eq_true hkp
                clear hkp
                go_wp2_with fail
                exact hX
              · have g4 : decide (keep > 0) = false := decide_eq_false hkp
                have he : now = ss := hkph.out.elim (fun h => absurd h hkp) id
                subst he
                clear hkp
                have n0 : World.cell? (wc) ⟨w7.heap.size, 0, none⟩ = some _ := (((N2.turns ta (by simp)).turns tb (by simp)).turns tc (by simp)).cell 0
                have n1 : World.cell? (wc) ⟨w7.heap.size, 1, none⟩ = some _ := (((N2.turns ta (by simp)).turns tb (by simp)).turns tc (by simp)).cell 1
                have n2 : World.cell? (wc) ⟨w7.heap.size, 2, none⟩ = some _ := (((N2.turns ta (by simp)).turns tb (by simp)).turns tc (by simp)).cell 2
                have n3 : World.cell? (wc) ⟨w7.heap.size, 3, none⟩ = some _ := (((N2.turns ta (by simp)).turns tb (by simp)).turns tc (by simp)).cell 3
                have s0 : World.cell? (wc) ⟨sb, 0, none⟩ = some _ := (((S2.turns ta (by simp)).turns tb (by simp)).turns tc (by simp)).cell 0
                have s1 : World.cell? (wc) ⟨sb, 1, none⟩ = some _ := (((S2.turns ta (by simp)).turns tb (by simp)).turns tc (by simp)).cell 1
                have s2 : World.cell? (wc) ⟨sb, 2, none⟩ = some _ := (((S2.turns ta (by simp)).turns tb (by simp)).turns tc (by simp)).cell 2
                have s3 : World.cell? (wc) ⟨sb, 3, none⟩ = some _ := (((S2.turns ta (by simp)).turns tb (by simp)).turns tc (by simp)).cell 3
                go_wp2_with fail
                exact hX
theorem opened {H : Type} (enc : TypeId × Value → H) (W : World) {base : Nat} {v0 v1 v2 : Value} {d0 d1 d2 : DataW H} {p0 p1 p2 : List MemPlace} (h0 : DataW.Trod enc Try.prog W 0 (fun _ => true) true 62 v0 d0 p0)
    (h1 : DataW.Trod enc Try.prog W 0 (fun _ => true) true 3 v1 d1 p1) (h2 : DataW.Trod enc Try.prog W 0 (fun _ => true) true 3 v2 d2 p2)
    (o0 : Value.okWide Try.prog W .any base 62 v0) (o1 : Value.okWide Try.prog W .any base 3 v1) (o2 : Value.okWide Try.prog W .any base 3 v2) :
    Calls Try.prog 5 #[v0, v1, v2] W fun e w' => e = .returned (.bool true) ∧ Below W.heap.size W w' := by
  obtain ⟨A, c, rows, rfl, hc, hm, hn, hf, hk⟩ := arg_slice Try.underlying62 Vv.nestState (by kernel_rfl) h0 o0
  obtain ⟨n1, rfl, _⟩ := arg_int Try.underlying3 (by kernel_rfl) h1 o1
  obtain ⟨n2, rfl, _⟩ := arg_int Try.underlying3 (by kernel_rfl) h2 o2
  obtain ⟨l, rfl, _⟩ := rows_of (f := V4.cells) (p := fun _ => True) (fun r hr => by
    obtain ⟨v1, r1, rfl, ⟨n1, rfl, w1⟩, k1⟩ := (hk r hr).out
    obtain ⟨v2, r2, rfl, ⟨n2, rfl, w2⟩, k2⟩ := k1.out
    obtain ⟨v3, r3, rfl, ⟨n3, rfl, w3⟩, k3⟩ := k2.out
    obtain ⟨v4, r4, rfl, ⟨n4, rfl, w4⟩, k4⟩ := k3.out
    obtain rfl := k4.none
    exact ⟨⟨n1, n2, n3, n4⟩, rfl, trivial⟩)
  rw [List.length_map]
  exact (keeps_is W A c l n1 n2 hf).mono fun e w' ⟨he, t⟩ => ⟨he, t.isBelow⟩
end Go.Proofs.Ytknmjmhiejmjdaa.Vx
