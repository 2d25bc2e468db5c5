/- The document's rows. -/
import Derived.Test.YtohokckpheljbaaNe
set_option linter.unusedVariables false
set_option linter.unusedSimpArgs false
set_option maxRecDepth 100000
namespace Go.Proofs.Ytohokckpheljbaa.Ng
open Go.RowKit Go.MapKept Hm Hs Hr Hb Hf Hg Hv Hx Fa Ff Fg Fi Fj Fq Kw Kn Kr Ks Kt Na Nb Nz Nd Ne_
abbrev DR : TypeId := 94
theorem dnum_is (w : World) (b : Nat) (own : Option Nat) (s : St) (h : IsRd DR w b own s) (hm : s.bytes.length ≤ 1000000) :
    Calls Try.prog 50 #[.pointer (some ⟨b, 0, none⟩)] w fun e w' => e = .returned (.int .i64 (numP s).1) ∧ IsRd DR w' b own (numP s).2 ∧ Turns [b] w w' := Kt.dnum_is w b own s h hm
set_option maxHeartbeats 8000000 in
theorem drows_is (w : World) (b : Nat) (own : Option Nat) (s : St) (h : IsRd DR w b own s) (hm : s.bytes.length ≤ 1000000) (n : Nat) (sf : St) (hn : s.upto 16 = ((n : Int), sf)) :
    Calls Try.prog 85 #[.pointer (some ⟨b, 0, none⟩)] w fun e w' => ∃ rv X, e = .returned rv ∧ Sep (b :: own.toList) w [tOwn 86 4 rv (X.map Rw.cells), tOuts X (rowsP n sf).1, tRd DR b own (rowsP n sf).2] w' := by
  have H : Sep (b :: own.toList) w [tRd DR b own s] w := by simpa [fps, tRd] using (Got.one (T := tRd DR b own s) h).sep
  obtain ⟨Z, hZ⟩ : ∃ Z : Ending → World → Prop, Z = fun e w' => ∃ rv X, e = .returned rv ∧ Sep (b :: own.toList) w [tOwn 86 4 rv (X.map Rw.cells), tOuts X (rowsP n sf).1, tRd DR b own (rowsP n sf).2] w' := ⟨_, rfl⟩
  rw [← hZ]
  have hZh : Hid (∀ A n' c X w', Sep (b :: own.toList) w [tOwn 86 4 (.slice A n' c) (X.map Rw.cells), tOuts X (rowsP n sf).1, tRd DR b own (rowsP n sf).2] w' → Z (.returned (.slice A n' c)) w') := Lib.hid (fun A n' c X w' h1 => by rw [hZ]; exact ⟨_, X, rfl, h1⟩)
  obtain ⟨F, hF⟩ : ∃ F, b :: own.toList = F := ⟨_, rfl⟩
  rw [hF] at H hZh
  have l1 := upto_len s 16
  have b1 := upto_bd h.bd 16 (by omega)
  rw [hn] at l1 b1
  simp only at l1 b1
  have hn16 : n ≤ 16 := by omega
  have hlsf : Hid (sf.bytes.length ≤ 1000000) := Lib.hid (by omega)
  have C1 := Lib.hid (fun W (h : IsRd DR W b own s) => dupto_is 16 (by omega) W b own s h hm)
  rw [hn] at C1
  have hH0 := Lib.hid H
  clear h hZ hF H l1 b1 hn hm
  go_enter Try.func85, Try.ntmps85
  go_wp2_with fail
  go_at_call 84
  refine Calls.mono (C1.out _ (Sep_isRd hH0.out 0 rfl)) ?_
  rintro e w1 ⟨rfl, r1, t1⟩
  have hH1 := Lib.hid (((Sep_outs0 (Sep_rd hH0.out 0 rfl r1 t1))).nilSlice 86 4)
  clear C1 hH0 r1 t1
  go_wp2_with fail
  go_loopw [4, 5] (fun v4 v5 wr => ∃ (j : Nat) (X : List Rw) (A' : Option Addr) (m' c' : Nat), j ≤ n ∧ v4 = .slice A' m' c' ∧ v5 = .int .i64 j ∧ X.length = j ∧ Sep F w [tOwn 86 4 (.slice A' m' c') (X.map Rw.cells), tOuts X (rowsP j sf).1, tRd DR b own (rowsP j sf).2] wr) (fun v4 v5 _ => n - (intOf v5).toNat)
  case atStart => exact ⟨0, [], none, 0, 0, by omega, rfl, rfl, rfl, hH1.out⟩
  case round =>
    clear hH1
    obtain ⟨j, X, A', m', c', hj, rfl, rfl, hXl, H⟩ := hrel
    by_cases hlt : j < n
    · have g1 : decide ((j : Int) < (n : Int)) = true := decide_eq_true (by omega)
      have g1b : decide (j < n) = true := decide_eq_true hlt
      obtain ⟨p, hp⟩ : ∃ p, rowsP j sf = p := ⟨_, rfl⟩
      obtain ⟨s1, h1⟩ : ∃ s1, numP p.2 = s1 := ⟨_, rfl⟩
      obtain ⟨s2, h2⟩ : ∃ s2, numP s1.2 = s2 := ⟨_, rfl⟩
      obtain ⟨s3, h3⟩ : ∃ s3, numP s2.2 = s3 := ⟨_, rfl⟩
      obtain ⟨s4, h4⟩ : ∃ s4, s3.2.upto 64 = s4 := ⟨_, rfl⟩
      have k0 := rows_len j sf
      rw [hp] at H k0
      have bp := (Sep_isRd H 2 rfl).bd
      have hls' := hlsf.out
      have l1 := num_len p.2
      have l2 := num_len s1.2
      have l3 := num_len s2.2
      have l4 := upto_len s3.2 64
      have b1 := num_byt bp
      rw [h1] at l1 b1
      have b2 := num_byt b1
      rw [h2] at l2 b2
      have b3 := num_byt b2
      rw [h3] at l3 b3
      have b4 := upto_bd b3 64 (by omega)
      rw [h4] at l4 b4
      obtain ⟨u, hu⟩ : ∃ u : Nat, s4.1 = u := ⟨s4.1.toNat, by omega⟩
      have hu64 : u ≤ 64 := by omega
      have hrow : Hid (rowsP (j + 1) sf = (p.1 ++ [⟨s1.1, s2.1, s3.1, (lsP u s4.2).1⟩], (lsP u s4.2).2)) := Lib.hid (by
        have e : rowP p.2 = (⟨s1.1, s2.1, s3.1, (lsP u s4.2).1⟩, (lsP u s4.2).2) := by
          unfold rowP
          simp only [h1, h2, h3, h4]
          rw [hu, Int.toNat_natCast]
        rw [show rowsP (j + 1) sf = ((rowsP j sf).1 ++ [(rowP (rowsP j sf).2).1], (rowP (rowsP j sf).2).2) from rfl, hp, e])
      have C1 := Lib.hid (fun W (h : IsRd DR W b own p.2) => dnum_is W b own p.2 h (by omega))
      have C2 := Lib.hid (fun W (h : IsRd DR W b own s1.2) => dnum_is W b own s1.2 h (by omega))
      have C3 := Lib.hid (fun W (h : IsRd DR W b own s2.2) => dnum_is W b own s2.2 h (by omega))
      have C4 := Lib.hid (fun W (h : IsRd DR W b own s3.2) => dupto_is 64 (by omega) W b own s3.2 h (by omega))
      rw [h1] at C1
      rw [h2] at C2
      rw [h3] at C3
      rw [h4, hu] at C4
      have hl4 : Hid (s4.2.bytes.length ≤ 1000000) := Lib.hid (by omega)
      have hH := Lib.hid H
      clear hp h1 h2 h3 h4 k0 H bp hls' l1 l2 l3 l4 b1 b2 b3 b4 hu
      go_wp2_with fail
      go_at_call 50
      refine Calls.mono (C1.out _ (Sep_isRd hH.out 2 rfl)) ?_
      rintro e w2 ⟨rfl, r2, t2⟩
      have hH2 := Lib.hid ((Sep_rd hH.out 2 rfl r2 t2).alloc #[.int .i64 s1.1, .int .i64 0, .int .i64 0, .slice none 0 0] 86)
      clear C1 hH r2 t2
      go_upto_region 7 with fail
      generalize w2.alloc (.cells #[.int .i64 s1.1, .int .i64 0, .int .i64 0, .slice none 0 0] 86) = w3 at *
      generalize w2.heap.size = xb at *
      go_wp2_with fail
      go_at_call 50
      refine Calls.mono (C2.out _ (Sep_isRd hH2.out 3 rfl)) ?_
      rintro e w4 ⟨rfl, r4, t4⟩
      have H4 := Sep_rd hH2.out 3 rfl r4 t4
      have x1 : World.cell? (w4) ⟨xb, 1, none⟩ = some _ := (H4.blk 0 rfl).cell 1
      have xf1 : World.frozen? (w4) ⟨xb, 1, none⟩ = false := (H4.blk 0 rfl).frozen 1
      have hH5 := Lib.hid (H4.set 0 rfl 1 (.int .i64 s2.1))
      clear C2 hH2 r4 t4 H4
      go_upto_region 8 with fail
      generalize w4.setCell ⟨xb, 1, none⟩ (.int .i64 s2.1) = w5 at *
      clear x1 xf1
      go_wp2_with fail
      go_at_call 50
      refine Calls.mono (C3.out _ (Sep_isRd hH5.out 3 rfl)) ?_
      rintro e w6 ⟨rfl, r6, t6⟩
      have H6 := Sep_rd hH5.out 3 rfl r6 t6
      have x2 : World.cell? (w6) ⟨xb, 2, none⟩ = some _ := (H6.blk 0 rfl).cell 2
      have xf2 : World.frozen? (w6) ⟨xb, 2, none⟩ = false := (H6.blk 0 rfl).frozen 2
      have hH7 := Lib.hid (H6.set 0 rfl 2 (.int .i64 s3.1))
      clear C3 hH5 r6 t6 H6
      go_upto_region 9 with fail
      generalize w6.setCell ⟨xb, 2, none⟩ (.int .i64 s3.1) = w7 at *
      clear x2 xf2
      go_wp2_with fail
      go_at_call 84
      refine Calls.mono (C4.out _ (Sep_isRd hH7.out 3 rfl)) ?_
      rintro e w8 ⟨rfl, r8, t8⟩
      have hH8 := Lib.hid (((Sep_rd hH7.out 3 rfl r8 t8).nilSlice 83 2).keep [1, 0, 4, 2, 3])
      clear C4 hH7 r8 t8
      go_wp2_with fail
      go_loopw [8] (fun v8 wi => ∃ (i : Nat) (A : Option Addr) (q c : Nat), i ≤ u ∧ v8 = .int .i64 i ∧ Sep F w [tBlk xb #[.int .i64 s1.1, .int .i64 s2.1, .int .i64 s3.1, .slice A q c] 86, tOwn 83 2 (.slice A q c) (lss (lsP i s4.2).1), tRd DR b own (lsP i s4.2).2, tOwn 86 4 (.slice A' m' c') (X.map Rw.cells), tOuts X p.1] wi) (fun v8 _ => u - (intOf v8).toNat)
      case atStart => exact ⟨0, none, 0, 0, by omega, rfl, hH8.out⟩
      case round =>
        clear hH8
        obtain ⟨i, A, q, c, hi, rfl, H⟩ := hrel
        by_cases hil : i < u
        · have g2 : decide ((i : Int) < (u : Int)) = true := decide_eq_true (by omega)
          have g2b : decide (i < u) = true := decide_eq_true hil
          obtain ⟨p2, hp⟩ : ∃ p, lsP i s4.2 = p := ⟨_, rfl⟩
          obtain ⟨q1, hq1⟩ : ∃ q, numP p2.2 = q := ⟨_, rfl⟩
          obtain ⟨q2, hq2⟩ : ∃ q, numP q1.2 = q := ⟨_, rfl⟩
          have hnx : Hid (lsP (i + 1) s4.2 = (p2.1 ++ [(q1.1, q2.1)], q2.2)) := Lib.hid (by rw [show lsP (i + 1) s4.2 = ((lsP i s4.2).1 ++ [((numP (lsP i s4.2).2).1, (numP (numP (lsP i s4.2).2).2).1)], (numP (numP (lsP i s4.2).2).2).2) from rfl, hp, hq1, hq2])
          have k0 := ls_len i s4.2
          have k1 := num_len p2.2
          have hpl := lsP_length i s4.2
          rw [hp] at H k0 hpl
          rw [hq1] at k1
          have hl4' := hl4.out
          have D1 := Lib.hid (fun W (h : IsRd DR W b own p2.2) => dnum_is W b own p2.2 h (by omega))
          have D2 := Lib.hid (fun W (h : IsRd DR W b own q1.2) => dnum_is W b own q1.2 h (by omega))
          rw [hq1] at D1
          rw [hq2] at D2
          have hHi := Lib.hid H
          clear H hp hq1 hq2 k0 k1 hl4'
          go_wp2_with fail
          go_at_call 50
          refine Calls.mono (D1.out _ (Sep_isRd hHi.out 2 rfl)) ?_
          rintro e wa ⟨rfl, ra, ta⟩
          have hHa := Lib.hid ((Sep_rd hHi.out 2 rfl ra ta).alloc #[.int .i64 q1.1, .int .i64 0] 83)
          clear D1 hHi ra ta
          go_upto_region 14 with fail
          generalize wa.alloc (.cells #[.int .i64 q1.1, .int .i64 0] 83) = wb at *
          generalize wa.heap.size = lb at *
          go_wp2_with fail
          go_at_call 50
          refine Calls.mono (D2.out _ (Sep_isRd hHa.out 3 rfl)) ?_
          rintro e wc ⟨rfl, rc, tc⟩
          have Hc := Sep_rd hHa.out 3 rfl rc tc
          have y1 : World.cell? (wc) ⟨lb, 1, none⟩ = some _ := (Hc.blk 0 rfl).cell 1
          have yf1 : World.frozen? (wc) ⟨lb, 1, none⟩ = false := (Hc.blk 0 rfl).frozen 1
          have hHd := Lib.hid (Hc.set 0 rfl 1 (.int .i64 q2.1))
          clear D2 hHa rc tc Hc
          go_upto_region 15 with fail
          generalize wc.setCell ⟨lb, 1, none⟩ (.int .i64 q2.1) = wd at *
          clear y1 yf1
          have y0 : World.cell? (wd) ⟨lb, 0, none⟩ = some _ := (hHd.out.blk 0 rfl).cell 0
          have y1 : World.cell? (wd) ⟨lb, 1, none⟩ = some _ := (hHd.out.blk 0 rfl).cell 1
          have x3 : World.cell? (wd) ⟨xb, 3, none⟩ = some _ := (hHd.out.blk 1 rfl).cell 3
          have hHe := Lib.hid (hHd.out.turns ((Turns.refl [] wd).alloc (.cells #[.int .i64 q1.1, .int .i64 q2.1] 83)))
          have R9 : RdS 2 (wd.alloc (.cells #[.int .i64 q1.1, .int .i64 q2.1] 83)) (.slice (some ⟨wd.heap.size, 0, none⟩) 1 1) (lss [(q1.1, q2.1)]) := RdS.of_cells (rows := lss [(q1.1, q2.1)]) (Blk.new wd #[.int .i64 q1.1, .int .i64 q2.1] 83) rfl (by intro r hr; simp [lss] at hr; subst hr; rfl) 1 (by simp [lss]) (by decide)
          have R9h := Lib.hid R9
          clear hHd R9
          go_wp2_with (at_builtin; refine stop_ ?_)
          refine Mk_.mk ?_
          refine hHe.out.append 2 rfl R9h.out (i + 1) (by rw [lss_len, lss_len, hpl]; rfl) (lss (p2.1 ++ [(q1.1, q2.1)])) (lss_append _ _) rfl _ _ _ rfl (.agg #[.int .i64 0, .int .i64 0]) 16 Try.underlying84 Nd.infoLs rfl (by decide) rfl rfl (lss_one _) (by omega) (by omega) ?_
          intro A3 c3 wf Hf tf hnil
          have hHf := Lib.hid Hf
          clear R9h hHe Hf tf hnil x3 y0 y1
          have x3 : World.cell? (wf) ⟨xb, 3, none⟩ = some _ := (hHf.out.blk 1 rfl).cell 3
          have xf3 : World.frozen? (wf) ⟨xb, 3, none⟩ = false := (hHf.out.blk 1 rfl).frozen 3
          have hHg := Lib.hid ((hHf.out.set 1 rfl 3 (.slice A3 (i + 1) c3)).keep [1, 2, 3, 4, 5])
          clear hHf
          go_wp2_with fail
          go_roundw
          case rel => exact ⟨i + 1, _, _, _, by omega, by go_num, by rw [hnx.out]; exact hHg.out⟩
          case measure => simp [RowKit.intOf]; omega
        · obtain rfl : i = u := by omega
          have g2 : decide ((i : Int) < (i : Int)) = false := by simp
          have x0 : World.cell? (wr) ⟨xb, 0, none⟩ = some _ := (H.blk 0 rfl).cell 0
          have x1 : World.cell? (wr) ⟨xb, 1, none⟩ = some _ := (H.blk 0 rfl).cell 1
          have x2 : World.cell? (wr) ⟨xb, 2, none⟩ = some _ := (H.blk 0 rfl).cell 2
          have x3 : World.cell? (wr) ⟨xb, 3, none⟩ = some _ := (H.blk 0 rfl).cell 3
          have hHe := Lib.hid (H.turns ((Turns.refl [] wr).alloc (.cells #[.int .i64 s1.1, .int .i64 s2.1, .int .i64 s3.1, .slice A q c] 86)))
          have R9 : RdS 4 (wr.alloc (.cells #[.int .i64 s1.1, .int .i64 s2.1, .int .i64 s3.1, .slice A q c] 86)) (.slice (some ⟨wr.heap.size, 0, none⟩) 1 1) ([Rw.mk s1.1 s2.1 s3.1 (.slice A q c)].map Rw.cells) := RdS.of_cells (rows := [Rw.mk s1.1 s2.1 s3.1 (.slice A q c)].map Rw.cells) (Blk.new wr #[.int .i64 s1.1, .int .i64 s2.1, .int .i64 s3.1, .slice A q c] 86) rfl (by intro r hr; simp at hr; subst hr; rfl) 1 (by simp) (by decide)
          have R9h := Lib.hid R9
          clear H R9 hil hi
          go_wp2_with (at_builtin; refine stop_ ?_)
          refine Mk_.mk ?_
          refine hHe.out.append 3 rfl R9h.out (j + 1) (by simp [hXl]) ((X ++ [Rw.mk s1.1 s2.1 s3.1 (.slice A q c)]).map Rw.cells) (by rw [List.map_append]) rfl _ _ _ rfl (.agg #[.int .i64 0, .int .i64 0, .int .i64 0, .slice none 0 0]) 48 Try.underlying35 infoRow rfl (by decide) rfl rfl (by intro r hr u hu; simp at hr; subst hr; simp [Rw.cells] at hu; rcases hu with rfl | rfl | rfl | rfl <;> rfl) (by omega) (by omega) ?_
          intro A3 c3 wf Hf tf hnil
          have hHg := Lib.hid ((Sep_snoc (r := ⟨s1.1, s2.1, s3.1, (lsP i s4.2).1⟩) (Hf.keep [1, 4, 2, 3])).keep [2, 0, 1])
          clear R9h hHe Hf tf hnil x0 x1 x2 x3
          go_wp2_with fail
          go_roundw
          case rel => exact ⟨j + 1, X ++ [Rw.mk s1.1 s2.1 s3.1 (.slice A q c)], _, _, _, by omega, rfl, by go_num, by simp [hXl], by rw [hrow.out]; exact hHg.out⟩
          case measure => simp [RowKit.intOf]; omega
    · obtain rfl : j = n := by omega
      have g1 : decide ((j : Int) < (j : Int)) = false := by simp
      have hX := hZh.out _ _ _ _ _ H
      clear H hZh
      go_wp2_with fail
      exact hX
end Go.Proofs.Ytohokckpheljbaa.Ng
