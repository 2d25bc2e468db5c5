/- The document's Parse. -/
import Derived.Test.YtohokckpheljbaaNh
import Derived.Test.YtohokckpheljbaaFp
set_option linter.unusedVariables false
set_option linter.unusedSimpArgs false
set_option maxRecDepth 100000
namespace Go.Proofs.Ytohokckpheljbaa.Ni
open Go.RowKit Go.MapKept Hm Hs Hr Hb Hf Hg Hv Hx Hy Fa Ff Fg Fi Fj Fq Kw Kn Kr Ks Kt Na Nb Nz Nd Ne_ Nf Ng Nh
theorem mk_rd {F : List Nat} {w0 w : World} {r : List Th} {b : Nat} {bv : Value} {l : List Int} {T : TypeId} (H : Sep F w0 (tBlk b #[bv, .bool false] T :: tOwn 5 1 bv (bys l) :: r) w) (hb : Byt l) (ht : (5 : TypeId) ≠ T) : Sep F w0 (tRd T b bv.ownBlock ⟨l, false⟩ :: r) w := by
  have H1 : Sep F w0 ([tBlk b #[bv, .bool false] T, tOwn 5 1 bv (bys l)] ++ r) w := H
  refine H1.shut_ ?_ ?_
  · intro k hk
    have hk : k ∈ b :: bv.ownBlock.toList := hk
    simp only [fps, List.flatMap_cons, List.flatMap_nil, List.append_nil]
    exact hk
  · intro hP _
    have h1 : Blk w b #[bv, .bool false] T := hP (tBlk b #[bv, .bool false] T) (by simp)
    have h2 : OwnS 5 1 w bv (bys l) := hP (tOwn 5 1 bv (bys l)) (by simp)
    exact ⟨⟨bv, h1, h2.reads, rfl⟩, fun hk => h2.ne_blk hk h1 ht rfl, hb, fun k hk => h2.lt hk⟩
set_option maxHeartbeats 8000000 in
theorem parse_is (w : World) (v : Value) (l : List Int) (hv : RdS 1 w v (bys l)) (hl : l.length ≤ 1000000) (hb : Byt l) :
    Calls Try.prog 20 #[v] w fun e w' => ∃ sv rv, e = .returned (.tuple #[frv (decP l).2 sv rv, .int .i64 (decP l).1]) ∧ TokR w' (decP l).2.tok sv rv ∧ Turns [] w w' := by
  obtain ⟨Z, hZ⟩ : ∃ Z : Ending → World → Prop, Z = fun e w' => ∃ sv rv, e = .returned (.tuple #[frv (decP l).2 sv rv, .int .i64 (decP l).1]) ∧ TokR w' (decP l).2.tok sv rv ∧ Turns [] w w' := ⟨_, rfl⟩
  rw [← hZ]
  have hZh : Hid (∀ (q : Int) (f : Fr) sv rv w', decP l = (q, f) → TokR w' f.tok sv rv → Turns [] w w' → Z (.returned (.tuple #[.agg (frc f sv rv), .int .i64 q])) w') := Lib.hid (fun q f sv rv w' h1 h2 h3 => by rw [hZ, h1]; exact ⟨sv, rv, rfl, h2, h3⟩)
  have H0 := Lib.hid (((Sep.start w).alloc zeroF 41).newSlice ((Turns.refl [] _).alloc (.cells #[] 5)) (own_nil_lit _ 5 1) (by simp [Value.ownBlock]))
  have hv0 := Lib.hid (hv.mv (w' := (w.alloc (.cells zeroF 41)).alloc (.cells #[] 5)) (fun a u => H0.out.t.old))
  obtain ⟨A, c, rfl, _⟩ := hv.form
  rw [bys_len] at hv0 ⊢
  rw [World.size_alloc] at H0
  obtain ⟨s1, h1⟩ : ∃ s1, numP ⟨l, false⟩ = s1 := ⟨_, rfl⟩
  obtain ⟨s2, h2⟩ : ∃ s2, numP s1.2 = s2 := ⟨_, rfl⟩
  obtain ⟨s3, h3⟩ : ∃ s3, numP s2.2 = s3 := ⟨_, rfl⟩
  have l1 := num_len ⟨l, false⟩
  have l2 := num_len s1.2
  have l3 := num_len s2.2
  have b1 := num_byt (s := ⟨l, false⟩) hb
  rw [h1] at l1 b1
  have b2 := num_byt b1
  rw [h2] at l2 b2
  have b3 := num_byt b2
  rw [h3] at l3 b3
  simp only at l1
  have hfr : Hid (frP ⟨l, false⟩ = if s1.1 = 0 then (⟨s1.1, s2.1, s3.1, 0, 0, 0, (tokP s3.2).1⟩, (tokP s3.2).2)
    else if s1.1 = 1 then (⟨s1.1, s2.1, s3.1, (numP s3.2).1, (numP (numP s3.2).2).1, 0, Tok.zero⟩, (numP (numP s3.2).2).2)
    else if s1.1 = 2 then (⟨s1.1, s2.1, s3.1, (numP s3.2).1, 0, (numP s3.2).2.bits.1, Tok.zero⟩, (numP s3.2).2.bits.2)
    else (⟨s1.1, s2.1, s3.1, 0, 0, 0, Tok.zero⟩, s3.2)) := Lib.hid (by unfold frP; simp only [h1, h2, h3])
  have C1 := Lib.hid (fun W b own (h : IsRd DR W b own ⟨l, false⟩) => Ng.dnum_is W b own ⟨l, false⟩ h hl)
  have C2 := Lib.hid (fun W b own (h : IsRd DR W b own s1.2) => Ng.dnum_is W b own s1.2 h (by omega))
  have C3 := Lib.hid (fun W b own (h : IsRd DR W b own s2.2) => Ng.dnum_is W b own s2.2 h (by omega))
  have hl3 : s3.2.bytes.length ≤ 1000000 := by omega
  rw [h1] at C1
  rw [h2] at C2
  rw [h3] at C3
  have b3h := Lib.hid b3
  have hl3h := Lib.hid hl3
  have hbh := Lib.hid hb
  have hl0 := Lib.hid hl
  clear hZ hv hl hb h1 h2 h3 l1 l2 l3 b1 b2 b3 hl3
  go_enter Try.func20, Try.ntmps20
  go_wp2_with (at_builtin; refine stop_ ?_)
  refine Mk_.mk ?_
  refine H0.out.append 0 rfl hv0.out l.length (by simp) (bys l) (by simp) rfl _ _ _ rfl (.int .u8 0) 1 Try.underlying55 info5 rfl (by decide) rfl rfl (bys_one _) (by have := hl0.out; omega) (by have := hl0.out; omega) ?_
  intro A1 c1 w1 H1 t1 hnil
  have H1h := Lib.hid (mk_rd (H1.alloc #[.slice A1 l.length c1, .bool false] DR) hbh.out (by decide))
  clear H0 hv0 H1 t1 hnil
  obtain ⟨own, hown⟩ : ∃ o, (Value.slice A1 l.length c1).ownBlock = o := ⟨_, rfl⟩
  rw [hown] at H1h
  clear hown
  go_upto_region 2 with fail
  have H1 := H1h
  clear H1h
  generalize w1.alloc (.cells #[.slice A1 l.length c1, .bool false] DR) = wq at *
  generalize w1.heap.size = b at *
  go_wp2_with fail
  go_at_call 50
  refine Calls.mono (C1.out _ b own (Sep_isRd H1.out 0 rfl)) ?_
  rintro e w2 ⟨rfl, r2, t2⟩
  have H2 := Lib.hid ((Sep_rd H1.out 0 rfl r2 t2).alloc #[.int .i64 s1.1, .int .i64 0, .int .i64 0, .int .i64 0, .int .i64 0, .int .u64 0, .int .i64 0, .int .i64 0, .slice none 0 0, .int .i64 0, .slice none 0 0] 41)
  clear C1 H1 r2 t2
  go_upto_region 3 with fail
  generalize w2.alloc (.cells #[.int .i64 s1.1, .int .i64 0, .int .i64 0, .int .i64 0, .int .i64 0, .int .u64 0, .int .i64 0, .int .i64 0, .slice none 0 0, .int .i64 0, .slice none 0 0] 41) = wr at *
  generalize w2.heap.size = fb at *
  generalize w.heap.size = rb at *
  go_wp2_with fail
  go_at_call 50
  refine Calls.mono (C2.out _ b own (Sep_isRd H2.out 1 rfl)) ?_
  rintro e w3 ⟨rfl, r3, t3⟩
  have H3' := Sep_rd H2.out 1 rfl r3 t3
  have y1 : World.cell? (w3) ⟨fb, 1, none⟩ = some _ := (H3'.blk 0 rfl).cell 1
  have yf1 : World.frozen? (w3) ⟨fb, 1, none⟩ = false := (H3'.blk 0 rfl).frozen 1
  have H3 := Lib.hid (H3'.set 0 rfl 1 (.int .i64 s2.1))
  clear C2 H2 r3 t3 H3'
  go_upto_region 4 with fail
  generalize w3.setCell ⟨fb, 1, none⟩ (.int .i64 s2.1) = ws at *
  clear y1 yf1
  go_wp2_with fail
  go_at_call 50
  refine Calls.mono (C3.out _ b own (Sep_isRd H3.out 1 rfl)) ?_
  rintro e w4 ⟨rfl, r4, t4⟩
  have H4 := Sep_rd H3.out 1 rfl r4 t4
  have y2 : World.cell? (w4) ⟨fb, 2, none⟩ = some _ := (H4.blk 0 rfl).cell 2
  have yf2 : World.frozen? (w4) ⟨fb, 2, none⟩ = false := (H4.blk 0 rfl).frozen 2
  have H5' : Sep [] w [tBlk fb #[.int .i64 s1.1, .int .i64 s2.1, .int .i64 s3.1, .int .i64 0, .int .i64 0, .int .u64 0, .int .i64 0, .int .i64 0, .slice none 0 0, .int .i64 0, .slice none 0 0] 41, tRd DR b own s3.2, tBlk rb zeroF 41] _ := H4.set 0 rfl 2 (.int .i64 s3.1)
  have H5 := Lib.hid H5'
  clear C3 H3 r4 t4 H4 H5'
  go_upto_region 5 with fail
  generalize w4.setCell ⟨fb, 2, none⟩ (.int .i64 s3.1) = w5 at *
  clear y2 yf2
  have k0 : World.cell? (w5) ⟨fb, 0, none⟩ = some _ := (H5.out.blk 0 rfl).cell 0
  by_cases e0 : s1.1 = 0
  · have g0 : (s1.1 == 0) = true := by simpa using e0
    have hdec : Hid (frP ⟨l, false⟩ = ((⟨s1.1, s2.1, s3.1, 0, 0, 0, (tokP s3.2).1⟩ : Fr), (tokP s3.2).2)) := Lib.hid (by rw [hfr.out, if_pos e0])
    have hstl : Hid ((⟨s1.1, s2.1, s3.1, 0, 0, 0, (tokP s3.2).1⟩ : Fr).tok.st.length ≤ 100000) := Lib.hid (by have := tokP_st b3h.out; simp only; omega)
    have Tk := Lib.hid (dtoken_is w5 b own s3.2 (Sep_isRd H5.out 1 rfl) hl3h.out)
    generalize (tokP s3.2).1 = tk at *
    generalize (tokP s3.2).2 = sf at *
    unfold tkv at Tk
    clear e0 hfr
    go_wp2_with fail
    go_at_call 51
    refine Calls.mono (Tk.out) ?_
    rintro e w6 ⟨sv, rv, X, rfl, h6⟩
    have H6 := H5.out.call1 1 rfl h6
    obtain ⟨n7, A7, c7, hsv⟩ : ∃ n A c, sv = Value.slice A n c := by obtain ⟨A, c, h, _⟩ := (H6.own 0 rfl).form; exact ⟨_, A, c, h⟩
    obtain ⟨n8, A8, c8, hrv⟩ : ∃ n A c, rv = Value.slice A n c := by obtain ⟨A, c, h, _⟩ := (H6.own 1 rfl).form; exact ⟨_, A, c, h⟩
    subst hsv hrv
    have y6 : World.cell? (w6) ⟨fb, 6, none⟩ = some _ := (H6.blk 4 rfl).cell 6
    have yf6 : World.frozen? (w6) ⟨fb, 6, none⟩ = false := (H6.blk 4 rfl).frozen 6
    have y7 : World.cell? (w6) ⟨fb, 7, none⟩ = some _ := (H6.blk 4 rfl).cell 7
    have yf7 : World.frozen? (w6) ⟨fb, 7, none⟩ = false := (H6.blk 4 rfl).frozen 7
    have y8 : World.cell? (w6) ⟨fb, 8, none⟩ = some _ := (H6.blk 4 rfl).cell 8
    have yf8 : World.frozen? (w6) ⟨fb, 8, none⟩ = false := (H6.blk 4 rfl).frozen 8
    have y9 : World.cell? (w6) ⟨fb, 9, none⟩ = some _ := (H6.blk 4 rfl).cell 9
    have yf9 : World.frozen? (w6) ⟨fb, 9, none⟩ = false := (H6.blk 4 rfl).frozen 9
    have y10 : World.cell? (w6) ⟨fb, 10, none⟩ = some _ := (H6.blk 4 rfl).cell 10
    have yf10 : World.frozen? (w6) ⟨fb, 10, none⟩ = false := (H6.blk 4 rfl).frozen 10
    have H := Lib.hid (((((H6.set 4 rfl 6 (.int .i64 tk.gen)).set 4 rfl 7 (.int .i64 tk.hop)).set 4 rfl 8 (.slice A7 n7 c7)).set 4 rfl 9 (.int .i64 tk.start)).set 4 rfl 10 (.slice A8 n8 c8))
    clear k0 Tk h6 H6 H5
    go_upto_region 14 with fail
    generalize ((((w6.setCell ⟨fb, 6, none⟩ (.int .i64 tk.gen)).setCell ⟨fb, 7, none⟩ (.int .i64 tk.hop)).setCell ⟨fb, 8, none⟩ (.slice A7 n7 c7)).setCell ⟨fb, 9, none⟩ (.int .i64 tk.start)).setCell ⟨fb, 10, none⟩ (.slice A8 n8 c8) = w7 at *
    clear y6 y7 y8 y9 y10 yf6 yf7 yf8 yf9 yf10
    have H : Hid (Sep [] w (tokT tk (.slice A7 n7 c7) (.slice A8 n8 c8) X ++ [tRd DR b own sf, tBlk fb #[.int .i64 s1.1, .int .i64 s2.1, .int .i64 s3.1, .int .i64 0, .int .i64 0, .int .u64 0, .int .i64 tk.gen, .int .i64 tk.hop, .slice A7 n7 c7, .int .i64 tk.start, .slice A8 n8 c8] 41, tBlk rb zeroF 41]) w7) := H
    have R := Fp.rright_is _ ((⟨s1.1, s2.1, s3.1, 0, 0, 0, tk⟩ : Fr)) _ _ (tokR_of H.out)
    unfold frv at R
    simp only at R
    have Rh := Lib.hid R
    clear R
    have x0 : World.cell? (w7) ⟨fb, 0, none⟩ = some _ := (H.out.blk 4 rfl).cell 0
    have x1 : World.cell? (w7) ⟨fb, 1, none⟩ = some _ := (H.out.blk 4 rfl).cell 1
    have x2 : World.cell? (w7) ⟨fb, 2, none⟩ = some _ := (H.out.blk 4 rfl).cell 2
    have x3 : World.cell? (w7) ⟨fb, 3, none⟩ = some _ := (H.out.blk 4 rfl).cell 3
    have x4 : World.cell? (w7) ⟨fb, 4, none⟩ = some _ := (H.out.blk 4 rfl).cell 4
    have x5 : World.cell? (w7) ⟨fb, 5, none⟩ = some _ := (H.out.blk 4 rfl).cell 5
    have x6 : World.cell? (w7) ⟨fb, 6, none⟩ = some _ := (H.out.blk 4 rfl).cell 6
    have x7 : World.cell? (w7) ⟨fb, 7, none⟩ = some _ := (H.out.blk 4 rfl).cell 7
    have x8 : World.cell? (w7) ⟨fb, 8, none⟩ = some _ := (H.out.blk 4 rfl).cell 8
    have x9 : World.cell? (w7) ⟨fb, 9, none⟩ = some _ := (H.out.blk 4 rfl).cell 9
    have x10 : World.cell? (w7) ⟨fb, 10, none⟩ = some _ := (H.out.blk 4 rfl).cell 10
    go_wp2_with fail
    go_at_call 22
    refine Calls.mono (Rh.out) ?_
    rintro e wd ⟨rfl, td⟩
    have Hd := Lib.hid (H.out.turns td)
    clear x0 x1 x2 x3 x4 x5 x6 x7 x8 x9 x10 Rh H td
    have Dn := Lib.hid (Kt.ddone_is _ b own (sf) (Sep_isRd Hd.out 3 rfl))
    obtain ⟨dn, hdn⟩ : ∃ d, St.done (sf) = d := ⟨_, rfl⟩
    rw [hdn] at Dn
    by_cases hd0 : dn = 0
    · subst hd0
      cases hr : rightB ((⟨s1.1, s2.1, s3.1, 0, 0, 0, tk⟩ : Fr)) with
      | false =>
        have hdz : decP l = (2, zeroFr) := by rw [dec_eq hdec.out, if_pos (.inr hr)]
        clear hr hdn
        go_wp2_with fail
        go_at_call 53
        refine Calls.mono (Dn.out) ?_
        rintro e we ⟨rfl, te⟩
        have He := Lib.hid (Hd.out.turns te)
        clear Dn Hd te
        have z0 : World.cell? (we) ⟨rb, 0, none⟩ = some _ := (He.out.blk 5 rfl).cell 0
        have zf0 : World.frozen? (we) ⟨rb, 0, none⟩ = false := (He.out.blk 5 rfl).frozen 0
        have z1 : World.cell? (we) ⟨rb, 1, none⟩ = some _ := (He.out.blk 5 rfl).cell 1
        have zf1 : World.frozen? (we) ⟨rb, 1, none⟩ = false := (He.out.blk 5 rfl).frozen 1
        have z2 : World.cell? (we) ⟨rb, 2, none⟩ = some _ := (He.out.blk 5 rfl).cell 2
        have zf2 : World.frozen? (we) ⟨rb, 2, none⟩ = false := (He.out.blk 5 rfl).frozen 2
        have z3 : World.cell? (we) ⟨rb, 3, none⟩ = some _ := (He.out.blk 5 rfl).cell 3
        have zf3 : World.frozen? (we) ⟨rb, 3, none⟩ = false := (He.out.blk 5 rfl).frozen 3
        have z4 : World.cell? (we) ⟨rb, 4, none⟩ = some _ := (He.out.blk 5 rfl).cell 4
        have zf4 : World.frozen? (we) ⟨rb, 4, none⟩ = false := (He.out.blk 5 rfl).frozen 4
        have z5 : World.cell? (we) ⟨rb, 5, none⟩ = some _ := (He.out.blk 5 rfl).cell 5
        have zf5 : World.frozen? (we) ⟨rb, 5, none⟩ = false := (He.out.blk 5 rfl).frozen 5
        have z6 : World.cell? (we) ⟨rb, 6, none⟩ = some _ := (He.out.blk 5 rfl).cell 6
        have zf6 : World.frozen? (we) ⟨rb, 6, none⟩ = false := (He.out.blk 5 rfl).frozen 6
        have z7 : World.cell? (we) ⟨rb, 7, none⟩ = some _ := (He.out.blk 5 rfl).cell 7
        have zf7 : World.frozen? (we) ⟨rb, 7, none⟩ = false := (He.out.blk 5 rfl).frozen 7
        have z8 : World.cell? (we) ⟨rb, 8, none⟩ = some _ := (He.out.blk 5 rfl).cell 8
        have zf8 : World.frozen? (we) ⟨rb, 8, none⟩ = false := (He.out.blk 5 rfl).frozen 8
        have z9 : World.cell? (we) ⟨rb, 9, none⟩ = some _ := (He.out.blk 5 rfl).cell 9
        have zf9 : World.frozen? (we) ⟨rb, 9, none⟩ = false := (He.out.blk 5 rfl).frozen 9
        have z10 : World.cell? (we) ⟨rb, 10, none⟩ = some _ := (He.out.blk 5 rfl).cell 10
        have zf10 : World.frozen? (we) ⟨rb, 10, none⟩ = false := (He.out.blk 5 rfl).frozen 10
        have H6 := Hp.Sep.fill He.out 5 rfl [.int .i64 0, .int .i64 0, .int .i64 0, .int .i64 0, .int .i64 0, .int .u64 0, .int .i64 0, .int .i64 0, .slice none 0 0, .int .i64 0, .slice none 0 0] rfl
        have hR := H6.blk 5 rfl
        have hX := hZh.out 2 zeroFr (.slice none 0 0) (.slice none 0 0) _ hdz ⟨RdS.nil 1 _, RT.nil _⟩ H6.t
        clear H6 hZh hdz He
        go_wp2_with fail
        refine bodyPost_ret (res_list (rs := [.cell 2 41, .tmp 3]) rfl (by simp) (.cell rb _ _ _ rfl hR Try.underlying41 rfl (by kernel_rfl) (.tmp .nil))) rfl ?_
        exact hX
      | true =>
        have hdf : decP l = (0, (⟨s1.1, s2.1, s3.1, 0, 0, 0, tk⟩ : Fr)) := by rw [dec_eq hdec.out, if_neg (by rw [hdn, hr]; simp)]
        clear hr hdn
        go_wp2_with fail
        go_at_call 53
        refine Calls.mono (Dn.out) ?_
        rintro e we ⟨rfl, te⟩
        have He := Lib.hid (Hd.out.turns te)
        clear Dn Hd te
        have x0 : World.cell? (we) ⟨fb, 0, none⟩ = some _ := (He.out.blk 4 rfl).cell 0
        have x1 : World.cell? (we) ⟨fb, 1, none⟩ = some _ := (He.out.blk 4 rfl).cell 1
        have x2 : World.cell? (we) ⟨fb, 2, none⟩ = some _ := (He.out.blk 4 rfl).cell 2
        have x3 : World.cell? (we) ⟨fb, 3, none⟩ = some _ := (He.out.blk 4 rfl).cell 3
        have x4 : World.cell? (we) ⟨fb, 4, none⟩ = some _ := (He.out.blk 4 rfl).cell 4
        have x5 : World.cell? (we) ⟨fb, 5, none⟩ = some _ := (He.out.blk 4 rfl).cell 5
        have x6 : World.cell? (we) ⟨fb, 6, none⟩ = some _ := (He.out.blk 4 rfl).cell 6
        have x7 : World.cell? (we) ⟨fb, 7, none⟩ = some _ := (He.out.blk 4 rfl).cell 7
        have x8 : World.cell? (we) ⟨fb, 8, none⟩ = some _ := (He.out.blk 4 rfl).cell 8
        have x9 : World.cell? (we) ⟨fb, 9, none⟩ = some _ := (He.out.blk 4 rfl).cell 9
        have x10 : World.cell? (we) ⟨fb, 10, none⟩ = some _ := (He.out.blk 4 rfl).cell 10
        have z0 : World.cell? (we) ⟨rb, 0, none⟩ = some _ := (He.out.blk 5 rfl).cell 0
        have zf0 : World.frozen? (we) ⟨rb, 0, none⟩ = false := (He.out.blk 5 rfl).frozen 0
        have z1 : World.cell? (we) ⟨rb, 1, none⟩ = some _ := (He.out.blk 5 rfl).cell 1
        have zf1 : World.frozen? (we) ⟨rb, 1, none⟩ = false := (He.out.blk 5 rfl).frozen 1
        have z2 : World.cell? (we) ⟨rb, 2, none⟩ = some _ := (He.out.blk 5 rfl).cell 2
        have zf2 : World.frozen? (we) ⟨rb, 2, none⟩ = false := (He.out.blk 5 rfl).frozen 2
        have z3 : World.cell? (we) ⟨rb, 3, none⟩ = some _ := (He.out.blk 5 rfl).cell 3
        have zf3 : World.frozen? (we) ⟨rb, 3, none⟩ = false := (He.out.blk 5 rfl).frozen 3
        have z4 : World.cell? (we) ⟨rb, 4, none⟩ = some _ := (He.out.blk 5 rfl).cell 4
        have zf4 : World.frozen? (we) ⟨rb, 4, none⟩ = false := (He.out.blk 5 rfl).frozen 4
        have z5 : World.cell? (we) ⟨rb, 5, none⟩ = some _ := (He.out.blk 5 rfl).cell 5
        have zf5 : World.frozen? (we) ⟨rb, 5, none⟩ = false := (He.out.blk 5 rfl).frozen 5
        have z6 : World.cell? (we) ⟨rb, 6, none⟩ = some _ := (He.out.blk 5 rfl).cell 6
        have zf6 : World.frozen? (we) ⟨rb, 6, none⟩ = false := (He.out.blk 5 rfl).frozen 6
        have z7 : World.cell? (we) ⟨rb, 7, none⟩ = some _ := (He.out.blk 5 rfl).cell 7
        have zf7 : World.frozen? (we) ⟨rb, 7, none⟩ = false := (He.out.blk 5 rfl).frozen 7
        have z8 : World.cell? (we) ⟨rb, 8, none⟩ = some _ := (He.out.blk 5 rfl).cell 8
        have zf8 : World.frozen? (we) ⟨rb, 8, none⟩ = false := (He.out.blk 5 rfl).frozen 8
        have z9 : World.cell? (we) ⟨rb, 9, none⟩ = some _ := (He.out.blk 5 rfl).cell 9
        have zf9 : World.frozen? (we) ⟨rb, 9, none⟩ = false := (He.out.blk 5 rfl).frozen 9
        have z10 : World.cell? (we) ⟨rb, 10, none⟩ = some _ := (He.out.blk 5 rfl).cell 10
        have zf10 : World.frozen? (we) ⟨rb, 10, none⟩ = false := (He.out.blk 5 rfl).frozen 10
        have H6 := Hp.Sep.fill He.out 5 rfl [.int .i64 s1.1, .int .i64 s2.1, .int .i64 s3.1, .int .i64 0, .int .i64 0, .int .u64 0, .int .i64 tk.gen, .int .i64 tk.hop, .slice A7 n7 c7, .int .i64 tk.start, .slice A8 n8 c8] rfl
        have hR := H6.blk 5 rfl
        have hX := hZh.out 0 _ _ _ _ hdf (tokR_of H6) H6.t
        clear H6 hZh hdf He
        go_wp2_with fail
        refine bodyPost_ret (res_list (rs := [.cell 2 41, .tmp 3]) rfl (by simp) (.cell rb _ _ _ rfl hR Try.underlying41 rfl (by kernel_rfl) (.tmp .nil))) rfl ?_
        exact hX
    · have g5 : (dn != 0) = true := by simpa using hd0
      have hdz : decP l = (2, zeroFr) := by rw [dec_eq hdec.out, if_pos (.inl (by rw [hdn]; exact hd0))]
      clear hdn hd0
      go_wp2_with fail
      go_at_call 53
      refine Calls.mono (Dn.out) ?_
      rintro e we ⟨rfl, te⟩
      have He := Lib.hid (Hd.out.turns te)
      clear Dn Hd te
      have z0 : World.cell? (we) ⟨rb, 0, none⟩ = some _ := (He.out.blk 5 rfl).cell 0
      have zf0 : World.frozen? (we) ⟨rb, 0, none⟩ = false := (He.out.blk 5 rfl).frozen 0
      have z1 : World.cell? (we) ⟨rb, 1, none⟩ = some _ := (He.out.blk 5 rfl).cell 1
      have zf1 : World.frozen? (we) ⟨rb, 1, none⟩ = false := (He.out.blk 5 rfl).frozen 1
      have z2 : World.cell? (we) ⟨rb, 2, none⟩ = some _ := (He.out.blk 5 rfl).cell 2
      have zf2 : World.frozen? (we) ⟨rb, 2, none⟩ = false := (He.out.blk 5 rfl).frozen 2
      have z3 : World.cell? (we) ⟨rb, 3, none⟩ = some _ := (He.out.blk 5 rfl).cell 3
      have zf3 : World.frozen? (we) ⟨rb, 3, none⟩ = false := (He.out.blk 5 rfl).frozen 3
      have z4 : World.cell? (we) ⟨rb, 4, none⟩ = some _ := (He.out.blk 5 rfl).cell 4
      have zf4 : World.frozen? (we) ⟨rb, 4, none⟩ = false := (He.out.blk 5 rfl).frozen 4
      have z5 : World.cell? (we) ⟨rb, 5, none⟩ = some _ := (He.out.blk 5 rfl).cell 5
      have zf5 : World.frozen? (we) ⟨rb, 5, none⟩ = false := (He.out.blk 5 rfl).frozen 5
      have z6 : World.cell? (we) ⟨rb, 6, none⟩ = some _ := (He.out.blk 5 rfl).cell 6
      have zf6 : World.frozen? (we) ⟨rb, 6, none⟩ = false := (He.out.blk 5 rfl).frozen 6
      have z7 : World.cell? (we) ⟨rb, 7, none⟩ = some _ := (He.out.blk 5 rfl).cell 7
      have zf7 : World.frozen? (we) ⟨rb, 7, none⟩ = false := (He.out.blk 5 rfl).frozen 7
      have z8 : World.cell? (we) ⟨rb, 8, none⟩ = some _ := (He.out.blk 5 rfl).cell 8
      have zf8 : World.frozen? (we) ⟨rb, 8, none⟩ = false := (He.out.blk 5 rfl).frozen 8
      have z9 : World.cell? (we) ⟨rb, 9, none⟩ = some _ := (He.out.blk 5 rfl).cell 9
      have zf9 : World.frozen? (we) ⟨rb, 9, none⟩ = false := (He.out.blk 5 rfl).frozen 9
      have z10 : World.cell? (we) ⟨rb, 10, none⟩ = some _ := (He.out.blk 5 rfl).cell 10
      have zf10 : World.frozen? (we) ⟨rb, 10, none⟩ = false := (He.out.blk 5 rfl).frozen 10
      have H6 := Hp.Sep.fill He.out 5 rfl [.int .i64 0, .int .i64 0, .int .i64 0, .int .i64 0, .int .i64 0, .int .u64 0, .int .i64 0, .int .i64 0, .slice none 0 0, .int .i64 0, .slice none 0 0] rfl
      have hR := H6.blk 5 rfl
      have hX := hZh.out 2 zeroFr (.slice none 0 0) (.slice none 0 0) _ hdz ⟨RdS.nil 1 _, RT.nil _⟩ H6.t
      clear H6 hZh hdz He
      go_wp2_with fail
      refine bodyPost_ret (res_list (rs := [.cell 2 41, .tmp 3]) rfl (by simp) (.cell rb _ _ _ rfl hR Try.underlying41 rfl (by kernel_rfl) (.tmp .nil))) rfl ?_
      exact hX
  · have g0 : (s1.1 == 0) = false := by simpa using e0
    have hstz : ∀ f : Fr, f.tok = Tok.zero → f.tok.st.length ≤ 100000 := fun f hf => by rw [hf]; simp [Tok.zero]
    by_cases e1 : s1.1 = 1
    · have g1 : (s1.1 == 1) = true := by simpa using e1
      obtain ⟨a1, ha1⟩ : ∃ a, numP s3.2 = a := ⟨_, rfl⟩
      obtain ⟨a2, ha2⟩ : ∃ a, numP a1.2 = a := ⟨_, rfl⟩
      have hdec : Hid (frP ⟨l, false⟩ = ((⟨s1.1, s2.1, s3.1, a1.1, a2.1, 0, Tok.zero⟩ : Fr), a2.2)) := Lib.hid (by rw [hfr.out, if_neg e0, if_pos e1, ha1, ha2])
      have hstl := Lib.hid (hstz ⟨s1.1, s2.1, s3.1, a1.1, a2.1, 0, Tok.zero⟩ rfl)
      have k1 := num_len s3.2
      have hl3' := hl3h.out
      rw [ha1] at k1
      have D1 := Lib.hid (Ng.dnum_is w5 b own s3.2 (Sep_isRd H5.out 1 rfl) hl3h.out)
      have D2 := Lib.hid (fun W (h : IsRd DR W b own a1.2) => Ng.dnum_is W b own a1.2 h (by omega))
      rw [ha1] at D1
      rw [ha2] at D2
      clear e0 e1 hfr ha1 ha2 k1 hl3' hstz
      go_wp2_with fail
      go_at_call 50
      refine Calls.mono (D1.out) ?_
      rintro e w6 ⟨rfl, r6, t6⟩
      have H6' := Sep_rd H5.out 1 rfl r6 t6
      have y3 : World.cell? (w6) ⟨fb, 3, none⟩ = some _ := (H6'.blk 0 rfl).cell 3
      have yf3 : World.frozen? (w6) ⟨fb, 3, none⟩ = false := (H6'.blk 0 rfl).frozen 3
      have H6 := Lib.hid (H6'.set 0 rfl 3 (.int .i64 a1.1))
      clear D1 H5 r6 t6 k0 H6'
      go_upto_region 10 with fail
      generalize w6.setCell ⟨fb, 3, none⟩ (.int .i64 a1.1) = wt at *
      clear y3 yf3
      go_wp2_with fail
      go_at_call 50
      refine Calls.mono (D2.out _ (Sep_isRd H6.out 1 rfl)) ?_
      rintro e w7 ⟨rfl, r7, t7⟩
      have H7 := Sep_rd H6.out 1 rfl r7 t7
      have y4 : World.cell? (w7) ⟨fb, 4, none⟩ = some _ := (H7.blk 0 rfl).cell 4
      have yf4 : World.frozen? (w7) ⟨fb, 4, none⟩ = false := (H7.blk 0 rfl).frozen 4
      have H8 := (Sep_tok0 (H7.set 0 rfl 4 (.int .i64 a2.1))).keep [0, 1, 2, 4, 3, 5]
      have H : Hid (Sep [] w (tokT Tok.zero (.slice none 0 0) (.slice none 0 0) [] ++ [tRd DR b own a2.2, tBlk fb #[.int .i64 s1.1, .int .i64 s2.1, .int .i64 s3.1, .int .i64 a1.1, .int .i64 a2.1, .int .u64 0, .int .i64 0, .int .i64 0, .slice none 0 0, .int .i64 0, .slice none 0 0] 41, tBlk rb zeroF 41]) _) := Lib.hid H8
      clear D2 H6 r7 t7 H7 H8
      go_upto_region 14 with fail
      generalize w7.setCell ⟨fb, 4, none⟩ (.int .i64 a2.1) = w8 at *
      clear y4 yf4
      have R := Fp.rright_is _ ((⟨s1.1, s2.1, s3.1, a1.1, a2.1, 0, Tok.zero⟩ : Fr)) _ _ (tokR_of H.out)
      unfold frv at R
      simp only at R
      have Rh := Lib.hid R
      clear R
      have x0 : World.cell? (w8) ⟨fb, 0, none⟩ = some _ := (H.out.blk 4 rfl).cell 0
      have x1 : World.cell? (w8) ⟨fb, 1, none⟩ = some _ := (H.out.blk 4 rfl).cell 1
      have x2 : World.cell? (w8) ⟨fb, 2, none⟩ = some _ := (H.out.blk 4 rfl).cell 2
      have x3 : World.cell? (w8) ⟨fb, 3, none⟩ = some _ := (H.out.blk 4 rfl).cell 3
      have x4 : World.cell? (w8) ⟨fb, 4, none⟩ = some _ := (H.out.blk 4 rfl).cell 4
      have x5 : World.cell? (w8) ⟨fb, 5, none⟩ = some _ := (H.out.blk 4 rfl).cell 5
      have x6 : World.cell? (w8) ⟨fb, 6, none⟩ = some _ := (H.out.blk 4 rfl).cell 6
      have x7 : World.cell? (w8) ⟨fb, 7, none⟩ = some _ := (H.out.blk 4 rfl).cell 7
      have x8 : World.cell? (w8) ⟨fb, 8, none⟩ = some _ := (H.out.blk 4 rfl).cell 8
      have x9 : World.cell? (w8) ⟨fb, 9, none⟩ = some _ := (H.out.blk 4 rfl).cell 9
      have x10 : World.cell? (w8) ⟨fb, 10, none⟩ = some _ := (H.out.blk 4 rfl).cell 10
      go_wp2_with fail
      go_at_call 22
      refine Calls.mono (Rh.out) ?_
      rintro e wd ⟨rfl, td⟩
      have Hd := Lib.hid (H.out.turns td)
      clear x0 x1 x2 x3 x4 x5 x6 x7 x8 x9 x10 Rh H td
      have Dn := Lib.hid (Kt.ddone_is _ b own (a2.2) (Sep_isRd Hd.out 3 rfl))
      obtain ⟨dn, hdn⟩ : ∃ d, St.done (a2.2) = d := ⟨_, rfl⟩
      rw [hdn] at Dn
      by_cases hd0 : dn = 0
      · subst hd0
        cases hr : rightB ((⟨s1.1, s2.1, s3.1, a1.1, a2.1, 0, Tok.zero⟩ : Fr)) with
        | false =>
          have hdz : decP l = (2, zeroFr) := by rw [dec_eq hdec.out, if_pos (.inr hr)]
          clear hr hdn
          go_wp2_with fail
          go_at_call 53
          refine Calls.mono (Dn.out) ?_
          rintro e we ⟨rfl, te⟩
          have He := Lib.hid (Hd.out.turns te)
          clear Dn Hd te
          have z0 : World.cell? (we) ⟨rb, 0, none⟩ = some _ := (He.out.blk 5 rfl).cell 0
          have zf0 : World.frozen? (we) ⟨rb, 0, none⟩ = false := (He.out.blk 5 rfl).frozen 0
          have z1 : World.cell? (we) ⟨rb, 1, none⟩ = some _ := (He.out.blk 5 rfl).cell 1
          have zf1 : World.frozen? (we) ⟨rb, 1, none⟩ = false := (He.out.blk 5 rfl).frozen 1
          have z2 : World.cell? (we) ⟨rb, 2, none⟩ = some _ := (He.out.blk 5 rfl).cell 2
          have zf2 : World.frozen? (we) ⟨rb, 2, none⟩ = false := (He.out.blk 5 rfl).frozen 2
          have z3 : World.cell? (we) ⟨rb, 3, none⟩ = some _ := (He.out.blk 5 rfl).cell 3
          have zf3 : World.frozen? (we) ⟨rb, 3, none⟩ = false := (He.out.blk 5 rfl).frozen 3
          have z4 : World.cell? (we) ⟨rb, 4, none⟩ = some _ := (He.out.blk 5 rfl).cell 4
          have zf4 : World.frozen? (we) ⟨rb, 4, none⟩ = false := (He.out.blk 5 rfl).frozen 4
          have z5 : World.cell? (we) ⟨rb, 5, none⟩ = some _ := (He.out.blk 5 rfl).cell 5
          have zf5 : World.frozen? (we) ⟨rb, 5, none⟩ = false := (He.out.blk 5 rfl).frozen 5
          have z6 : World.cell? (we) ⟨rb, 6, none⟩ = some _ := (He.out.blk 5 rfl).cell 6
          have zf6 : World.frozen? (we) ⟨rb, 6, none⟩ = false := (He.out.blk 5 rfl).frozen 6
          have z7 : World.cell? (we) ⟨rb, 7, none⟩ = some _ := (He.out.blk 5 rfl).cell 7
          have zf7 : World.frozen? (we) ⟨rb, 7, none⟩ = false := (He.out.blk 5 rfl).frozen 7
          have z8 : World.cell? (we) ⟨rb, 8, none⟩ = some _ := (He.out.blk 5 rfl).cell 8
          have zf8 : World.frozen? (we) ⟨rb, 8, none⟩ = false := (He.out.blk 5 rfl).frozen 8
          have z9 : World.cell? (we) ⟨rb, 9, none⟩ = some _ := (He.out.blk 5 rfl).cell 9
          have zf9 : World.frozen? (we) ⟨rb, 9, none⟩ = false := (He.out.blk 5 rfl).frozen 9
          have z10 : World.cell? (we) ⟨rb, 10, none⟩ = some _ := (He.out.blk 5 rfl).cell 10
          have zf10 : World.frozen? (we) ⟨rb, 10, none⟩ = false := (He.out.blk 5 rfl).frozen 10
          have H6 := Hp.Sep.fill He.out 5 rfl [.int .i64 0, .int .i64 0, .int .i64 0, .int .i64 0, .int .i64 0, .int .u64 0, .int .i64 0, .int .i64 0, .slice none 0 0, .int .i64 0, .slice none 0 0] rfl
          have hR := H6.blk 5 rfl
          have hX := hZh.out 2 zeroFr (.slice none 0 0) (.slice none 0 0) _ hdz ⟨RdS.nil 1 _, RT.nil _⟩ H6.t
          clear H6 hZh hdz He
          go_wp2_with fail
          refine bodyPost_ret (res_list (rs := [.cell 2 41, .tmp 3]) rfl (by simp) (.cell rb _ _ _ rfl hR Try.underlying41 rfl (by kernel_rfl) (.tmp .nil))) rfl ?_
          exact hX
        | true =>
          have hdf : decP l = (0, (⟨s1.1, s2.1, s3.1, a1.1, a2.1, 0, Tok.zero⟩ : Fr)) := by rw [dec_eq hdec.out, if_neg (by rw [hdn, hr]; simp)]
          clear hr hdn
          go_wp2_with fail
          go_at_call 53
          refine Calls.mono (Dn.out) ?_
          rintro e we ⟨rfl, te⟩
          have He := Lib.hid (Hd.out.turns te)
          clear Dn Hd te
          have x0 : World.cell? (we) ⟨fb, 0, none⟩ = some _ := (He.out.blk 4 rfl).cell 0
          have x1 : World.cell? (we) ⟨fb, 1, none⟩ = some _ := (He.out.blk 4 rfl).cell 1
          have x2 : World.cell? (we) ⟨fb, 2, none⟩ = some _ := (He.out.blk 4 rfl).cell 2
          have x3 : World.cell? (we) ⟨fb, 3, none⟩ = some _ := (He.out.blk 4 rfl).cell 3
          have x4 : World.cell? (we) ⟨fb, 4, none⟩ = some _ := (He.out.blk 4 rfl).cell 4
          have x5 : World.cell? (we) ⟨fb, 5, none⟩ = some _ := (He.out.blk 4 rfl).cell 5
          have x6 : World.cell? (we) ⟨fb, 6, none⟩ = some _ := (He.out.blk 4 rfl).cell 6
          have x7 : World.cell? (we) ⟨fb, 7, none⟩ = some _ := (He.out.blk 4 rfl).cell 7
          have x8 : World.cell? (we) ⟨fb, 8, none⟩ = some _ := (He.out.blk 4 rfl).cell 8
          have x9 : World.cell? (we) ⟨fb, 9, none⟩ = some _ := (He.out.blk 4 rfl).cell 9
          have x10 : World.cell? (we) ⟨fb, 10, none⟩ = some _ := (He.out.blk 4 rfl).cell 10
          have z0 : World.cell? (we) ⟨rb, 0, none⟩ = some _ := (He.out.blk 5 rfl).cell 0
          have zf0 : World.frozen? (we) ⟨rb, 0, none⟩ = false := (He.out.blk 5 rfl).frozen 0
          have z1 : World.cell? (we) ⟨rb, 1, none⟩ = some _ := (He.out.blk 5 rfl).cell 1
          have zf1 : World.frozen? (we) ⟨rb, 1, none⟩ = false := (He.out.blk 5 rfl).frozen 1
          have z2 : World.cell? (we) ⟨rb, 2, none⟩ = some _ := (He.out.blk 5 rfl).cell 2
          have zf2 : World.frozen? (we) ⟨rb, 2, none⟩ = false := (He.out.blk 5 rfl).frozen 2
          have z3 : World.cell? (we) ⟨rb, 3, none⟩ = some _ := (He.out.blk 5 rfl).cell 3
          have zf3 : World.frozen? (we) ⟨rb, 3, none⟩ = false := (He.out.blk 5 rfl).frozen 3
          have z4 : World.cell? (we) ⟨rb, 4, none⟩ = some _ := (He.out.blk 5 rfl).cell 4
          have zf4 : World.frozen? (we) ⟨rb, 4, none⟩ = false := (He.out.blk 5 rfl).frozen 4
          have z5 : World.cell? (we) ⟨rb, 5, none⟩ = some _ := (He.out.blk 5 rfl).cell 5
          have zf5 : World.frozen? (we) ⟨rb, 5, none⟩ = false := (He.out.blk 5 rfl).frozen 5
          have z6 : World.cell? (we) ⟨rb, 6, none⟩ = some _ := (He.out.blk 5 rfl).cell 6
          have zf6 : World.frozen? (we) ⟨rb, 6, none⟩ = false := (He.out.blk 5 rfl).frozen 6
          have z7 : World.cell? (we) ⟨rb, 7, none⟩ = some _ := (He.out.blk 5 rfl).cell 7
          have zf7 : World.frozen? (we) ⟨rb, 7, none⟩ = false := (He.out.blk 5 rfl).frozen 7
          have z8 : World.cell? (we) ⟨rb, 8, none⟩ = some _ := (He.out.blk 5 rfl).cell 8
          have zf8 : World.frozen? (we) ⟨rb, 8, none⟩ = false := (He.out.blk 5 rfl).frozen 8
          have z9 : World.cell? (we) ⟨rb, 9, none⟩ = some _ := (He.out.blk 5 rfl).cell 9
          have zf9 : World.frozen? (we) ⟨rb, 9, none⟩ = false := (He.out.blk 5 rfl).frozen 9
          have z10 : World.cell? (we) ⟨rb, 10, none⟩ = some _ := (He.out.blk 5 rfl).cell 10
          have zf10 : World.frozen? (we) ⟨rb, 10, none⟩ = false := (He.out.blk 5 rfl).frozen 10
          have H6 := Hp.Sep.fill He.out 5 rfl [.int .i64 s1.1, .int .i64 s2.1, .int .i64 s3.1, .int .i64 a1.1, .int .i64 a2.1, .int .u64 0, .int .i64 0, .int .i64 0, .slice none 0 0, .int .i64 0, .slice none 0 0] rfl
          have hR := H6.blk 5 rfl
          have hX := hZh.out 0 _ _ _ _ hdf (tokR_of H6) H6.t
          clear H6 hZh hdf He
          go_wp2_with fail
          refine bodyPost_ret (res_list (rs := [.cell 2 41, .tmp 3]) rfl (by simp) (.cell rb _ _ _ rfl hR Try.underlying41 rfl (by kernel_rfl) (.tmp .nil))) rfl ?_
          exact hX
      · have g5 : (dn != 0) = true := by simpa using hd0
        have hdz : decP l = (2, zeroFr) := by rw [dec_eq hdec.out, if_pos (.inl (by rw [hdn]; exact hd0))]
        clear hdn hd0
        go_wp2_with fail
        go_at_call 53
        refine Calls.mono (Dn.out) ?_
        rintro e we ⟨rfl, te⟩
        have He := Lib.hid (Hd.out.turns te)
        clear Dn Hd te
        have z0 : World.cell? (we) ⟨rb, 0, none⟩ = some _ := (He.out.blk 5 rfl).cell 0
        have zf0 : World.frozen? (we) ⟨rb, 0, none⟩ = false := (He.out.blk 5 rfl).frozen 0
        have z1 : World.cell? (we) ⟨rb, 1, none⟩ = some _ := (He.out.blk 5 rfl).cell 1
        have zf1 : World.frozen? (we) ⟨rb, 1, none⟩ = false := (He.out.blk 5 rfl).frozen 1
        have z2 : World.cell? (we) ⟨rb, 2, none⟩ = some _ := (He.out.blk 5 rfl).cell 2
        have zf2 : World.frozen? (we) ⟨rb, 2, none⟩ = false := (He.out.blk 5 rfl).frozen 2
        have z3 : World.cell? (we) ⟨rb, 3, none⟩ = some _ := (He.out.blk 5 rfl).cell 3
        have zf3 : World.frozen? (we) ⟨rb, 3, none⟩ = false := (He.out.blk 5 rfl).frozen 3
        have z4 : World.cell? (we) ⟨rb, 4, none⟩ = some _ := (He.out.blk 5 rfl).cell 4
        have zf4 : World.frozen? (we) ⟨rb, 4, none⟩ = false := (He.out.blk 5 rfl).frozen 4
        have z5 : World.cell? (we) ⟨rb, 5, none⟩ = some _ := (He.out.blk 5 rfl).cell 5
        have zf5 : World.frozen? (we) ⟨rb, 5, none⟩ = false := (He.out.blk 5 rfl).frozen 5
        have z6 : World.cell? (we) ⟨rb, 6, none⟩ = some _ := (He.out.blk 5 rfl).cell 6
        have zf6 : World.frozen? (we) ⟨rb, 6, none⟩ = false := (He.out.blk 5 rfl).frozen 6
        have z7 : World.cell? (we) ⟨rb, 7, none⟩ = some _ := (He.out.blk 5 rfl).cell 7
        have zf7 : World.frozen? (we) ⟨rb, 7, none⟩ = false := (He.out.blk 5 rfl).frozen 7
        have z8 : World.cell? (we) ⟨rb, 8, none⟩ = some _ := (He.out.blk 5 rfl).cell 8
        have zf8 : World.frozen? (we) ⟨rb, 8, none⟩ = false := (He.out.blk 5 rfl).frozen 8
        have z9 : World.cell? (we) ⟨rb, 9, none⟩ = some _ := (He.out.blk 5 rfl).cell 9
        have zf9 : World.frozen? (we) ⟨rb, 9, none⟩ = false := (He.out.blk 5 rfl).frozen 9
        have z10 : World.cell? (we) ⟨rb, 10, none⟩ = some _ := (He.out.blk 5 rfl).cell 10
        have zf10 : World.frozen? (we) ⟨rb, 10, none⟩ = false := (He.out.blk 5 rfl).frozen 10
        have H6 := Hp.Sep.fill He.out 5 rfl [.int .i64 0, .int .i64 0, .int .i64 0, .int .i64 0, .int .i64 0, .int .u64 0, .int .i64 0, .int .i64 0, .slice none 0 0, .int .i64 0, .slice none 0 0] rfl
        have hR := H6.blk 5 rfl
        have hX := hZh.out 2 zeroFr (.slice none 0 0) (.slice none 0 0) _ hdz ⟨RdS.nil 1 _, RT.nil _⟩ H6.t
        clear H6 hZh hdz He
        go_wp2_with fail
        refine bodyPost_ret (res_list (rs := [.cell 2 41, .tmp 3]) rfl (by simp) (.cell rb _ _ _ rfl hR Try.underlying41 rfl (by kernel_rfl) (.tmp .nil))) rfl ?_
        exact hX
    · have g1 : (s1.1 == 1) = false := by simpa using e1
      by_cases e2 : s1.1 = 2
      · have g2 : (s1.1 == 2) = true := by simpa using e2
        obtain ⟨a1, ha1⟩ : ∃ a, numP s3.2 = a := ⟨_, rfl⟩
        obtain ⟨a2, ha2⟩ : ∃ a, a1.2.bits = a := ⟨_, rfl⟩
        have hdec : Hid (frP ⟨l, false⟩ = ((⟨s1.1, s2.1, s3.1, a1.1, 0, a2.1, Tok.zero⟩ : Fr), a2.2)) := Lib.hid (by rw [hfr.out, if_neg e0, if_neg e1, if_pos e2, ha1, ha2])
        have hstl := Lib.hid (hstz ⟨s1.1, s2.1, s3.1, a1.1, 0, a2.1, Tok.zero⟩ rfl)
        have k1 := num_len s3.2
        have hl3' := hl3h.out
        rw [ha1] at k1
        have D1 := Lib.hid (Ng.dnum_is w5 b own s3.2 (Sep_isRd H5.out 1 rfl) hl3h.out)
        have D2 := Lib.hid (fun W (h : IsRd DR W b own a1.2) => Ks.dbits_is W b own a1.2 h (by omega))
        rw [ha1] at D1
        rw [ha2] at D2
        clear e0 e1 e2 hfr ha1 ha2 k1 hl3' hstz
        go_wp2_with fail
        go_at_call 50
        refine Calls.mono (D1.out) ?_
        rintro e w6 ⟨rfl, r6, t6⟩
        have H6' := Sep_rd H5.out 1 rfl r6 t6
        have y3 : World.cell? (w6) ⟨fb, 3, none⟩ = some _ := (H6'.blk 0 rfl).cell 3
        have yf3 : World.frozen? (w6) ⟨fb, 3, none⟩ = false := (H6'.blk 0 rfl).frozen 3
        have H6 := Lib.hid (H6'.set 0 rfl 3 (.int .i64 a1.1))
        clear D1 H5 r6 t6 k0 H6'
        go_upto_region 13 with fail
        generalize w6.setCell ⟨fb, 3, none⟩ (.int .i64 a1.1) = wt at *
        clear y3 yf3
        go_wp2_with fail
        go_at_call 52
        refine Calls.mono (D2.out _ (Sep_isRd H6.out 1 rfl)) ?_
        rintro e w7 ⟨rfl, r7, t7⟩
        have H7 := Sep_rd H6.out 1 rfl r7 t7
        have y5 : World.cell? (w7) ⟨fb, 5, none⟩ = some _ := (H7.blk 0 rfl).cell 5
        have yf5 : World.frozen? (w7) ⟨fb, 5, none⟩ = false := (H7.blk 0 rfl).frozen 5
        have H8 := (Sep_tok0 (H7.set 0 rfl 5 (.int .u64 a2.1))).keep [0, 1, 2, 4, 3, 5]
        have H : Hid (Sep [] w (tokT Tok.zero (.slice none 0 0) (.slice none 0 0) [] ++ [tRd DR b own a2.2, tBlk fb #[.int .i64 s1.1, .int .i64 s2.1, .int .i64 s3.1, .int .i64 a1.1, .int .i64 0, .int .u64 a2.1, .int .i64 0, .int .i64 0, .slice none 0 0, .int .i64 0, .slice none 0 0] 41, tBlk rb zeroF 41]) _) := Lib.hid H8
        clear D2 H6 r7 t7 H7 H8
        go_upto_region 14 with fail
        generalize w7.setCell ⟨fb, 5, none⟩ (.int .u64 a2.1) = w8 at *
        clear y5 yf5
        have R := Fp.rright_is _ ((⟨s1.1, s2.1, s3.1, a1.1, 0, a2.1, Tok.zero⟩ : Fr)) _ _ (tokR_of H.out)
        unfold frv at R
        simp only at R
        have Rh := Lib.hid R
        clear R
        have x0 : World.cell? (w8) ⟨fb, 0, none⟩ = some _ := (H.out.blk 4 rfl).cell 0
        have x1 : World.cell? (w8) ⟨fb, 1, none⟩ = some _ := (H.out.blk 4 rfl).cell 1
        have x2 : World.cell? (w8) ⟨fb, 2, none⟩ = some _ := (H.out.blk 4 rfl).cell 2
        have x3 : World.cell? (w8) ⟨fb, 3, none⟩ = some _ := (H.out.blk 4 rfl).cell 3
        have x4 : World.cell? (w8) ⟨fb, 4, none⟩ = some _ := (H.out.blk 4 rfl).cell 4
        have x5 : World.cell? (w8) ⟨fb, 5, none⟩ = some _ := (H.out.blk 4 rfl).cell 5
        have x6 : World.cell? (w8) ⟨fb, 6, none⟩ = some _ := (H.out.blk 4 rfl).cell 6
        have x7 : World.cell? (w8) ⟨fb, 7, none⟩ = some _ := (H.out.blk 4 rfl).cell 7
        have x8 : World.cell? (w8) ⟨fb, 8, none⟩ = some _ := (H.out.blk 4 rfl).cell 8
        have x9 : World.cell? (w8) ⟨fb, 9, none⟩ = some _ := (H.out.blk 4 rfl).cell 9
        have x10 : World.cell? (w8) ⟨fb, 10, none⟩ = some _ := (H.out.blk 4 rfl).cell 10
        go_wp2_with fail
        go_at_call 22
        refine Calls.mono (Rh.out) ?_
        rintro e wd ⟨rfl, td⟩
        have Hd := Lib.hid (H.out.turns td)
        clear x0 x1 x2 x3 x4 x5 x6 x7 x8 x9 x10 Rh H td
        have Dn := Lib.hid (Kt.ddone_is _ b own (a2.2) (Sep_isRd Hd.out 3 rfl))
        obtain ⟨dn, hdn⟩ : ∃ d, St.done (a2.2) = d := ⟨_, rfl⟩
        rw [hdn] at Dn
        by_cases hd0 : dn = 0
        · subst hd0
          cases hr : rightB ((⟨s1.1, s2.1, s3.1, a1.1, 0, a2.1, Tok.zero⟩ : Fr)) with
          | false =>
            have hdz : decP l = (2, zeroFr) := by rw [dec_eq hdec.out, if_pos (.inr hr)]
            clear hr hdn
            go_wp2_with fail
            go_at_call 53
            refine Calls.mono (Dn.out) ?_
            rintro e we ⟨rfl, te⟩
            have He := Lib.hid (Hd.out.turns te)
            clear Dn Hd te
            have z0 : World.cell? (we) ⟨rb, 0, none⟩ = some _ := (He.out.blk 5 rfl).cell 0
            have zf0 : World.frozen? (we) ⟨rb, 0, none⟩ = false := (He.out.blk 5 rfl).frozen 0
            have z1 : World.cell? (we) ⟨rb, 1, none⟩ = some _ := (He.out.blk 5 rfl).cell 1
            have zf1 : World.frozen? (we) ⟨rb, 1, none⟩ = false := (He.out.blk 5 rfl).frozen 1
            have z2 : World.cell? (we) ⟨rb, 2, none⟩ = some _ := (He.out.blk 5 rfl).cell 2
            have zf2 : World.frozen? (we) ⟨rb, 2, none⟩ = false := (He.out.blk 5 rfl).frozen 2
            have z3 : World.cell? (we) ⟨rb, 3, none⟩ = some _ := (He.out.blk 5 rfl).cell 3
            have zf3 : World.frozen? (we) ⟨rb, 3, none⟩ = false := (He.out.blk 5 rfl).frozen 3
            have z4 : World.cell? (we) ⟨rb, 4, none⟩ = some _ := (He.out.blk 5 rfl).cell 4
            have zf4 : World.frozen? (we) ⟨rb, 4, none⟩ = false := (He.out.blk 5 rfl).frozen 4
            have z5 : World.cell? (we) ⟨rb, 5, none⟩ = some _ := (He.out.blk 5 rfl).cell 5
            have zf5 : World.frozen? (we) ⟨rb, 5, none⟩ = false := (He.out.blk 5 rfl).frozen 5
            have z6 : World.cell? (we) ⟨rb, 6, none⟩ = some _ := (He.out.blk 5 rfl).cell 6
            have zf6 : World.frozen? (we) ⟨rb, 6, none⟩ = false := (He.out.blk 5 rfl).frozen 6
            have z7 : World.cell? (we) ⟨rb, 7, none⟩ = some _ := (He.out.blk 5 rfl).cell 7
            have zf7 : World.frozen? (we) ⟨rb, 7, none⟩ = false := (He.out.blk 5 rfl).frozen 7
            have z8 : World.cell? (we) ⟨rb, 8, none⟩ = some _ := (He.out.blk 5 rfl).cell 8
            have zf8 : World.frozen? (we) ⟨rb, 8, none⟩ = false := (He.out.blk 5 rfl).frozen 8
            have z9 : World.cell? (we) ⟨rb, 9, none⟩ = some _ := (He.out.blk 5 rfl).cell 9
            have zf9 : World.frozen? (we) ⟨rb, 9, none⟩ = false := (He.out.blk 5 rfl).frozen 9
            have z10 : World.cell? (we) ⟨rb, 10, none⟩ = some _ := (He.out.blk 5 rfl).cell 10
            have zf10 : World.frozen? (we) ⟨rb, 10, none⟩ = false := (He.out.blk 5 rfl).frozen 10
            have H6 := Hp.Sep.fill He.out 5 rfl [.int .i64 0, .int .i64 0, .int .i64 0, .int .i64 0, .int .i64 0, .int .u64 0, .int .i64 0, .int .i64 0, .slice none 0 0, .int .i64 0, .slice none 0 0] rfl
            have hR := H6.blk 5 rfl
            have hX := hZh.out 2 zeroFr (.slice none 0 0) (.slice none 0 0) _ hdz ⟨RdS.nil 1 _, RT.nil _⟩ H6.t
            clear H6 hZh hdz He
            go_wp2_with fail
            refine bodyPost_ret (res_list (rs := [.cell 2 41, .tmp 3]) rfl (by simp) (.cell rb _ _ _ rfl hR Try.underlying41 rfl (by kernel_rfl) (.tmp .nil))) rfl ?_
            exact hX
          | true =>
            have hdf : decP l = (0, (⟨s1.1, s2.1, s3.1, a1.1, 0, a2.1, Tok.zero⟩ : Fr)) := by rw [dec_eq hdec.out, if_neg (by rw [hdn, hr]; simp)]
            clear hr hdn
            go_wp2_with fail
            go_at_call 53
            refine Calls.mono (Dn.out) ?_
            rintro e we ⟨rfl, te⟩
            have He := Lib.hid (Hd.out.turns te)
            clear Dn Hd te
            have x0 : World.cell? (we) ⟨fb, 0, none⟩ = some _ := (He.out.blk 4 rfl).cell 0
            have x1 : World.cell? (we) ⟨fb, 1, none⟩ = some _ := (He.out.blk 4 rfl).cell 1
            have x2 : World.cell? (we) ⟨fb, 2, none⟩ = some _ := (He.out.blk 4 rfl).cell 2
            have x3 : World.cell? (we) ⟨fb, 3, none⟩ = some _ := (He.out.blk 4 rfl).cell 3
            have x4 : World.cell? (we) ⟨fb, 4, none⟩ = some _ := (He.out.blk 4 rfl).cell 4
            have x5 : World.cell? (we) ⟨fb, 5, none⟩ = some _ := (He.out.blk 4 rfl).cell 5
            have x6 : World.cell? (we) ⟨fb, 6, none⟩ = some _ := (He.out.blk 4 rfl).cell 6
            have x7 : World.cell? (we) ⟨fb, 7, none⟩ = some _ := (He.out.blk 4 rfl).cell 7
            have x8 : World.cell? (we) ⟨fb, 8, none⟩ = some _ := (He.out.blk 4 rfl).cell 8
            have x9 : World.cell? (we) ⟨fb, 9, none⟩ = some _ := (He.out.blk 4 rfl).cell 9
            have x10 : World.cell? (we) ⟨fb, 10, none⟩ = some _ := (He.out.blk 4 rfl).cell 10
            have z0 : World.cell? (we) ⟨rb, 0, none⟩ = some _ := (He.out.blk 5 rfl).cell 0
            have zf0 : World.frozen? (we) ⟨rb, 0, none⟩ = false := (He.out.blk 5 rfl).frozen 0
            have z1 : World.cell? (we) ⟨rb, 1, none⟩ = some _ := (He.out.blk 5 rfl).cell 1
            have zf1 : World.frozen? (we) ⟨rb, 1, none⟩ = false := (He.out.blk 5 rfl).frozen 1
            have z2 : World.cell? (we) ⟨rb, 2, none⟩ = some _ := (He.out.blk 5 rfl).cell 2
            have zf2 : World.frozen? (we) ⟨rb, 2, none⟩ = false := (He.out.blk 5 rfl).frozen 2
            have z3 : World.cell? (we) ⟨rb, 3, none⟩ = some _ := (He.out.blk 5 rfl).cell 3
            have zf3 : World.frozen? (we) ⟨rb, 3, none⟩ = false := (He.out.blk 5 rfl).frozen 3
            have z4 : World.cell? (we) ⟨rb, 4, none⟩ = some _ := (He.out.blk 5 rfl).cell 4
            have zf4 : World.frozen? (we) ⟨rb, 4, none⟩ = false := (He.out.blk 5 rfl).frozen 4
            have z5 : World.cell? (we) ⟨rb, 5, none⟩ = some _ := (He.out.blk 5 rfl).cell 5
            have zf5 : World.frozen? (we) ⟨rb, 5, none⟩ = false := (He.out.blk 5 rfl).frozen 5
            have z6 : World.cell? (we) ⟨rb, 6, none⟩ = some _ := (He.out.blk 5 rfl).cell 6
            have zf6 : World.frozen? (we) ⟨rb, 6, none⟩ = false := (He.out.blk 5 rfl).frozen 6
            have z7 : World.cell? (we) ⟨rb, 7, none⟩ = some _ := (He.out.blk 5 rfl).cell 7
            have zf7 : World.frozen? (we) ⟨rb, 7, none⟩ = false := (He.out.blk 5 rfl).frozen 7
            have z8 : World.cell? (we) ⟨rb, 8, none⟩ = some _ := (He.out.blk 5 rfl).cell 8
            have zf8 : World.frozen? (we) ⟨rb, 8, none⟩ = false := (He.out.blk 5 rfl).frozen 8
            have z9 : World.cell? (we) ⟨rb, 9, none⟩ = some _ := (He.out.blk 5 rfl).cell 9
            have zf9 : World.frozen? (we) ⟨rb, 9, none⟩ = false := (He.out.blk 5 rfl).frozen 9
            have z10 : World.cell? (we) ⟨rb, 10, none⟩ = some _ := (He.out.blk 5 rfl).cell 10
            have zf10 : World.frozen? (we) ⟨rb, 10, none⟩ = false := (He.out.blk 5 rfl).frozen 10
            have H6 := Hp.Sep.fill He.out 5 rfl [.int .i64 s1.1, .int .i64 s2.1, .int .i64 s3.1, .int .i64 a1.1, .int .i64 0, .int .u64 a2.1, .int .i64 0, .int .i64 0, .slice none 0 0, .int .i64 0, .slice none 0 0] rfl
            have hR := H6.blk 5 rfl
            have hX := hZh.out 0 _ _ _ _ hdf (tokR_of H6) H6.t
            clear H6 hZh hdf He
            go_wp2_with fail
            refine bodyPost_ret (res_list (rs := [.cell 2 41, .tmp 3]) rfl (by simp) (.cell rb _ _ _ rfl hR Try.underlying41 rfl (by kernel_rfl) (.tmp .nil))) rfl ?_
            exact hX
        · have g5 : (dn != 0) = true := by simpa using hd0
          have hdz : decP l = (2, zeroFr) := by rw [dec_eq hdec.out, if_pos (.inl (by rw [hdn]; exact hd0))]
          clear hdn hd0
          go_wp2_with fail
          go_at_call 53
          refine Calls.mono (Dn.out) ?_
          rintro e we ⟨rfl, te⟩
          have He := Lib.hid (Hd.out.turns te)
          clear Dn Hd te
          have z0 : World.cell? (we) ⟨rb, 0, none⟩ = some _ := (He.out.blk 5 rfl).cell 0
          have zf0 : World.frozen? (we) ⟨rb, 0, none⟩ = false := (He.out.blk 5 rfl).frozen 0
          have z1 : World.cell? (we) ⟨rb, 1, none⟩ = some _ := (He.out.blk 5 rfl).cell 1
          have zf1 : World.frozen? (we) ⟨rb, 1, none⟩ = false := (He.out.blk 5 rfl).frozen 1
          have z2 : World.cell? (we) ⟨rb, 2, none⟩ = some _ := (He.out.blk 5 rfl).cell 2
          have zf2 : World.frozen? (we) ⟨rb, 2, none⟩ = false := (He.out.blk 5 rfl).frozen 2
          have z3 : World.cell? (we) ⟨rb, 3, none⟩ = some _ := (He.out.blk 5 rfl).cell 3
          have zf3 : World.frozen? (we) ⟨rb, 3, none⟩ = false := (He.out.blk 5 rfl).frozen 3
          have z4 : World.cell? (we) ⟨rb, 4, none⟩ = some _ := (He.out.blk 5 rfl).cell 4
          have zf4 : World.frozen? (we) ⟨rb, 4, none⟩ = false := (He.out.blk 5 rfl).frozen 4
          have z5 : World.cell? (we) ⟨rb, 5, none⟩ = some _ := (He.out.blk 5 rfl).cell 5
          have zf5 : World.frozen? (we) ⟨rb, 5, none⟩ = false := (He.out.blk 5 rfl).frozen 5
          have z6 : World.cell? (we) ⟨rb, 6, none⟩ = some _ := (He.out.blk 5 rfl).cell 6
          have zf6 : World.frozen? (we) ⟨rb, 6, none⟩ = false := (He.out.blk 5 rfl).frozen 6
          have z7 : World.cell? (we) ⟨rb, 7, none⟩ = some _ := (He.out.blk 5 rfl).cell 7
          have zf7 : World.frozen? (we) ⟨rb, 7, none⟩ = false := (He.out.blk 5 rfl).frozen 7
          have z8 : World.cell? (we) ⟨rb, 8, none⟩ = some _ := (He.out.blk 5 rfl).cell 8
          have zf8 : World.frozen? (we) ⟨rb, 8, none⟩ = false := (He.out.blk 5 rfl).frozen 8
          have z9 : World.cell? (we) ⟨rb, 9, none⟩ = some _ := (He.out.blk 5 rfl).cell 9
          have zf9 : World.frozen? (we) ⟨rb, 9, none⟩ = false := (He.out.blk 5 rfl).frozen 9
          have z10 : World.cell? (we) ⟨rb, 10, none⟩ = some _ := (He.out.blk 5 rfl).cell 10
          have zf10 : World.frozen? (we) ⟨rb, 10, none⟩ = false := (He.out.blk 5 rfl).frozen 10
          have H6 := Hp.Sep.fill He.out 5 rfl [.int .i64 0, .int .i64 0, .int .i64 0, .int .i64 0, .int .i64 0, .int .u64 0, .int .i64 0, .int .i64 0, .slice none 0 0, .int .i64 0, .slice none 0 0] rfl
          have hR := H6.blk 5 rfl
          have hX := hZh.out 2 zeroFr (.slice none 0 0) (.slice none 0 0) _ hdz ⟨RdS.nil 1 _, RT.nil _⟩ H6.t
          clear H6 hZh hdz He
          go_wp2_with fail
          refine bodyPost_ret (res_list (rs := [.cell 2 41, .tmp 3]) rfl (by simp) (.cell rb _ _ _ rfl hR Try.underlying41 rfl (by kernel_rfl) (.tmp .nil))) rfl ?_
          exact hX
      · have g2 : (s1.1 == 2) = false := by simpa using e2
        have hdec : Hid (frP ⟨l, false⟩ = ((⟨s1.1, s2.1, s3.1, 0, 0, 0, Tok.zero⟩ : Fr), s3.2)) := Lib.hid (by rw [hfr.out, if_neg e0, if_neg e1, if_neg e2])
        have hstl := Lib.hid (hstz ⟨s1.1, s2.1, s3.1, 0, 0, 0, Tok.zero⟩ rfl)
        have H8 := (Sep_tok0 H5.out).keep [0, 1, 2, 4, 3, 5]
        have H : Hid (Sep [] w (tokT Tok.zero (.slice none 0 0) (.slice none 0 0) [] ++ [tRd DR b own s3.2, tBlk fb #[.int .i64 s1.1, .int .i64 s2.1, .int .i64 s3.1, .int .i64 0, .int .i64 0, .int .u64 0, .int .i64 0, .int .i64 0, .slice none 0 0, .int .i64 0, .slice none 0 0] 41, tBlk rb zeroF 41]) w5) := Lib.hid H8
        clear e0 e1 e2 hfr H5 H8 hstz
        have R := Fp.rright_is _ ((⟨s1.1, s2.1, s3.1, 0, 0, 0, Tok.zero⟩ : Fr)) _ _ (tokR_of H.out)
        unfold frv at R
        simp only at R
        have Rh := Lib.hid R
        clear R
        have x0 : World.cell? (w5) ⟨fb, 0, none⟩ = some _ := (H.out.blk 4 rfl).cell 0
        have x1 : World.cell? (w5) ⟨fb, 1, none⟩ = some _ := (H.out.blk 4 rfl).cell 1
        have x2 : World.cell? (w5) ⟨fb, 2, none⟩ = some _ := (H.out.blk 4 rfl).cell 2
        have x3 : World.cell? (w5) ⟨fb, 3, none⟩ = some _ := (H.out.blk 4 rfl).cell 3
        have x4 : World.cell? (w5) ⟨fb, 4, none⟩ = some _ := (H.out.blk 4 rfl).cell 4
        have x5 : World.cell? (w5) ⟨fb, 5, none⟩ = some _ := (H.out.blk 4 rfl).cell 5
        have x6 : World.cell? (w5) ⟨fb, 6, none⟩ = some _ := (H.out.blk 4 rfl).cell 6
        have x7 : World.cell? (w5) ⟨fb, 7, none⟩ = some _ := (H.out.blk 4 rfl).cell 7
        have x8 : World.cell? (w5) ⟨fb, 8, none⟩ = some _ := (H.out.blk 4 rfl).cell 8
        have x9 : World.cell? (w5) ⟨fb, 9, none⟩ = some _ := (H.out.blk 4 rfl).cell 9
        have x10 : World.cell? (w5) ⟨fb, 10, none⟩ = some _ := (H.out.blk 4 rfl).cell 10
        go_wp2_with fail
        go_at_call 22
        refine Calls.mono (Rh.out) ?_
        rintro e wd ⟨rfl, td⟩
        have Hd := Lib.hid (H.out.turns td)
        clear x0 x1 x2 x3 x4 x5 x6 x7 x8 x9 x10 Rh H td
        have Dn := Lib.hid (Kt.ddone_is _ b own (s3.2) (Sep_isRd Hd.out 3 rfl))
        obtain ⟨dn, hdn⟩ : ∃ d, St.done (s3.2) = d := ⟨_, rfl⟩
        rw [hdn] at Dn
        by_cases hd0 : dn = 0
        · subst hd0
          cases hr : rightB ((⟨s1.1, s2.1, s3.1, 0, 0, 0, Tok.zero⟩ : Fr)) with
          | false =>
            have hdz : decP l = (2, zeroFr) := by rw [dec_eq hdec.out, if_pos (.inr hr)]
            clear hr hdn
            go_wp2_with fail
            go_at_call 53
            refine Calls.mono (Dn.out) ?_
            rintro e we ⟨rfl, te⟩
            have He := Lib.hid (Hd.out.turns te)
            clear Dn Hd te
            have z0 : World.cell? (we) ⟨rb, 0, none⟩ = some _ := (He.out.blk 5 rfl).cell 0
            have zf0 : World.frozen? (we) ⟨rb, 0, none⟩ = false := (He.out.blk 5 rfl).frozen 0
            have z1 : World.cell? (we) ⟨rb, 1, none⟩ = some _ := (He.out.blk 5 rfl).cell 1
            have zf1 : World.frozen? (we) ⟨rb, 1, none⟩ = false := (He.out.blk 5 rfl).frozen 1
            have z2 : World.cell? (we) ⟨rb, 2, none⟩ = some _ := (He.out.blk 5 rfl).cell 2
            have zf2 : World.frozen? (we) ⟨rb, 2, none⟩ = false := (He.out.blk 5 rfl).frozen 2
            have z3 : World.cell? (we) ⟨rb, 3, none⟩ = some _ := (He.out.blk 5 rfl).cell 3
            have zf3 : World.frozen? (we) ⟨rb, 3, none⟩ = false := (He.out.blk 5 rfl).frozen 3
            have z4 : World.cell? (we) ⟨rb, 4, none⟩ = some _ := (He.out.blk 5 rfl).cell 4
            have zf4 : World.frozen? (we) ⟨rb, 4, none⟩ = false := (He.out.blk 5 rfl).frozen 4
            have z5 : World.cell? (we) ⟨rb, 5, none⟩ = some _ := (He.out.blk 5 rfl).cell 5
            have zf5 : World.frozen? (we) ⟨rb, 5, none⟩ = false := (He.out.blk 5 rfl).frozen 5
            have z6 : World.cell? (we) ⟨rb, 6, none⟩ = some _ := (He.out.blk 5 rfl).cell 6
            have zf6 : World.frozen? (we) ⟨rb, 6, none⟩ = false := (He.out.blk 5 rfl).frozen 6
            have z7 : World.cell? (we) ⟨rb, 7, none⟩ = some _ := (He.out.blk 5 rfl).cell 7
            have zf7 : World.frozen? (we) ⟨rb, 7, none⟩ = false := (He.out.blk 5 rfl).frozen 7
            have z8 : World.cell? (we) ⟨rb, 8, none⟩ = some _ := (He.out.blk 5 rfl).cell 8
            have zf8 : World.frozen? (we) ⟨rb, 8, none⟩ = false := (He.out.blk 5 rfl).frozen 8
            have z9 : World.cell? (we) ⟨rb, 9, none⟩ = some _ := (He.out.blk 5 rfl).cell 9
            have zf9 : World.frozen? (we) ⟨rb, 9, none⟩ = false := (He.out.blk 5 rfl).frozen 9
            have z10 : World.cell? (we) ⟨rb, 10, none⟩ = some _ := (He.out.blk 5 rfl).cell 10
            have zf10 : World.frozen? (we) ⟨rb, 10, none⟩ = false := (He.out.blk 5 rfl).frozen 10
            have H6 := Hp.Sep.fill He.out 5 rfl [.int .i64 0, .int .i64 0, .int .i64 0, .int .i64 0, .int .i64 0, .int .u64 0, .int .i64 0, .int .i64 0, .slice none 0 0, .int .i64 0, .slice none 0 0] rfl
            have hR := H6.blk 5 rfl
            have hX := hZh.out 2 zeroFr (.slice none 0 0) (.slice none 0 0) _ hdz ⟨RdS.nil 1 _, RT.nil _⟩ H6.t
            clear H6 hZh hdz He
            go_wp2_with fail
            refine bodyPost_ret (res_list (rs := [.cell 2 41, .tmp 3]) rfl (by simp) (.cell rb _ _ _ rfl hR Try.underlying41 rfl (by kernel_rfl) (.tmp .nil))) rfl ?_
            exact hX
          | true =>
            have hdf : decP l = (0, (⟨s1.1, s2.1, s3.1, 0, 0, 0, Tok.zero⟩ : Fr)) := by rw [dec_eq hdec.out, if_neg (by rw [hdn, hr]; simp)]
            clear hr hdn
            go_wp2_with fail
            go_at_call 53
            refine Calls.mono (Dn.out) ?_
            rintro e we ⟨rfl, te⟩
            have He := Lib.hid (Hd.out.turns te)
            clear Dn Hd te
            have x0 : World.cell? (we) ⟨fb, 0, none⟩ = some _ := (He.out.blk 4 rfl).cell 0
            have x1 : World.cell? (we) ⟨fb, 1, none⟩ = some _ := (He.out.blk 4 rfl).cell 1
            have x2 : World.cell? (we) ⟨fb, 2, none⟩ = some _ := (He.out.blk 4 rfl).cell 2
            have x3 : World.cell? (we) ⟨fb, 3, none⟩ = some _ := (He.out.blk 4 rfl).cell 3
            have x4 : World.cell? (we) ⟨fb, 4, none⟩ = some _ := (He.out.blk 4 rfl).cell 4
            have x5 : World.cell? (we) ⟨fb, 5, none⟩ = some _ := (He.out.blk 4 rfl).cell 5
            have x6 : World.cell? (we) ⟨fb, 6, none⟩ = some _ := (He.out.blk 4 rfl).cell 6
            have x7 : World.cell? (we) ⟨fb, 7, none⟩ = some _ := (He.out.blk 4 rfl).cell 7
            have x8 : World.cell? (we) ⟨fb, 8, none⟩ = some _ := (He.out.blk 4 rfl).cell 8
            have x9 : World.cell? (we) ⟨fb, 9, none⟩ = some _ := (He.out.blk 4 rfl).cell 9
            have x10 : World.cell? (we) ⟨fb, 10, none⟩ = some _ := (He.out.blk 4 rfl).cell 10
            have z0 : World.cell? (we) ⟨rb, 0, none⟩ = some _ := (He.out.blk 5 rfl).cell 0
            have zf0 : World.frozen? (we) ⟨rb, 0, none⟩ = false := (He.out.blk 5 rfl).frozen 0
            have z1 : World.cell? (we) ⟨rb, 1, none⟩ = some _ := (He.out.blk 5 rfl).cell 1
            have zf1 : World.frozen? (we) ⟨rb, 1, none⟩ = false := (He.out.blk 5 rfl).frozen 1
            have z2 : World.cell? (we) ⟨rb, 2, none⟩ = some _ := (He.out.blk 5 rfl).cell 2
            have zf2 : World.frozen? (we) ⟨rb, 2, none⟩ = false := (He.out.blk 5 rfl).frozen 2
            have z3 : World.cell? (we) ⟨rb, 3, none⟩ = some _ := (He.out.blk 5 rfl).cell 3
            have zf3 : World.frozen? (we) ⟨rb, 3, none⟩ = false := (He.out.blk 5 rfl).frozen 3
            have z4 : World.cell? (we) ⟨rb, 4, none⟩ = some _ := (He.out.blk 5 rfl).cell 4
            have zf4 : World.frozen? (we) ⟨rb, 4, none⟩ = false := (He.out.blk 5 rfl).frozen 4
            have z5 : World.cell? (we) ⟨rb, 5, none⟩ = some _ := (He.out.blk 5 rfl).cell 5
            have zf5 : World.frozen? (we) ⟨rb, 5, none⟩ = false := (He.out.blk 5 rfl).frozen 5
            have z6 : World.cell? (we) ⟨rb, 6, none⟩ = some _ := (He.out.blk 5 rfl).cell 6
            have zf6 : World.frozen? (we) ⟨rb, 6, none⟩ = false := (He.out.blk 5 rfl).frozen 6
            have z7 : World.cell? (we) ⟨rb, 7, none⟩ = some _ := (He.out.blk 5 rfl).cell 7
            have zf7 : World.frozen? (we) ⟨rb, 7, none⟩ = false := (He.out.blk 5 rfl).frozen 7
            have z8 : World.cell? (we) ⟨rb, 8, none⟩ = some _ := (He.out.blk 5 rfl).cell 8
            have zf8 : World.frozen? (we) ⟨rb, 8, none⟩ = false := (He.out.blk 5 rfl).frozen 8
            have z9 : World.cell? (we) ⟨rb, 9, none⟩ = some _ := (He.out.blk 5 rfl).cell 9
            have zf9 : World.frozen? (we) ⟨rb, 9, none⟩ = false := (He.out.blk 5 rfl).frozen 9
            have z10 : World.cell? (we) ⟨rb, 10, none⟩ = some _ := (He.out.blk 5 rfl).cell 10
            have zf10 : World.frozen? (we) ⟨rb, 10, none⟩ = false := (He.out.blk 5 rfl).frozen 10
            have H6 := Hp.Sep.fill He.out 5 rfl [.int .i64 s1.1, .int .i64 s2.1, .int .i64 s3.1, .int .i64 0, .int .i64 0, .int .u64 0, .int .i64 0, .int .i64 0, .slice none 0 0, .int .i64 0, .slice none 0 0] rfl
            have hR := H6.blk 5 rfl
            have hX := hZh.out 0 _ _ _ _ hdf (tokR_of H6) H6.t
            clear H6 hZh hdf He
            go_wp2_with fail
            refine bodyPost_ret (res_list (rs := [.cell 2 41, .tmp 3]) rfl (by simp) (.cell rb _ _ _ rfl hR Try.underlying41 rfl (by kernel_rfl) (.tmp .nil))) rfl ?_
            exact hX
        · have g5 : (dn != 0) = true := by simpa using hd0
          have hdz : decP l = (2, zeroFr) := by rw [dec_eq hdec.out, if_pos (.inl (by rw [hdn]; exact hd0))]
          clear hdn hd0
          go_wp2_with fail
          go_at_call 53
          refine Calls.mono (Dn.out) ?_
          rintro e we ⟨rfl, te⟩
          have He := Lib.hid (Hd.out.turns te)
          clear Dn Hd te
          have z0 : World.cell? (we) ⟨rb, 0, none⟩ = some _ := (He.out.blk 5 rfl).cell 0
          have zf0 : World.frozen? (we) ⟨rb, 0, none⟩ = false := (He.out.blk 5 rfl).frozen 0
          have z1 : World.cell? (we) ⟨rb, 1, none⟩ = some _ := (He.out.blk 5 rfl).cell 1
          have zf1 : World.frozen? (we) ⟨rb, 1, none⟩ = false := (He.out.blk 5 rfl).frozen 1
          have z2 : World.cell? (we) ⟨rb, 2, none⟩ = some _ := (He.out.blk 5 rfl).cell 2
          have zf2 : World.frozen? (we) ⟨rb, 2, none⟩ = false := (He.out.blk 5 rfl).frozen 2
          have z3 : World.cell? (we) ⟨rb, 3, none⟩ = some _ := (He.out.blk 5 rfl).cell 3
          have zf3 : World.frozen? (we) ⟨rb, 3, none⟩ = false := (He.out.blk 5 rfl).frozen 3
          have z4 : World.cell? (we) ⟨rb, 4, none⟩ = some _ := (He.out.blk 5 rfl).cell 4
          have zf4 : World.frozen? (we) ⟨rb, 4, none⟩ = false := (He.out.blk 5 rfl).frozen 4
          have z5 : World.cell? (we) ⟨rb, 5, none⟩ = some _ := (He.out.blk 5 rfl).cell 5
          have zf5 : World.frozen? (we) ⟨rb, 5, none⟩ = false := (He.out.blk 5 rfl).frozen 5
          have z6 : World.cell? (we) ⟨rb, 6, none⟩ = some _ := (He.out.blk 5 rfl).cell 6
          have zf6 : World.frozen? (we) ⟨rb, 6, none⟩ = false := (He.out.blk 5 rfl).frozen 6
          have z7 : World.cell? (we) ⟨rb, 7, none⟩ = some _ := (He.out.blk 5 rfl).cell 7
          have zf7 : World.frozen? (we) ⟨rb, 7, none⟩ = false := (He.out.blk 5 rfl).frozen 7
          have z8 : World.cell? (we) ⟨rb, 8, none⟩ = some _ := (He.out.blk 5 rfl).cell 8
          have zf8 : World.frozen? (we) ⟨rb, 8, none⟩ = false := (He.out.blk 5 rfl).frozen 8
          have z9 : World.cell? (we) ⟨rb, 9, none⟩ = some _ := (He.out.blk 5 rfl).cell 9
          have zf9 : World.frozen? (we) ⟨rb, 9, none⟩ = false := (He.out.blk 5 rfl).frozen 9
          have z10 : World.cell? (we) ⟨rb, 10, none⟩ = some _ := (He.out.blk 5 rfl).cell 10
          have zf10 : World.frozen? (we) ⟨rb, 10, none⟩ = false := (He.out.blk 5 rfl).frozen 10
          have H6 := Hp.Sep.fill He.out 5 rfl [.int .i64 0, .int .i64 0, .int .i64 0, .int .i64 0, .int .i64 0, .int .u64 0, .int .i64 0, .int .i64 0, .slice none 0 0, .int .i64 0, .slice none 0 0] rfl
          have hR := H6.blk 5 rfl
          have hX := hZh.out 2 zeroFr (.slice none 0 0) (.slice none 0 0) _ hdz ⟨RdS.nil 1 _, RT.nil _⟩ H6.t
          clear H6 hZh hdz He
          go_wp2_with fail
          refine bodyPost_ret (res_list (rs := [.cell 2 41, .tmp 3]) rfl (by simp) (.cell rb _ _ _ rfl hR Try.underlying41 rfl (by kernel_rfl) (.tmp .nil))) rfl ?_
          exact hX
end Go.Proofs.Ytohokckpheljbaa.Ni
