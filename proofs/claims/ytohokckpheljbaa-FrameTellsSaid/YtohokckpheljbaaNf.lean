/- frame.Decode. -/
import Derived.Test.YtohokckpheljbaaNe
import Derived.Test.YtohokckpheljbaaFo
set_option linter.unusedVariables false
set_option linter.unusedSimpArgs false
set_option maxRecDepth 100000
namespace Go.Proofs.Ytohokckpheljbaa.Nf
open Go.RowKit Go.MapKept Hm Hs Hr Hb Hf Hg Hv Hx Fa Ff Fg Fi Fj Fq Kw Kn Kr Ks Kt Na Nb Nz Nd Ne_
abbrev zeroF : Array Value := #[.int .i64 0, .int .i64 0, .int .i64 0, .int .i64 0, .int .i64 0, .int .u64 0, .int .i64 0, .int .i64 0, .slice none 0 0, .int .i64 0, .slice none 0 0]
/-- a frame's token, in things of its own -/
abbrev tokT (t : Tok) (sv rv : Value) (X : List Rw) : List Th := [tOwn 3 1 sv (ins t.st), tOwn 86 4 rv (X.map Rw.cells), tOuts X t.rows]
theorem tokR_of {F : List Nat} {w0 w : World} {t : Tok} {sv rv : Value} {X : List Rw} {l : List Th} (H : Sep F w0 (tokT t sv rv X ++ l) w) : TokR w t sv rv :=
  ⟨(H.own 0 rfl).reads, X, (H.own 1 rfl).reads, (H.at_ 2 rfl : (tOuts X t.rows).ok w).1⟩
theorem Sep_tok0 {F : List Nat} {w0 w : World} {l : List Th} (H : Sep F w0 l w) : Sep F w0 (tokT Tok.zero (.slice none 0 0) (.slice none 0 0) [] ++ l) w := (((Sep_outs0 H).nilSlice 86 4).nilSlice 3 1)
theorem rbits_is (w : World) (b : Nat) (own : Option Nat) (s : St) (h : IsRd 126 w b own s) (hm : s.bytes.length ≤ 1000000) :
    Calls Try.prog 48 #[.pointer (some ⟨b, 0, none⟩)] w fun e w' => e = .returned (.int .u64 s.bits.1) ∧ IsRd 126 w' b own s.bits.2 ∧ Turns [b] w w' := Ks.rbits_is w b own s h hm
theorem dec_eq {l : List Int} {f : Fr} {s : St} (h : frP ⟨l, false⟩ = (f, s)) : decP l = if s.done ≠ 0 ∨ rightB f = false then (2, zeroFr) else (0, f) := by unfold decP; rw [h]
theorem tokP_st {s : St} (hb : Byt s.bytes) : (tokP s).1.st.length ≤ 64 := by
  have b2 := num_byt (num_byt hb)
  have := upto_bd b2 64 (by omega)
  show (stP _ _).1.length ≤ 64
  rw [stP_length]
  omega
set_option maxHeartbeats 8000000 in
theorem decode_is (w : World) (v : Value) (l : List Int) (hv : RdS 1 w v (bys l)) (hl : l.length ≤ 1000000) (hb : Byt l) :
    Calls Try.prog 19 #[v] w fun e w' => ∃ sv rv, e = .returned (.tuple #[frv (decP l).2 sv rv, .int .i64 (decP l).1]) ∧ TokR w' (decP l).2.tok sv rv ∧ Turns [] w w' := by
  obtain ⟨Z, hZ⟩ : ∃ Z : Ending → World → Prop, Z = fun e w' => ∃ sv rv, e = .returned (.tuple #[frv (decP l).2 sv rv, .int .i64 (decP l).1]) ∧ TokR w' (decP l).2.tok sv rv ∧ Turns [] w w' := ⟨_, rfl⟩
  rw [← hZ]
  have hZh : Hid (∀ (q : Int) (f : Fr) sv rv w', decP l = (q, f) → TokR w' f.tok sv rv → Turns [] w w' → Z (.returned (.tuple #[.agg (frc f sv rv), .int .i64 q])) w') := Lib.hid (fun q f sv rv w' h1 h2 h3 => by rw [hZ, h1]; exact ⟨sv, rv, rfl, h2, h3⟩)
  have hv0 := hv.mv (w' := w.alloc (.cells zeroF 41)) (fun a u => ((Turns.refl [] w).alloc (.cells zeroF 41)).old)
  have Rd := Lib.hid (read_is _ v l hv0 hl hb)
  have H0 := Lib.hid ((Sep.start w).alloc zeroF 41)
  obtain ⟨A, c, rfl, _⟩ := hv.form
  rw [bys_len] at Rd ⊢
  obtain ⟨s1, h1⟩ : ∃ s1, numP ⟨l, false⟩ = s1 := ⟨_, rfl⟩
  obtain ⟨s2, h2⟩ : ∃ s2, numP s1.2 = s2 := ⟨_, rfl⟩
  obtain ⟨s3, h3⟩ : ∃ s3, numP s2.2 = s3 := ⟨_, rfl⟩
  have l1 := num_len ⟨l, false⟩
  have l2 := num_len s1.2
  have l3 := num_len s2.2
  have b1 := num_byt (s := ⟨l, false⟩) hb
  rw [h1] at l1 b1
  have b2 := num_byt b1
  rw [h2] at l2 b2
  have b3 := num_byt b2
  rw [h3] at l3 b3
  simp only at l1
  have hfr : Hid (frP ⟨l, false⟩ = if s1.1 = 0 then (⟨s1.1, s2.1, s3.1, 0, 0, 0, (tokP s3.2).1⟩, (tokP s3.2).2)
    else if s1.1 = 1 then (⟨s1.1, s2.1, s3.1, (numP s3.2).1, (numP (numP s3.2).2).1, 0, Tok.zero⟩, (numP (numP s3.2).2).2)
    else if s1.1 = 2 then (⟨s1.1, s2.1, s3.1, (numP s3.2).1, 0, (numP s3.2).2.bits.1, Tok.zero⟩, (numP s3.2).2.bits.2)
    else (⟨s1.1, s2.1, s3.1, 0, 0, 0, Tok.zero⟩, s3.2)) := Lib.hid (by unfold frP; simp only [h1, h2, h3])
  have C1 := Lib.hid (fun W b own (h : IsRd 126 W b own ⟨l, false⟩) => rnum_is W b own ⟨l, false⟩ h hl)
  have C2 := Lib.hid (fun W b own (h : IsRd 126 W b own s1.2) => rnum_is W b own s1.2 h (by omega))
  have C3 := Lib.hid (fun W b own (h : IsRd 126 W b own s2.2) => rnum_is W b own s2.2 h (by omega))
  have hl3 : s3.2.bytes.length ≤ 1000000 := by omega
  rw [h1] at C1
  rw [h2] at C2
  rw [h3] at C3
  have b3h := Lib.hid b3
  have hl3h := Lib.hid hl3
  clear hZ hv hv0 hl hb h1 h2 h3 l1 l2 l3 b1 b2 b3 hl3
  go_enter Try.func19, Try.ntmps19
  go_wp2_with fail
  go_at_call 45
  refine Calls.mono (Rd.out) ?_
  rintro e w1 ⟨b, own, rfl, r1, t1, hb1, ho1⟩
  have H1 := Lib.hid (H0.out.fresh t1 (tRd 126 b own ⟨l, false⟩) r1 (fun k hk => by
    rcases List.mem_cons.1 (show k ∈ b :: own.toList from hk) with rfl | hk
    · exact hb1
    · exact ho1 k (by simpa using hk)))
  clear Rd H0 r1 t1 hb1 ho1
  go_wp2_with fail
  go_at_call 46
  refine Calls.mono (C1.out _ b own (Sep_isRd H1.out 0 rfl)) ?_
  rintro e w2 ⟨rfl, r2, t2⟩
  have H2 := Lib.hid (Sep_rd H1.out 0 rfl r2 t2)
  clear C1 H1 r2 t2
  go_wp2_with fail
  go_at_call 46
  refine Calls.mono (C2.out _ b own (Sep_isRd H2.out 0 rfl)) ?_
  rintro e w3 ⟨rfl, r3, t3⟩
  have H3 := Lib.hid (Sep_rd H2.out 0 rfl r3 t3)
  clear C2 H2 r3 t3
  go_wp2_with fail
  go_at_call 46
  refine Calls.mono (C3.out _ b own (Sep_isRd H3.out 0 rfl)) ?_
  rintro e w4 ⟨rfl, r4, t4⟩
  have H4 := Sep_rd H3.out 0 rfl r4 t4
  have H5 := Lib.hid (H4.alloc #[.int .i64 s1.1, .int .i64 s2.1, .int .i64 s3.1, .int .i64 0, .int .i64 0, .int .u64 0, .int .i64 0, .int .i64 0, .slice none 0 0, .int .i64 0, .slice none 0 0] 41)
  clear C3 H3 r4 t4 H4
  go_upto_region 3 with fail
  generalize w4.alloc (.cells #[.int .i64 s1.1, .int .i64 s2.1, .int .i64 s3.1, .int .i64 0, .int .i64 0, .int .u64 0, .int .i64 0, .int .i64 0, .slice none 0 0, .int .i64 0, .slice none 0 0] 41) = w5 at *
  generalize w4.heap.size = fb at *
  generalize w.heap.size = rb at *
  have k0 : World.cell? (w5) ⟨fb, 0, none⟩ = some _ := (H5.out.blk 0 rfl).cell 0
  by_cases e0 : s1.1 = 0
  · have g0 : (s1.1 == 0) = true := by simpa using e0
    have hdec : Hid (frP ⟨l, false⟩ = ((⟨s1.1, s2.1, s3.1, 0, 0, 0, (tokP s3.2).1⟩ : Fr), (tokP s3.2).2)) := Lib.hid (by rw [hfr.out, if_pos e0])
    have hstl : Hid ((⟨s1.1, s2.1, s3.1, 0, 0, 0, (tokP s3.2).1⟩ : Fr).tok.st.length ≤ 100000) := Lib.hid (by have := tokP_st b3h.out; simp only; omega)
    have Tk := Lib.hid (readToken_is w5 b own s3.2 (Sep_isRd H5.out 1 rfl) hl3h.out)
    generalize (tokP s3.2).1 = tk at *
    generalize (tokP s3.2).2 = sf at *
    unfold tkv at Tk
    clear e0 hfr
    go_wp2_with fail
    go_at_call 47
    refine Calls.mono (Tk.out) ?_
    rintro e w6 ⟨sv, rv, X, rfl, h6⟩
    have H6 := H5.out.call1 1 rfl h6
    obtain ⟨n7, A7, c7, hsv⟩ : ∃ n A c, sv = Value.slice A n c := by obtain ⟨A, c, h, _⟩ := (H6.own 0 rfl).form; exact ⟨_, A, c, h⟩
    obtain ⟨n8, A8, c8, hrv⟩ : ∃ n A c, rv = Value.slice A n c := by obtain ⟨A, c, h, _⟩ := (H6.own 1 rfl).form; exact ⟨_, A, c, h⟩
    subst hsv hrv
    have y6 : World.cell? (w6) ⟨fb, 6, none⟩ = some _ := (H6.blk 4 rfl).cell 6
    have yf6 : World.frozen? (w6) ⟨fb, 6, none⟩ = false := (H6.blk 4 rfl).frozen 6
    have y7 : World.cell? (w6) ⟨fb, 7, none⟩ = some _ := (H6.blk 4 rfl).cell 7
    have yf7 : World.frozen? (w6) ⟨fb, 7, none⟩ = false := (H6.blk 4 rfl).frozen 7
    have y8 : World.cell? (w6) ⟨fb, 8, none⟩ = some _ := (H6.blk 4 rfl).cell 8
    have yf8 : World.frozen? (w6) ⟨fb, 8, none⟩ = false := (H6.blk 4 rfl).frozen 8
    have y9 : World.cell? (w6) ⟨fb, 9, none⟩ = some _ := (H6.blk 4 rfl).cell 9
    have yf9 : World.frozen? (w6) ⟨fb, 9, none⟩ = false := (H6.blk 4 rfl).frozen 9
    have y10 : World.cell? (w6) ⟨fb, 10, none⟩ = some _ := (H6.blk 4 rfl).cell 10
    have yf10 : World.frozen? (w6) ⟨fb, 10, none⟩ = false := (H6.blk 4 rfl).frozen 10
    have H := Lib.hid (((((H6.set 4 rfl 6 (.int .i64 tk.gen)).set 4 rfl 7 (.int .i64 tk.hop)).set 4 rfl 8 (.slice A7 n7 c7)).set 4 rfl 9 (.int .i64 tk.start)).set 4 rfl 10 (.slice A8 n8 c8))
    clear k0 Tk h6 H6 H5
    go_upto_region 10 with fail
    generalize ((((w6.setCell ⟨fb, 6, none⟩ (.int .i64 tk.gen)).setCell ⟨fb, 7, none⟩ (.int .i64 tk.hop)).setCell ⟨fb, 8, none⟩ (.slice A7 n7 c7)).setCell ⟨fb, 9, none⟩ (.int .i64 tk.start)).setCell ⟨fb, 10, none⟩ (.slice A8 n8 c8) = w7 at *
    clear y6 y7 y8 y9 y10 yf6 yf7 yf8 yf9 yf10
    have H : Hid (Sep [] w (tokT tk (.slice A7 n7 c7) (.slice A8 n8 c8) X ++ [tRd 126 b own sf, tBlk fb #[.int .i64 s1.1, .int .i64 s2.1, .int .i64 s3.1, .int .i64 0, .int .i64 0, .int .u64 0, .int .i64 tk.gen, .int .i64 tk.hop, .slice A7 n7 c7, .int .i64 tk.start, .slice A8 n8 c8] 41, tBlk rb zeroF 41]) w7) := H
    have Dn := Lib.hid (rdone_is _ b own (sf) (Sep_isRd H.out 3 rfl))
    obtain ⟨dn, hdn⟩ : ∃ d, St.done (sf) = d := ⟨_, rfl⟩
    rw [hdn] at Dn
    by_cases hd0 : dn = 0
    · subst hd0
      go_wp2_with fail
      go_at_call 49
      refine Calls.mono (Dn.out) ?_
      rintro e wd ⟨rfl, td⟩
      have Hd := Lib.hid (H.out.turns td)
      have R := Fo.right_is _ ((⟨s1.1, s2.1, s3.1, 0, 0, 0, tk⟩ : Fr)) _ _ (tokR_of Hd.out) hstl.out
      unfold frv at R
      simp only at R
      have x0 : World.cell? (wd) ⟨fb, 0, none⟩ = some _ := (Hd.out.blk 4 rfl).cell 0
      have x1 : World.cell? (wd) ⟨fb, 1, none⟩ = some _ := (Hd.out.blk 4 rfl).cell 1
      have x2 : World.cell? (wd) ⟨fb, 2, none⟩ = some _ := (Hd.out.blk 4 rfl).cell 2
      have x3 : World.cell? (wd) ⟨fb, 3, none⟩ = some _ := (Hd.out.blk 4 rfl).cell 3
      have x4 : World.cell? (wd) ⟨fb, 4, none⟩ = some _ := (Hd.out.blk 4 rfl).cell 4
      have x5 : World.cell? (wd) ⟨fb, 5, none⟩ = some _ := (Hd.out.blk 4 rfl).cell 5
      have x6 : World.cell? (wd) ⟨fb, 6, none⟩ = some _ := (Hd.out.blk 4 rfl).cell 6
      have x7 : World.cell? (wd) ⟨fb, 7, none⟩ = some _ := (Hd.out.blk 4 rfl).cell 7
      have x8 : World.cell? (wd) ⟨fb, 8, none⟩ = some _ := (Hd.out.blk 4 rfl).cell 8
      have x9 : World.cell? (wd) ⟨fb, 9, none⟩ = some _ := (Hd.out.blk 4 rfl).cell 9
      have x10 : World.cell? (wd) ⟨fb, 10, none⟩ = some _ := (Hd.out.blk 4 rfl).cell 10
      cases hr : rightB ((⟨s1.1, s2.1, s3.1, 0, 0, 0, tk⟩ : Fr)) with
      | false =>
        have hdz : decP l = (2, zeroFr) := by rw [dec_eq hdec.out, if_pos (.inr hr)]
        rw [hr] at R
        have Rh := Lib.hid R
        clear hr R hdn Dn H td
        go_wp2_with fail
        go_at_call 23
        refine Calls.mono (Rh.out) ?_
        rintro e we ⟨rfl, te⟩
        have He := Lib.hid (Hd.out.turns te)
        clear x0 x1 x2 x3 x4 x5 x6 x7 x8 x9 x10 Rh Hd te
        have z0 : World.cell? (we) ⟨rb, 0, none⟩ = some _ := (He.out.blk 5 rfl).cell 0
        have zf0 : World.frozen? (we) ⟨rb, 0, none⟩ = false := (He.out.blk 5 rfl).frozen 0
        have z1 : World.cell? (we) ⟨rb, 1, none⟩ = some _ := (He.out.blk 5 rfl).cell 1
        have zf1 : World.frozen? (we) ⟨rb, 1, none⟩ = false := (He.out.blk 5 rfl).frozen 1
        have z2 : World.cell? (we) ⟨rb, 2, none⟩ = some _ := (He.out.blk 5 rfl).cell 2
        have zf2 : World.frozen? (we) ⟨rb, 2, none⟩ = false := (He.out.blk 5 rfl).frozen 2
        have z3 : World.cell? (we) ⟨rb, 3, none⟩ = some _ := (He.out.blk 5 rfl).cell 3
        have zf3 : World.frozen? (we) ⟨rb, 3, none⟩ = false := (He.out.blk 5 rfl).frozen 3
        have z4 : World.cell? (we) ⟨rb, 4, none⟩ = some _ := (He.out.blk 5 rfl).cell 4
        have zf4 : World.frozen? (we) ⟨rb, 4, none⟩ = false := (He.out.blk 5 rfl).frozen 4
        have z5 : World.cell? (we) ⟨rb, 5, none⟩ = some _ := (He.out.blk 5 rfl).cell 5
        have zf5 : World.frozen? (we) ⟨rb, 5, none⟩ = false := (He.out.blk 5 rfl).frozen 5
        have z6 : World.cell? (we) ⟨rb, 6, none⟩ = some _ := (He.out.blk 5 rfl).cell 6
        have zf6 : World.frozen? (we) ⟨rb, 6, none⟩ = false := (He.out.blk 5 rfl).frozen 6
        have z7 : World.cell? (we) ⟨rb, 7, none⟩ = some _ := (He.out.blk 5 rfl).cell 7
        have zf7 : World.frozen? (we) ⟨rb, 7, none⟩ = false := (He.out.blk 5 rfl).frozen 7
        have z8 : World.cell? (we) ⟨rb, 8, none⟩ = some _ := (He.out.blk 5 rfl).cell 8
        have zf8 : World.frozen? (we) ⟨rb, 8, none⟩ = false := (He.out.blk 5 rfl).frozen 8
        have z9 : World.cell? (we) ⟨rb, 9, none⟩ = some _ := (He.out.blk 5 rfl).cell 9
        have zf9 : World.frozen? (we) ⟨rb, 9, none⟩ = false := (He.out.blk 5 rfl).frozen 9
        have z10 : World.cell? (we) ⟨rb, 10, none⟩ = some _ := (He.out.blk 5 rfl).cell 10
        have zf10 : World.frozen? (we) ⟨rb, 10, none⟩ = false := (He.out.blk 5 rfl).frozen 10
        have H6 := Hp.Sep.fill He.out 5 rfl [.int .i64 0, .int .i64 0, .int .i64 0, .int .i64 0, .int .i64 0, .int .u64 0, .int .i64 0, .int .i64 0, .slice none 0 0, .int .i64 0, .slice none 0 0] rfl
        have hR := H6.blk 5 rfl
        have hX := hZh.out 2 zeroFr (.slice none 0 0) (.slice none 0 0) _ hdz ⟨RdS.nil 1 _, RT.nil _⟩ H6.t
        clear H6 hZh hdz He
        go_wp2_with fail
        refine bodyPost_ret (res_list (rs := [.cell 2 41, .tmp 3]) rfl (by simp) (.cell rb _ _ _ rfl hR Try.underlying41 rfl (by kernel_rfl) (.tmp .nil))) rfl ?_
        exact hX
      | true =>
        have hdf : decP l = (0, (⟨s1.1, s2.1, s3.1, 0, 0, 0, tk⟩ : Fr)) := by rw [dec_eq hdec.out, if_neg (by rw [hdn, hr]; simp)]
        rw [hr] at R
        have Rh := Lib.hid R
        clear hr R hdn Dn H td
        go_wp2_with fail
        go_at_call 23
        refine Calls.mono (Rh.out) ?_
        rintro e we ⟨rfl, te⟩
        have He := Lib.hid (Hd.out.turns te)
        clear x0 x1 x2 x3 x4 x5 x6 x7 x8 x9 x10 Rh Hd te
        have x0 : World.cell? (we) ⟨fb, 0, none⟩ = some _ := (He.out.blk 4 rfl).cell 0
        have x1 : World.cell? (we) ⟨fb, 1, none⟩ = some _ := (He.out.blk 4 rfl).cell 1
        have x2 : World.cell? (we) ⟨fb, 2, none⟩ = some _ := (He.out.blk 4 rfl).cell 2
        have x3 : World.cell? (we) ⟨fb, 3, none⟩ = some _ := (He.out.blk 4 rfl).cell 3
        have x4 : World.cell? (we) ⟨fb, 4, none⟩ = some _ := (He.out.blk 4 rfl).cell 4
        have x5 : World.cell? (we) ⟨fb, 5, none⟩ = some _ := (He.out.blk 4 rfl).cell 5
        have x6 : World.cell? (we) ⟨fb, 6, none⟩ = some _ := (He.out.blk 4 rfl).cell 6
        have x7 : World.cell? (we) ⟨fb, 7, none⟩ = some _ := (He.out.blk 4 rfl).cell 7
        have x8 : World.cell? (we) ⟨fb, 8, none⟩ = some _ := (He.out.blk 4 rfl).cell 8
        have x9 : World.cell? (we) ⟨fb, 9, none⟩ = some _ := (He.out.blk 4 rfl).cell 9
        have x10 : World.cell? (we) ⟨fb, 10, none⟩ = some _ := (He.out.blk 4 rfl).cell 10
        have z0 : World.cell? (we) ⟨rb, 0, none⟩ = some _ := (He.out.blk 5 rfl).cell 0
        have zf0 : World.frozen? (we) ⟨rb, 0, none⟩ = false := (He.out.blk 5 rfl).frozen 0
        have z1 : World.cell? (we) ⟨rb, 1, none⟩ = some _ := (He.out.blk 5 rfl).cell 1
        have zf1 : World.frozen? (we) ⟨rb, 1, none⟩ = false := (He.out.blk 5 rfl).frozen 1
        have z2 : World.cell? (we) ⟨rb, 2, none⟩ = some _ := (He.out.blk 5 rfl).cell 2
        have zf2 : World.frozen? (we) ⟨rb, 2, none⟩ = false := (He.out.blk 5 rfl).frozen 2
        have z3 : World.cell? (we) ⟨rb, 3, none⟩ = some _ := (He.out.blk 5 rfl).cell 3
        have zf3 : World.frozen? (we) ⟨rb, 3, none⟩ = false := (He.out.blk 5 rfl).frozen 3
        have z4 : World.cell? (we) ⟨rb, 4, none⟩ = some _ := (He.out.blk 5 rfl).cell 4
        have zf4 : World.frozen? (we) ⟨rb, 4, none⟩ = false := (He.out.blk 5 rfl).frozen 4
        have z5 : World.cell? (we) ⟨rb, 5, none⟩ = some _ := (He.out.blk 5 rfl).cell 5
        have zf5 : World.frozen? (we) ⟨rb, 5, none⟩ = false := (He.out.blk 5 rfl).frozen 5
        have z6 : World.cell? (we) ⟨rb, 6, none⟩ = some _ := (He.out.blk 5 rfl).cell 6
        have zf6 : World.frozen? (we) ⟨rb, 6, none⟩ = false := (He.out.blk 5 rfl).frozen 6
        have z7 : World.cell? (we) ⟨rb, 7, none⟩ = some _ := (He.out.blk 5 rfl).cell 7
        have zf7 : World.frozen? (we) ⟨rb, 7, none⟩ = false := (He.out.blk 5 rfl).frozen 7
        have z8 : World.cell? (we) ⟨rb, 8, none⟩ = some _ := (He.out.blk 5 rfl).cell 8
        have zf8 : World.frozen? (we) ⟨rb, 8, none⟩ = false := (He.out.blk 5 rfl).frozen 8
        have z9 : World.cell? (we) ⟨rb, 9, none⟩ = some _ := (He.out.blk 5 rfl).cell 9
        have zf9 : World.frozen? (we) ⟨rb, 9, none⟩ = false := (He.out.blk 5 rfl).frozen 9
        have z10 : World.cell? (we) ⟨rb, 10, none⟩ = some _ := (He.out.blk 5 rfl).cell 10
        have zf10 : World.frozen? (we) ⟨rb, 10, none⟩ = false := (He.out.blk 5 rfl).frozen 10
        have H6 := Hp.Sep.fill He.out 5 rfl [.int .i64 s1.1, .int .i64 s2.1, .int .i64 s3.1, .int .i64 0, .int .i64 0, .int .u64 0, .int .i64 tk.gen, .int .i64 tk.hop, .slice A7 n7 c7, .int .i64 tk.start, .slice A8 n8 c8] rfl
        have hR := H6.blk 5 rfl
        have hX := hZh.out 0 _ _ _ _ hdf (tokR_of H6) H6.t
        clear H6 hZh hdf He
        go_wp2_with fail
        refine bodyPost_ret (res_list (rs := [.cell 2 41, .tmp 3]) rfl (by simp) (.cell rb _ _ _ rfl hR Try.underlying41 rfl (by kernel_rfl) (.tmp .nil))) rfl ?_
        exact hX
    · have g5 : (dn != 0) = true := by simpa using hd0
      have hdz : decP l = (2, zeroFr) := by rw [dec_eq hdec.out, if_pos (.inl (by rw [hdn]; exact hd0))]
      clear hdn hd0
      go_wp2_with fail
      go_at_call 49
      refine Calls.mono (Dn.out) ?_
      rintro e wd ⟨rfl, td⟩
      have Hd := Lib.hid (H.out.turns td)
      clear Dn H td
      have z0 : World.cell? (wd) ⟨rb, 0, none⟩ = some _ := (Hd.out.blk 5 rfl).cell 0
      have zf0 : World.frozen? (wd) ⟨rb, 0, none⟩ = false := (Hd.out.blk 5 rfl).frozen 0
      have z1 : World.cell? (wd) ⟨rb, 1, none⟩ = some _ := (Hd.out.blk 5 rfl).cell 1
      have zf1 : World.frozen? (wd) ⟨rb, 1, none⟩ = false := (Hd.out.blk 5 rfl).frozen 1
      have z2 : World.cell? (wd) ⟨rb, 2, none⟩ = some _ := (Hd.out.blk 5 rfl).cell 2
      have zf2 : World.frozen? (wd) ⟨rb, 2, none⟩ = false := (Hd.out.blk 5 rfl).frozen 2
      have z3 : World.cell? (wd) ⟨rb, 3, none⟩ = some _ := (Hd.out.blk 5 rfl).cell 3
      have zf3 : World.frozen? (wd) ⟨rb, 3, none⟩ = false := (Hd.out.blk 5 rfl).frozen 3
      have z4 : World.cell? (wd) ⟨rb, 4, none⟩ = some _ := (Hd.out.blk 5 rfl).cell 4
      have zf4 : World.frozen? (wd) ⟨rb, 4, none⟩ = false := (Hd.out.blk 5 rfl).frozen 4
      have z5 : World.cell? (wd) ⟨rb, 5, none⟩ = some _ := (Hd.out.blk 5 rfl).cell 5
      have zf5 : World.frozen? (wd) ⟨rb, 5, none⟩ = false := (Hd.out.blk 5 rfl).frozen 5
      have z6 : World.cell? (wd) ⟨rb, 6, none⟩ = some _ := (Hd.out.blk 5 rfl).cell 6
      have zf6 : World.frozen? (wd) ⟨rb, 6, none⟩ = false := (Hd.out.blk 5 rfl).frozen 6
      have z7 : World.cell? (wd) ⟨rb, 7, none⟩ = some _ := (Hd.out.blk 5 rfl).cell 7
      have zf7 : World.frozen? (wd) ⟨rb, 7, none⟩ = false := (Hd.out.blk 5 rfl).frozen 7
      have z8 : World.cell? (wd) ⟨rb, 8, none⟩ = some _ := (Hd.out.blk 5 rfl).cell 8
      have zf8 : World.frozen? (wd) ⟨rb, 8, none⟩ = false := (Hd.out.blk 5 rfl).frozen 8
      have z9 : World.cell? (wd) ⟨rb, 9, none⟩ = some _ := (Hd.out.blk 5 rfl).cell 9
      have zf9 : World.frozen? (wd) ⟨rb, 9, none⟩ = false := (Hd.out.blk 5 rfl).frozen 9
      have z10 : World.cell? (wd) ⟨rb, 10, none⟩ = some _ := (Hd.out.blk 5 rfl).cell 10
      have zf10 : World.frozen? (wd) ⟨rb, 10, none⟩ = false := (Hd.out.blk 5 rfl).frozen 10
      have H6 := Hp.Sep.fill Hd.out 5 rfl [.int .i64 0, .int .i64 0, .int .i64 0, .int .i64 0, .int .i64 0, .int .u64 0, .int .i64 0, .int .i64 0, .slice none 0 0, .int .i64 0, .slice none 0 0] rfl
      have hR := H6.blk 5 rfl
      have hX := hZh.out 2 zeroFr (.slice none 0 0) (.slice none 0 0) _ hdz ⟨RdS.nil 1 _, RT.nil _⟩ H6.t
      clear H6 hZh hdz Hd
      go_wp2_with fail
      refine bodyPost_ret (res_list (rs := [.cell 2 41, .tmp 3]) rfl (by simp) (.cell rb _ _ _ rfl hR Try.underlying41 rfl (by kernel_rfl) (.tmp .nil))) rfl ?_
      exact hX
  · have g0 : (s1.1 == 0) = false := by simpa using e0
    have hstz : ∀ f : Fr, f.tok = Tok.zero → f.tok.st.length ≤ 100000 := fun f hf => by rw [hf]; simp [Tok.zero]
    by_cases e1 : s1.1 = 1
    · have g1 : (s1.1 == 1) = true := by simpa using e1
      obtain ⟨a1, ha1⟩ : ∃ a, numP s3.2 = a := ⟨_, rfl⟩
      obtain ⟨a2, ha2⟩ : ∃ a, numP a1.2 = a := ⟨_, rfl⟩
      have hdec : Hid (frP ⟨l, false⟩ = ((⟨s1.1, s2.1, s3.1, a1.1, a2.1, 0, Tok.zero⟩ : Fr), a2.2)) := Lib.hid (by rw [hfr.out, if_neg e0, if_pos e1, ha1, ha2])
      have hstl := Lib.hid (hstz ⟨s1.1, s2.1, s3.1, a1.1, a2.1, 0, Tok.zero⟩ rfl)
      have k1 := num_len s3.2
      have hl3' := hl3h.out
      rw [ha1] at k1
      have D1 := Lib.hid (rnum_is w5 b own s3.2 (Sep_isRd H5.out 1 rfl) hl3h.out)
      have D2 := Lib.hid (fun W (h : IsRd 126 W b own a1.2) => rnum_is W b own a1.2 h (by omega))
      rw [ha1] at D1
      rw [ha2] at D2
      clear e0 e1 hfr ha1 ha2 k1 hl3' hstz
      go_wp2_with fail
      go_at_call 46
      refine Calls.mono (D1.out) ?_
      rintro e w6 ⟨rfl, r6, t6⟩
      have H6 := Lib.hid (Sep_rd H5.out 1 rfl r6 t6)
      clear D1 H5 r6 t6 k0
      go_wp2_with fail
      go_at_call 46
      refine Calls.mono (D2.out _ (Sep_isRd H6.out 1 rfl)) ?_
      rintro e w7 ⟨rfl, r7, t7⟩
      have H7 := Sep_rd H6.out 1 rfl r7 t7
      have y3 : World.cell? (w7) ⟨fb, 3, none⟩ = some _ := (H7.blk 0 rfl).cell 3
      have yf3 : World.frozen? (w7) ⟨fb, 3, none⟩ = false := (H7.blk 0 rfl).frozen 3
      have y4 : World.cell? (w7) ⟨fb, 4, none⟩ = some _ := (H7.blk 0 rfl).cell 4
      have yf4 : World.frozen? (w7) ⟨fb, 4, none⟩ = false := (H7.blk 0 rfl).frozen 4
      have H8 := (Sep_tok0 ((H7.set 0 rfl 3 (.int .i64 a1.1)).set 0 rfl 4 (.int .i64 a2.1))).keep [0, 1, 2, 4, 3, 5]
      have H : Hid (Sep [] w (tokT Tok.zero (.slice none 0 0) (.slice none 0 0) [] ++ [tRd 126 b own a2.2, tBlk fb #[.int .i64 s1.1, .int .i64 s2.1, .int .i64 s3.1, .int .i64 a1.1, .int .i64 a2.1, .int .u64 0, .int .i64 0, .int .i64 0, .slice none 0 0, .int .i64 0, .slice none 0 0] 41, tBlk rb zeroF 41]) _) := Lib.hid H8
      clear D2 H6 r7 t7 H7 H8
      go_upto_region 10 with fail
      generalize (w7.setCell ⟨fb, 3, none⟩ (.int .i64 a1.1)).setCell ⟨fb, 4, none⟩ (.int .i64 a2.1) = w8 at *
      clear y3 y4 yf3 yf4
      have Dn := Lib.hid (rdone_is _ b own (a2.2) (Sep_isRd H.out 3 rfl))
      obtain ⟨dn, hdn⟩ : ∃ d, St.done (a2.2) = d := ⟨_, rfl⟩
      rw [hdn] at Dn
      by_cases hd0 : dn = 0
      · subst hd0
        go_wp2_with fail
        go_at_call 49
        refine Calls.mono (Dn.out) ?_
        rintro e wd ⟨rfl, td⟩
        have Hd := Lib.hid (H.out.turns td)
        have R := Fo.right_is _ ((⟨s1.1, s2.1, s3.1, a1.1, a2.1, 0, Tok.zero⟩ : Fr)) _ _ (tokR_of Hd.out) hstl.out
        unfold frv at R
        simp only at R
        have x0 : World.cell? (wd) ⟨fb, 0, none⟩ = some _ := (Hd.out.blk 4 rfl).cell 0
        have x1 : World.cell? (wd) ⟨fb, 1, none⟩ = some _ := (Hd.out.blk 4 rfl).cell 1
        have x2 : World.cell? (wd) ⟨fb, 2, none⟩ = some _ := (Hd.out.blk 4 rfl).cell 2
        have x3 : World.cell? (wd) ⟨fb, 3, none⟩ = some _ := (Hd.out.blk 4 rfl).cell 3
        have x4 : World.cell? (wd) ⟨fb, 4, none⟩ = some _ := (Hd.out.blk 4 rfl).cell 4
        have x5 : World.cell? (wd) ⟨fb, 5, none⟩ = some _ := (Hd.out.blk 4 rfl).cell 5
        have x6 : World.cell? (wd) ⟨fb, 6, none⟩ = some _ := (Hd.out.blk 4 rfl).cell 6
        have x7 : World.cell? (wd) ⟨fb, 7, none⟩ = some _ := (Hd.out.blk 4 rfl).cell 7
        have x8 : World.cell? (wd) ⟨fb, 8, none⟩ = some _ := (Hd.out.blk 4 rfl).cell 8
        have x9 : World.cell? (wd) ⟨fb, 9, none⟩ = some _ := (Hd.out.blk 4 rfl).cell 9
        have x10 : World.cell? (wd) ⟨fb, 10, none⟩ = some _ := (Hd.out.blk 4 rfl).cell 10
        cases hr : rightB ((⟨s1.1, s2.1, s3.1, a1.1, a2.1, 0, Tok.zero⟩ : Fr)) with
        | false =>
          have hdz : decP l = (2, zeroFr) := by rw [dec_eq hdec.out, if_pos (.inr hr)]
          rw [hr] at R
          have Rh := Lib.hid R
          clear hr R hdn Dn H td
          go_wp2_with fail
          go_at_call 23
          refine Calls.mono (Rh.out) ?_
          rintro e we ⟨rfl, te⟩
          have He := Lib.hid (Hd.out.turns te)
          clear x0 x1 x2 x3 x4 x5 x6 x7 x8 x9 x10 Rh Hd te
          have z0 : World.cell? (we) ⟨rb, 0, none⟩ = some _ := (He.out.blk 5 rfl).cell 0
          have zf0 : World.frozen? (we) ⟨rb, 0, none⟩ = false := (He.out.blk 5 rfl).frozen 0
          have z1 : World.cell? (we) ⟨rb, 1, none⟩ = some _ := (He.out.blk 5 rfl).cell 1
          have zf1 : World.frozen? (we) ⟨rb, 1, none⟩ = false := (He.out.blk 5 rfl).frozen 1
          have z2 : World.cell? (we) ⟨rb, 2, none⟩ = some _ := (He.out.blk 5 rfl).cell 2
          have zf2 : World.frozen? (we) ⟨rb, 2, none⟩ = false := (He.out.blk 5 rfl).frozen 2
          have z3 : World.cell? (we) ⟨rb, 3, none⟩ = some _ := (He.out.blk 5 rfl).cell 3
          have zf3 : World.frozen? (we) ⟨rb, 3, none⟩ = false := (He.out.blk 5 rfl).frozen 3
          have z4 : World.cell? (we) ⟨rb, 4, none⟩ = some _ := (He.out.blk 5 rfl).cell 4
          have zf4 : World.frozen? (we) ⟨rb, 4, none⟩ = false := (He.out.blk 5 rfl).frozen 4
          have z5 : World.cell? (we) ⟨rb, 5, none⟩ = some _ := (He.out.blk 5 rfl).cell 5
          have zf5 : World.frozen? (we) ⟨rb, 5, none⟩ = false := (He.out.blk 5 rfl).frozen 5
          have z6 : World.cell? (we) ⟨rb, 6, none⟩ = some _ := (He.out.blk 5 rfl).cell 6
          have zf6 : World.frozen? (we) ⟨rb, 6, none⟩ = false := (He.out.blk 5 rfl).frozen 6
          have z7 : World.cell? (we) ⟨rb, 7, none⟩ = some _ := (He.out.blk 5 rfl).cell 7
          have zf7 : World.frozen? (we) ⟨rb, 7, none⟩ = false := (He.out.blk 5 rfl).frozen 7
          have z8 : World.cell? (we) ⟨rb, 8, none⟩ = some _ := (He.out.blk 5 rfl).cell 8
          have zf8 : World.frozen? (we) ⟨rb, 8, none⟩ = false := (He.out.blk 5 rfl).frozen 8
          have z9 : World.cell? (we) ⟨rb, 9, none⟩ = some _ := (He.out.blk 5 rfl).cell 9
          have zf9 : World.frozen? (we) ⟨rb, 9, none⟩ = false := (He.out.blk 5 rfl).frozen 9
          have z10 : World.cell? (we) ⟨rb, 10, none⟩ = some _ := (He.out.blk 5 rfl).cell 10
          have zf10 : World.frozen? (we) ⟨rb, 10, none⟩ = false := (He.out.blk 5 rfl).frozen 10
          have H6 := Hp.Sep.fill He.out 5 rfl [.int .i64 0, .int .i64 0, .int .i64 0, .int .i64 0, .int .i64 0, .int .u64 0, .int .i64 0, .int .i64 0, .slice none 0 0, .int .i64 0, .slice none 0 0] rfl
          have hR := H6.blk 5 rfl
          have hX := hZh.out 2 zeroFr (.slice none 0 0) (.slice none 0 0) _ hdz ⟨RdS.nil 1 _, RT.nil _⟩ H6.t
          clear H6 hZh hdz He
          go_wp2_with fail
          refine bodyPost_ret (res_list (rs := [.cell 2 41, .tmp 3]) rfl (by simp) (.cell rb _ _ _ rfl hR Try.underlying41 rfl (by kernel_rfl) (.tmp .nil))) rfl ?_
          exact hX
        | true =>
          have hdf : decP l = (0, (⟨s1.1, s2.1, s3.1, a1.1, a2.1, 0, Tok.zero⟩ : Fr)) := by rw [dec_eq hdec.out, if_neg (by rw [hdn, hr]; simp)]
          rw [hr] at R
          have Rh := Lib.hid R
          clear hr R hdn Dn H td
          go_wp2_with fail
          go_at_call 23
          refine Calls.mono (Rh.out) ?_
          rintro e we ⟨rfl, te⟩
          have He := Lib.hid (Hd.out.turns te)
          clear x0 x1 x2 x3 x4 x5 x6 x7 x8 x9 x10 Rh Hd te
          have x0 : World.cell? (we) ⟨fb, 0, none⟩ = some _ := (He.out.blk 4 rfl).cell 0
          have x1 : World.cell? (we) ⟨fb, 1, none⟩ = some _ := (He.out.blk 4 rfl).cell 1
          have x2 : World.cell? (we) ⟨fb, 2, none⟩ = some _ := (He.out.blk 4 rfl).cell 2
          have x3 : World.cell? (we) ⟨fb, 3, none⟩ = some _ := (He.out.blk 4 rfl).cell 3
          have x4 : World.cell? (we) ⟨fb, 4, none⟩ = some _ := (He.out.blk 4 rfl).cell 4
          have x5 : World.cell? (we) ⟨fb, 5, none⟩ = some _ := (He.out.blk 4 rfl).cell 5
          have x6 : World.cell? (we) ⟨fb, 6, none⟩ = some _ := (He.out.blk 4 rfl).cell 6
          have x7 : World.cell? (we) ⟨fb, 7, none⟩ = some _ := (He.out.blk 4 rfl).cell 7
          have x8 : World.cell? (we) ⟨fb, 8, none⟩ = some _ := (He.out.blk 4 rfl).cell 8
          have x9 : World.cell? (we) ⟨fb, 9, none⟩ = some _ := (He.out.blk 4 rfl).cell 9
          have x10 : World.cell? (we) ⟨fb, 10, none⟩ = some _ := (He.out.blk 4 rfl).cell 10
          have z0 : World.cell? (we) ⟨rb, 0, none⟩ = some _ := (He.out.blk 5 rfl).cell 0
          have zf0 : World.frozen? (we) ⟨rb, 0, none⟩ = false := (He.out.blk 5 rfl).frozen 0
          have z1 : World.cell? (we) ⟨rb, 1, none⟩ = some _ := (He.out.blk 5 rfl).cell 1
          have zf1 : World.frozen? (we) ⟨rb, 1, none⟩ = false := (He.out.blk 5 rfl).frozen 1
          have z2 : World.cell? (we) ⟨rb, 2, none⟩ = some _ := (He.out.blk 5 rfl).cell 2
          have zf2 : World.frozen? (we) ⟨rb, 2, none⟩ = false := (He.out.blk 5 rfl).frozen 2
          have z3 : World.cell? (we) ⟨rb, 3, none⟩ = some _ := (He.out.blk 5 rfl).cell 3
          have zf3 : World.frozen? (we) ⟨rb, 3, none⟩ = false := (He.out.blk 5 rfl).frozen 3
          have z4 : World.cell? (we) ⟨rb, 4, none⟩ = some _ := (He.out.blk 5 rfl).cell 4
          have zf4 : World.frozen? (we) ⟨rb, 4, none⟩ = false := (He.out.blk 5 rfl).frozen 4
          have z5 : World.cell? (we) ⟨rb, 5, none⟩ = some _ := (He.out.blk 5 rfl).cell 5
          have zf5 : World.frozen? (we) ⟨rb, 5, none⟩ = false := (He.out.blk 5 rfl).frozen 5
          have z6 : World.cell? (we) ⟨rb, 6, none⟩ = some _ := (He.out.blk 5 rfl).cell 6
          have zf6 : World.frozen? (we) ⟨rb, 6, none⟩ = false := (He.out.blk 5 rfl).frozen 6
          have z7 : World.cell? (we) ⟨rb, 7, none⟩ = some _ := (He.out.blk 5 rfl).cell 7
          have zf7 : World.frozen? (we) ⟨rb, 7, none⟩ = false := (He.out.blk 5 rfl).frozen 7
          have z8 : World.cell? (we) ⟨rb, 8, none⟩ = some _ := (He.out.blk 5 rfl).cell 8
          have zf8 : World.frozen? (we) ⟨rb, 8, none⟩ = false := (He.out.blk 5 rfl).frozen 8
          have z9 : World.cell? (we) ⟨rb, 9, none⟩ = some _ := (He.out.blk 5 rfl).cell 9
          have zf9 : World.frozen? (we) ⟨rb, 9, none⟩ = false := (He.out.blk 5 rfl).frozen 9
          have z10 : World.cell? (we) ⟨rb, 10, none⟩ = some _ := (He.out.blk 5 rfl).cell 10
          have zf10 : World.frozen? (we) ⟨rb, 10, none⟩ = false := (He.out.blk 5 rfl).frozen 10
          have H6 := Hp.Sep.fill He.out 5 rfl [.int .i64 s1.1, .int .i64 s2.1, .int .i64 s3.1, .int .i64 a1.1, .int .i64 a2.1, .int .u64 0, .int .i64 0, .int .i64 0, .slice none 0 0, .int .i64 0, .slice none 0 0] rfl
          have hR := H6.blk 5 rfl
          have hX := hZh.out 0 _ _ _ _ hdf (tokR_of H6) H6.t
          clear H6 hZh hdf He
          go_wp2_with fail
          refine bodyPost_ret (res_list (rs := [.cell 2 41, .tmp 3]) rfl (by simp) (.cell rb _ _ _ rfl hR Try.underlying41 rfl (by kernel_rfl) (.tmp .nil))) rfl ?_
          exact hX
      · have g5 : (dn != 0) = true := by simpa using hd0
        have hdz : decP l = (2, zeroFr) := by rw [dec_eq hdec.out, if_pos (.inl (by rw [hdn]; exact hd0))]
        clear hdn hd0
        go_wp2_with fail
        go_at_call 49
        refine Calls.mono (Dn.out) ?_
        rintro e wd ⟨rfl, td⟩
        have Hd := Lib.hid (H.out.turns td)
        clear Dn H td
        have z0 : World.cell? (wd) ⟨rb, 0, none⟩ = some _ := (Hd.out.blk 5 rfl).cell 0
        have zf0 : World.frozen? (wd) ⟨rb, 0, none⟩ = false := (Hd.out.blk 5 rfl).frozen 0
        have z1 : World.cell? (wd) ⟨rb, 1, none⟩ = some _ := (Hd.out.blk 5 rfl).cell 1
        have zf1 : World.frozen? (wd) ⟨rb, 1, none⟩ = false := (Hd.out.blk 5 rfl).frozen 1
        have z2 : World.cell? (wd) ⟨rb, 2, none⟩ = some _ := (Hd.out.blk 5 rfl).cell 2
        have zf2 : World.frozen? (wd) ⟨rb, 2, none⟩ = false := (Hd.out.blk 5 rfl).frozen 2
        have z3 : World.cell? (wd) ⟨rb, 3, none⟩ = some _ := (Hd.out.blk 5 rfl).cell 3
        have zf3 : World.frozen? (wd) ⟨rb, 3, none⟩ = false := (Hd.out.blk 5 rfl).frozen 3
        have z4 : World.cell? (wd) ⟨rb, 4, none⟩ = some _ := (Hd.out.blk 5 rfl).cell 4
        have zf4 : World.frozen? (wd) ⟨rb, 4, none⟩ = false := (Hd.out.blk 5 rfl).frozen 4
        have z5 : World.cell? (wd) ⟨rb, 5, none⟩ = some _ := (Hd.out.blk 5 rfl).cell 5
        have zf5 : World.frozen? (wd) ⟨rb, 5, none⟩ = false := (Hd.out.blk 5 rfl).frozen 5
        have z6 : World.cell? (wd) ⟨rb, 6, none⟩ = some _ := (Hd.out.blk 5 rfl).cell 6
        have zf6 : World.frozen? (wd) ⟨rb, 6, none⟩ = false := (Hd.out.blk 5 rfl).frozen 6
        have z7 : World.cell? (wd) ⟨rb, 7, none⟩ = some _ := (Hd.out.blk 5 rfl).cell 7
        have zf7 : World.frozen? (wd) ⟨rb, 7, none⟩ = false := (Hd.out.blk 5 rfl).frozen 7
        have z8 : World.cell? (wd) ⟨rb, 8, none⟩ = some _ := (Hd.out.blk 5 rfl).cell 8
        have zf8 : World.frozen? (wd) ⟨rb, 8, none⟩ = false := (Hd.out.blk 5 rfl).frozen 8
        have z9 : World.cell? (wd) ⟨rb, 9, none⟩ = some _ := (Hd.out.blk 5 rfl).cell 9
        have zf9 : World.frozen? (wd) ⟨rb, 9, none⟩ = false := (Hd.out.blk 5 rfl).frozen 9
        have z10 : World.cell? (wd) ⟨rb, 10, none⟩ = some _ := (Hd.out.blk 5 rfl).cell 10
        have zf10 : World.frozen? (wd) ⟨rb, 10, none⟩ = false := (Hd.out.blk 5 rfl).frozen 10
        have H6 := Hp.Sep.fill Hd.out 5 rfl [.int .i64 0, .int .i64 0, .int .i64 0, .int .i64 0, .int .i64 0, .int .u64 0, .int .i64 0, .int .i64 0, .slice none 0 0, .int .i64 0, .slice none 0 0] rfl
        have hR := H6.blk 5 rfl
        have hX := hZh.out 2 zeroFr (.slice none 0 0) (.slice none 0 0) _ hdz ⟨RdS.nil 1 _, RT.nil _⟩ H6.t
        clear H6 hZh hdz Hd
        go_wp2_with fail
        refine bodyPost_ret (res_list (rs := [.cell 2 41, .tmp 3]) rfl (by simp) (.cell rb _ _ _ rfl hR Try.underlying41 rfl (by kernel_rfl) (.tmp .nil))) rfl ?_
        exact hX
    · have g1 : (s1.1 == 1) = false := by simpa using e1
      by_cases e2 : s1.1 = 2
      · have g2 : (s1.1 == 2) = true := by simpa using e2
        obtain ⟨a1, ha1⟩ : ∃ a, numP s3.2 = a := ⟨_, rfl⟩
        obtain ⟨a2, ha2⟩ : ∃ a, a1.2.bits = a := ⟨_, rfl⟩
        have hdec : Hid (frP ⟨l, false⟩ = ((⟨s1.1, s2.1, s3.1, a1.1, 0, a2.1, Tok.zero⟩ : Fr), a2.2)) := Lib.hid (by rw [hfr.out, if_neg e0, if_neg e1, if_pos e2, ha1, ha2])
        have hstl := Lib.hid (hstz ⟨s1.1, s2.1, s3.1, a1.1, 0, a2.1, Tok.zero⟩ rfl)
        have k1 := num_len s3.2
        have hl3' := hl3h.out
        rw [ha1] at k1
        have D1 := Lib.hid (rnum_is w5 b own s3.2 (Sep_isRd H5.out 1 rfl) hl3h.out)
        have D2 := Lib.hid (fun W (h : IsRd 126 W b own a1.2) => rbits_is W b own a1.2 h (by omega))
        rw [ha1] at D1
        rw [ha2] at D2
        clear e0 e1 e2 hfr ha1 ha2 k1 hl3' hstz
        go_wp2_with fail
        go_at_call 46
        refine Calls.mono (D1.out) ?_
        rintro e w6 ⟨rfl, r6, t6⟩
        have H6 := Lib.hid (Sep_rd H5.out 1 rfl r6 t6)
        clear D1 H5 r6 t6 k0
        go_wp2_with fail
        go_at_call 48
        refine Calls.mono (D2.out _ (Sep_isRd H6.out 1 rfl)) ?_
        rintro e w7 ⟨rfl, r7, t7⟩
        have H7 := Sep_rd H6.out 1 rfl r7 t7
        have y3 : World.cell? (w7) ⟨fb, 3, none⟩ = some _ := (H7.blk 0 rfl).cell 3
        have yf3 : World.frozen? (w7) ⟨fb, 3, none⟩ = false := (H7.blk 0 rfl).frozen 3
        have y5 : World.cell? (w7) ⟨fb, 5, none⟩ = some _ := (H7.blk 0 rfl).cell 5
        have yf5 : World.frozen? (w7) ⟨fb, 5, none⟩ = false := (H7.blk 0 rfl).frozen 5
        have H8 := (Sep_tok0 ((H7.set 0 rfl 3 (.int .i64 a1.1)).set 0 rfl 5 (.int .u64 a2.1))).keep [0, 1, 2, 4, 3, 5]
        have H : Hid (Sep [] w (tokT Tok.zero (.slice none 0 0) (.slice none 0 0) [] ++ [tRd 126 b own a2.2, tBlk fb #[.int .i64 s1.1, .int .i64 s2.1, .int .i64 s3.1, .int .i64 a1.1, .int .i64 0, .int .u64 a2.1, .int .i64 0, .int .i64 0, .slice none 0 0, .int .i64 0, .slice none 0 0] 41, tBlk rb zeroF 41]) _) := Lib.hid H8
        clear D2 H6 r7 t7 H7 H8
        go_upto_region 10 with fail
        generalize (w7.setCell ⟨fb, 3, none⟩ (.int .i64 a1.1)).setCell ⟨fb, 5, none⟩ (.int .u64 a2.1) = w8 at *
        clear y3 y5 yf3 yf5
        have Dn := Lib.hid (rdone_is _ b own (a2.2) (Sep_isRd H.out 3 rfl))
        obtain ⟨dn, hdn⟩ : ∃ d, St.done (a2.2) = d := ⟨_, rfl⟩
        rw [hdn] at Dn
        by_cases hd0 : dn = 0
        · subst hd0
          go_wp2_with fail
          go_at_call 49
          refine Calls.mono (Dn.out) ?_
          rintro e wd ⟨rfl, td⟩
          have Hd := Lib.hid (H.out.turns td)
          have R := Fo.right_is _ ((⟨s1.1, s2.1, s3.1, a1.1, 0, a2.1, Tok.zero⟩ : Fr)) _ _ (tokR_of Hd.out) hstl.out
          unfold frv at R
          simp only at R
          have x0 : World.cell? (wd) ⟨fb, 0, none⟩ = some _ := (Hd.out.blk 4 rfl).cell 0
          have x1 : World.cell? (wd) ⟨fb, 1, none⟩ = some _ := (Hd.out.blk 4 rfl).cell 1
          have x2 : World.cell? (wd) ⟨fb, 2, none⟩ = some _ := (Hd.out.blk 4 rfl).cell 2
          have x3 : World.cell? (wd) ⟨fb, 3, none⟩ = some _ := (Hd.out.blk 4 rfl).cell 3
          have x4 : World.cell? (wd) ⟨fb, 4, none⟩ = some _ := (Hd.out.blk 4 rfl).cell 4
          have x5 : World.cell? (wd) ⟨fb, 5, none⟩ = some _ := (Hd.out.blk 4 rfl).cell 5
          have x6 : World.cell? (wd) ⟨fb, 6, none⟩ = some _ := (Hd.out.blk 4 rfl).cell 6
          have x7 : World.cell? (wd) ⟨fb, 7, none⟩ = some _ := (Hd.out.blk 4 rfl).cell 7
          have x8 : World.cell? (wd) ⟨fb, 8, none⟩ = some _ := (Hd.out.blk 4 rfl).cell 8
          have x9 : World.cell? (wd) ⟨fb, 9, none⟩ = some _ := (Hd.out.blk 4 rfl).cell 9
          have x10 : World.cell? (wd) ⟨fb, 10, none⟩ = some _ := (Hd.out.blk 4 rfl).cell 10
          cases hr : rightB ((⟨s1.1, s2.1, s3.1, a1.1, 0, a2.1, Tok.zero⟩ : Fr)) with
          | false =>
            have hdz : decP l = (2, zeroFr) := by rw [dec_eq hdec.out, if_pos (.inr hr)]
            rw [hr] at R
            have Rh := Lib.hid R
            clear hr R hdn Dn H td
            go_wp2_with fail
            go_at_call 23
            refine Calls.mono (Rh.out) ?_
            rintro e we ⟨rfl, te⟩
            have He := Lib.hid (Hd.out.turns te)
            clear x0 x1 x2 x3 x4 x5 x6 x7 x8 x9 x10 Rh Hd te
            have z0 : World.cell? (we) ⟨rb, 0, none⟩ = some _ := (He.out.blk 5 rfl).cell 0
            have zf0 : World.frozen? (we) ⟨rb, 0, none⟩ = false := (He.out.blk 5 rfl).frozen 0
            have z1 : World.cell? (we) ⟨rb, 1, none⟩ = some _ := (He.out.blk 5 rfl).cell 1
            have zf1 : World.frozen? (we) ⟨rb, 1, none⟩ = false := (He.out.blk 5 rfl).frozen 1
            have z2 : World.cell? (we) ⟨rb, 2, none⟩ = some _ := (He.out.blk 5 rfl).cell 2
            have zf2 : World.frozen? (we) ⟨rb, 2, none⟩ = false := (He.out.blk 5 rfl).frozen 2
            have z3 : World.cell? (we) ⟨rb, 3, none⟩ = some _ := (He.out.blk 5 rfl).cell 3
            have zf3 : World.frozen? (we) ⟨rb, 3, none⟩ = false := (He.out.blk 5 rfl).frozen 3
            have z4 : World.cell? (we) ⟨rb, 4, none⟩ = some _ := (He.out.blk 5 rfl).cell 4
            have zf4 : World.frozen? (we) ⟨rb, 4, none⟩ = false := (He.out.blk 5 rfl).frozen 4
            have z5 : World.cell? (we) ⟨rb, 5, none⟩ = some _ := (He.out.blk 5 rfl).cell 5
            have zf5 : World.frozen? (we) ⟨rb, 5, none⟩ = false := (He.out.blk 5 rfl).frozen 5
            have z6 : World.cell? (we) ⟨rb, 6, none⟩ = some _ := (He.out.blk 5 rfl).cell 6
            have zf6 : World.frozen? (we) ⟨rb, 6, none⟩ = false := (He.out.blk 5 rfl).frozen 6
            have z7 : World.cell? (we) ⟨rb, 7, none⟩ = some _ := (He.out.blk 5 rfl).cell 7
            have zf7 : World.frozen? (we) ⟨rb, 7, none⟩ = false := (He.out.blk 5 rfl).frozen 7
            have z8 : World.cell? (we) ⟨rb, 8, none⟩ = some _ := (He.out.blk 5 rfl).cell 8
            have zf8 : World.frozen? (we) ⟨rb, 8, none⟩ = false := (He.out.blk 5 rfl).frozen 8
            have z9 : World.cell? (we) ⟨rb, 9, none⟩ = some _ := (He.out.blk 5 rfl).cell 9
            have zf9 : World.frozen? (we) ⟨rb, 9, none⟩ = false := (He.out.blk 5 rfl).frozen 9
            have z10 : World.cell? (we) ⟨rb, 10, none⟩ = some _ := (He.out.blk 5 rfl).cell 10
            have zf10 : World.frozen? (we) ⟨rb, 10, none⟩ = false := (He.out.blk 5 rfl).frozen 10
            have H6 := Hp.Sep.fill He.out 5 rfl [.int .i64 0, .int .i64 0, .int .i64 0, .int .i64 0, .int .i64 0, .int .u64 0, .int .i64 0, .int .i64 0, .slice none 0 0, .int .i64 0, .slice none 0 0] rfl
            have hR := H6.blk 5 rfl
            have hX := hZh.out 2 zeroFr (.slice none 0 0) (.slice none 0 0) _ hdz ⟨RdS.nil 1 _, RT.nil _⟩ H6.t
            clear H6 hZh hdz He
            go_wp2_with fail
            refine bodyPost_ret (res_list (rs := [.cell 2 41, .tmp 3]) rfl (by simp) (.cell rb _ _ _ rfl hR Try.underlying41 rfl (by kernel_rfl) (.tmp .nil))) rfl ?_
            exact hX
          | true =>
            have hdf : decP l = (0, (⟨s1.1, s2.1, s3.1, a1.1, 0, a2.1, Tok.zero⟩ : Fr)) := by rw [dec_eq hdec.out, if_neg (by rw [hdn, hr]; simp)]
            rw [hr] at R
            have Rh := Lib.hid R
            clear hr R hdn Dn H td
            go_wp2_with fail
            go_at_call 23
            refine Calls.mono (Rh.out) ?_
            rintro e we ⟨rfl, te⟩
            have He := Lib.hid (Hd.out.turns te)
            clear x0 x1 x2 x3 x4 x5 x6 x7 x8 x9 x10 Rh Hd te
            have x0 : World.cell? (we) ⟨fb, 0, none⟩ = some _ := (He.out.blk 4 rfl).cell 0
            have x1 : World.cell? (we) ⟨fb, 1, none⟩ = some _ := (He.out.blk 4 rfl).cell 1
            have x2 : World.cell? (we) ⟨fb, 2, none⟩ = some _ := (He.out.blk 4 rfl).cell 2
            have x3 : World.cell? (we) ⟨fb, 3, none⟩ = some _ := (He.out.blk 4 rfl).cell 3
            have x4 : World.cell? (we) ⟨fb, 4, none⟩ = some _ := (He.out.blk 4 rfl).cell 4
            have x5 : World.cell? (we) ⟨fb, 5, none⟩ = some _ := (He.out.blk 4 rfl).cell 5
            have x6 : World.cell? (we) ⟨fb, 6, none⟩ = some _ := (He.out.blk 4 rfl).cell 6
            have x7 : World.cell? (we) ⟨fb, 7, none⟩ = some _ := (He.out.blk 4 rfl).cell 7
            have x8 : World.cell? (we) ⟨fb, 8, none⟩ = some _ := (He.out.blk 4 rfl).cell 8
            have x9 : World.cell? (we) ⟨fb, 9, none⟩ = some _ := (He.out.blk 4 rfl).cell 9
            have x10 : World.cell? (we) ⟨fb, 10, none⟩ = some _ := (He.out.blk 4 rfl).cell 10
            have z0 : World.cell? (we) ⟨rb, 0, none⟩ = some _ := (He.out.blk 5 rfl).cell 0
            have zf0 : World.frozen? (we) ⟨rb, 0, none⟩ = false := (He.out.blk 5 rfl).frozen 0
            have z1 : World.cell? (we) ⟨rb, 1, none⟩ = some _ := (He.out.blk 5 rfl).cell 1
            have zf1 : World.frozen? (we) ⟨rb, 1, none⟩ = false := (He.out.blk 5 rfl).frozen 1
            have z2 : World.cell? (we) ⟨rb, 2, none⟩ = some _ := (He.out.blk 5 rfl).cell 2
            have zf2 : World.frozen? (we) ⟨rb, 2, none⟩ = false := (He.out.blk 5 rfl).frozen 2
            have z3 : World.cell? (we) ⟨rb, 3, none⟩ = some _ := (He.out.blk 5 rfl).cell 3
            have zf3 : World.frozen? (we) ⟨rb, 3, none⟩ = false := (He.out.blk 5 rfl).frozen 3
            have z4 : World.cell? (we) ⟨rb, 4, none⟩ = some _ := (He.out.blk 5 rfl).cell 4
            have zf4 : World.frozen? (we) ⟨rb, 4, none⟩ = false := (He.out.blk 5 rfl).frozen 4
            have z5 : World.cell? (we) ⟨rb, 5, none⟩ = some _ := (He.out.blk 5 rfl).cell 5
            have zf5 : World.frozen? (we) ⟨rb, 5, none⟩ = false := (He.out.blk 5 rfl).frozen 5
            have z6 : World.cell? (we) ⟨rb, 6, none⟩ = some _ := (He.out.blk 5 rfl).cell 6
            have zf6 : World.frozen? (we) ⟨rb, 6, none⟩ = false := (He.out.blk 5 rfl).frozen 6
            have z7 : World.cell? (we) ⟨rb, 7, none⟩ = some _ := (He.out.blk 5 rfl).cell 7
            have zf7 : World.frozen? (we) ⟨rb, 7, none⟩ = false := (He.out.blk 5 rfl).frozen 7
            have z8 : World.cell? (we) ⟨rb, 8, none⟩ = some _ := (He.out.blk 5 rfl).cell 8
            have zf8 : World.frozen? (we) ⟨rb, 8, none⟩ = false := (He.out.blk 5 rfl).frozen 8
            have z9 : World.cell? (we) ⟨rb, 9, none⟩ = some _ := (He.out.blk 5 rfl).cell 9
            have zf9 : World.frozen? (we) ⟨rb, 9, none⟩ = false := (He.out.blk 5 rfl).frozen 9
            have z10 : World.cell? (we) ⟨rb, 10, none⟩ = some _ := (He.out.blk 5 rfl).cell 10
            have zf10 : World.frozen? (we) ⟨rb, 10, none⟩ = false := (He.out.blk 5 rfl).frozen 10
            have H6 := Hp.Sep.fill He.out 5 rfl [.int .i64 s1.1, .int .i64 s2.1, .int .i64 s3.1, .int .i64 a1.1, .int .i64 0, .int .u64 a2.1, .int .i64 0, .int .i64 0, .slice none 0 0, .int .i64 0, .slice none 0 0] rfl
            have hR := H6.blk 5 rfl
            have hX := hZh.out 0 _ _ _ _ hdf (tokR_of H6) H6.t
            clear H6 hZh hdf He
            go_wp2_with fail
            refine bodyPost_ret (res_list (rs := [.cell 2 41, .tmp 3]) rfl (by simp) (.cell rb _ _ _ rfl hR Try.underlying41 rfl (by kernel_rfl) (.tmp .nil))) rfl ?_
            exact hX
        · have g5 : (dn != 0) = true := by simpa using hd0
          have hdz : decP l = (2, zeroFr) := by rw [dec_eq hdec.out, if_pos (.inl (by rw [hdn]; exact hd0))]
          clear hdn hd0
          go_wp2_with fail
          go_at_call 49
          refine Calls.mono (Dn.out) ?_
          rintro e wd ⟨rfl, td⟩
          have Hd := Lib.hid (H.out.turns td)
          clear Dn H td
          have z0 : World.cell? (wd) ⟨rb, 0, none⟩ = some _ := (Hd.out.blk 5 rfl).cell 0
          have zf0 : World.frozen? (wd) ⟨rb, 0, none⟩ = false := (Hd.out.blk 5 rfl).frozen 0
          have z1 : World.cell? (wd) ⟨rb, 1, none⟩ = some _ := (Hd.out.blk 5 rfl).cell 1
          have zf1 : World.frozen? (wd) ⟨rb, 1, none⟩ = false := (Hd.out.blk 5 rfl).frozen 1
          have z2 : World.cell? (wd) ⟨rb, 2, none⟩ = some _ := (Hd.out.blk 5 rfl).cell 2
          have zf2 : World.frozen? (wd) ⟨rb, 2, none⟩ = false := (Hd.out.blk 5 rfl).frozen 2
          have z3 : World.cell? (wd) ⟨rb, 3, none⟩ = some _ := (Hd.out.blk 5 rfl).cell 3
          have zf3 : World.frozen? (wd) ⟨rb, 3, none⟩ = false := (Hd.out.blk 5 rfl).frozen 3
          have z4 : World.cell? (wd) ⟨rb, 4, none⟩ = some _ := (Hd.out.blk 5 rfl).cell 4
          have zf4 : World.frozen? (wd) ⟨rb, 4, none⟩ = false := (Hd.out.blk 5 rfl).frozen 4
          have z5 : World.cell? (wd) ⟨rb, 5, none⟩ = some _ := (Hd.out.blk 5 rfl).cell 5
          have zf5 : World.frozen? (wd) ⟨rb, 5, none⟩ = false := (Hd.out.blk 5 rfl).frozen 5
          have z6 : World.cell? (wd) ⟨rb, 6, none⟩ = some _ := (Hd.out.blk 5 rfl).cell 6
          have zf6 : World.frozen? (wd) ⟨rb, 6, none⟩ = false := (Hd.out.blk 5 rfl).frozen 6
          have z7 : World.cell? (wd) ⟨rb, 7, none⟩ = some _ := (Hd.out.blk 5 rfl).cell 7
          have zf7 : World.frozen? (wd) ⟨rb, 7, none⟩ = false := (Hd.out.blk 5 rfl).frozen 7
          have z8 : World.cell? (wd) ⟨rb, 8, none⟩ = some _ := (Hd.out.blk 5 rfl).cell 8
          have zf8 : World.frozen? (wd) ⟨rb, 8, none⟩ = false := (Hd.out.blk 5 rfl).frozen 8
          have z9 : World.cell? (wd) ⟨rb, 9, none⟩ = some _ := (Hd.out.blk 5 rfl).cell 9
          have zf9 : World.frozen? (wd) ⟨rb, 9, none⟩ = false := (Hd.out.blk 5 rfl).frozen 9
          have z10 : World.cell? (wd) ⟨rb, 10, none⟩ = some _ := (Hd.out.blk 5 rfl).cell 10
          have zf10 : World.frozen? (wd) ⟨rb, 10, none⟩ = false := (Hd.out.blk 5 rfl).frozen 10
          have H6 := Hp.Sep.fill Hd.out 5 rfl [.int .i64 0, .int .i64 0, .int .i64 0, .int .i64 0, .int .i64 0, .int .u64 0, .int .i64 0, .int .i64 0, .slice none 0 0, .int .i64 0, .slice none 0 0] rfl
          have hR := H6.blk 5 rfl
          have hX := hZh.out 2 zeroFr (.slice none 0 0) (.slice none 0 0) _ hdz ⟨RdS.nil 1 _, RT.nil _⟩ H6.t
          clear H6 hZh hdz Hd
          go_wp2_with fail
          refine bodyPost_ret (res_list (rs := [.cell 2 41, .tmp 3]) rfl (by simp) (.cell rb _ _ _ rfl hR Try.underlying41 rfl (by kernel_rfl) (.tmp .nil))) rfl ?_
          exact hX
      · have g2 : (s1.1 == 2) = false := by simpa using e2
        have hdec : Hid (frP ⟨l, false⟩ = ((⟨s1.1, s2.1, s3.1, 0, 0, 0, Tok.zero⟩ : Fr), s3.2)) := Lib.hid (by rw [hfr.out, if_neg e0, if_neg e1, if_neg e2])
        have hstl := Lib.hid (hstz ⟨s1.1, s2.1, s3.1, 0, 0, 0, Tok.zero⟩ rfl)
        have H8 := (Sep_tok0 H5.out).keep [0, 1, 2, 4, 3, 5]
        have H : Hid (Sep [] w (tokT Tok.zero (.slice none 0 0) (.slice none 0 0) [] ++ [tRd 126 b own s3.2, tBlk fb #[.int .i64 s1.1, .int .i64 s2.1, .int .i64 s3.1, .int .i64 0, .int .i64 0, .int .u64 0, .int .i64 0, .int .i64 0, .slice none 0 0, .int .i64 0, .slice none 0 0] 41, tBlk rb zeroF 41]) w5) := Lib.hid H8
        clear e0 e1 e2 hfr H5 H8 hstz
        have Dn := Lib.hid (rdone_is _ b own (s3.2) (Sep_isRd H.out 3 rfl))
        obtain ⟨dn, hdn⟩ : ∃ d, St.done (s3.2) = d := ⟨_, rfl⟩
        rw [hdn] at Dn
        by_cases hd0 : dn = 0
        · subst hd0
          go_wp2_with fail
          go_at_call 49
          refine Calls.mono (Dn.out) ?_
          rintro e wd ⟨rfl, td⟩
          have Hd := Lib.hid (H.out.turns td)
          have R := Fo.right_is _ ((⟨s1.1, s2.1, s3.1, 0, 0, 0, Tok.zero⟩ : Fr)) _ _ (tokR_of Hd.out) hstl.out
          unfold frv at R
          simp only at R
          have x0 : World.cell? (wd) ⟨fb, 0, none⟩ = some _ := (Hd.out.blk 4 rfl).cell 0
          have x1 : World.cell? (wd) ⟨fb, 1, none⟩ = some _ := (Hd.out.blk 4 rfl).cell 1
          have x2 : World.cell? (wd) ⟨fb, 2, none⟩ = some _ := (Hd.out.blk 4 rfl).cell 2
          have x3 : World.cell? (wd) ⟨fb, 3, none⟩ = some _ := (Hd.out.blk 4 rfl).cell 3
          have x4 : World.cell? (wd) ⟨fb, 4, none⟩ = some _ := (Hd.out.blk 4 rfl).cell 4
          have x5 : World.cell? (wd) ⟨fb, 5, none⟩ = some _ := (Hd.out.blk 4 rfl).cell 5
          have x6 : World.cell? (wd) ⟨fb, 6, none⟩ = some _ := (Hd.out.blk 4 rfl).cell 6
          have x7 : World.cell? (wd) ⟨fb, 7, none⟩ = some _ := (Hd.out.blk 4 rfl).cell 7
          have x8 : World.cell? (wd) ⟨fb, 8, none⟩ = some _ := (Hd.out.blk 4 rfl).cell 8
          have x9 : World.cell? (wd) ⟨fb, 9, none⟩ = some _ := (Hd.out.blk 4 rfl).cell 9
          have x10 : World.cell? (wd) ⟨fb, 10, none⟩ = some _ := (Hd.out.blk 4 rfl).cell 10
          cases hr : rightB ((⟨s1.1, s2.1, s3.1, 0, 0, 0, Tok.zero⟩ : Fr)) with
          | false =>
            have hdz : decP l = (2, zeroFr) := by rw [dec_eq hdec.out, if_pos (.inr hr)]
            rw [hr] at R
            have Rh := Lib.hid R
            clear hr R hdn Dn H td
            go_wp2_with fail
            go_at_call 23
            refine Calls.mono (Rh.out) ?_
            rintro e we ⟨rfl, te⟩
            have He := Lib.hid (Hd.out.turns te)
            clear x0 x1 x2 x3 x4 x5 x6 x7 x8 x9 x10 Rh Hd te
            have z0 : World.cell? (we) ⟨rb, 0, none⟩ = some _ := (He.out.blk 5 rfl).cell 0
            have zf0 : World.frozen? (we) ⟨rb, 0, none⟩ = false := (He.out.blk 5 rfl).frozen 0
            have z1 : World.cell? (we) ⟨rb, 1, none⟩ = some _ := (He.out.blk 5 rfl).cell 1
            have zf1 : World.frozen? (we) ⟨rb, 1, none⟩ = false := (He.out.blk 5 rfl).frozen 1
            have z2 : World.cell? (we) ⟨rb, 2, none⟩ = some _ := (He.out.blk 5 rfl).cell 2
            have zf2 : World.frozen? (we) ⟨rb, 2, none⟩ = false := (He.out.blk 5 rfl).frozen 2
            have z3 : World.cell? (we) ⟨rb, 3, none⟩ = some _ := (He.out.blk 5 rfl).cell 3
            have zf3 : World.frozen? (we) ⟨rb, 3, none⟩ = false := (He.out.blk 5 rfl).frozen 3
            have z4 : World.cell? (we) ⟨rb, 4, none⟩ = some _ := (He.out.blk 5 rfl).cell 4
            have zf4 : World.frozen? (we) ⟨rb, 4, none⟩ = false := (He.out.blk 5 rfl).frozen 4
            have z5 : World.cell? (we) ⟨rb, 5, none⟩ = some _ := (He.out.blk 5 rfl).cell 5
            have zf5 : World.frozen? (we) ⟨rb, 5, none⟩ = false := (He.out.blk 5 rfl).frozen 5
            have z6 : World.cell? (we) ⟨rb, 6, none⟩ = some _ := (He.out.blk 5 rfl).cell 6
            have zf6 : World.frozen? (we) ⟨rb, 6, none⟩ = false := (He.out.blk 5 rfl).frozen 6
            have z7 : World.cell? (we) ⟨rb, 7, none⟩ = some _ := (He.out.blk 5 rfl).cell 7
            have zf7 : World.frozen? (we) ⟨rb, 7, none⟩ = false := (He.out.blk 5 rfl).frozen 7
            have z8 : World.cell? (we) ⟨rb, 8, none⟩ = some _ := (He.out.blk 5 rfl).cell 8
            have zf8 : World.frozen? (we) ⟨rb, 8, none⟩ = false := (He.out.blk 5 rfl).frozen 8
            have z9 : World.cell? (we) ⟨rb, 9, none⟩ = some _ := (He.out.blk 5 rfl).cell 9
            have zf9 : World.frozen? (we) ⟨rb, 9, none⟩ = false := (He.out.blk 5 rfl).frozen 9
            have z10 : World.cell? (we) ⟨rb, 10, none⟩ = some _ := (He.out.blk 5 rfl).cell 10
            have zf10 : World.frozen? (we) ⟨rb, 10, none⟩ = false := (He.out.blk 5 rfl).frozen 10
            have H6 := Hp.Sep.fill He.out 5 rfl [.int .i64 0, .int .i64 0, .int .i64 0, .int .i64 0, .int .i64 0, .int .u64 0, .int .i64 0, .int .i64 0, .slice none 0 0, .int .i64 0, .slice none 0 0] rfl
            have hR := H6.blk 5 rfl
            have hX := hZh.out 2 zeroFr (.slice none 0 0) (.slice none 0 0) _ hdz ⟨RdS.nil 1 _, RT.nil _⟩ H6.t
            clear H6 hZh hdz He
            go_wp2_with fail
            refine bodyPost_ret (res_list (rs := [.cell 2 41, .tmp 3]) rfl (by simp) (.cell rb _ _ _ rfl hR Try.underlying41 rfl (by kernel_rfl) (.tmp .nil))) rfl ?_
            exact hX
          | true =>
            have hdf : decP l = (0, (⟨s1.1, s2.1, s3.1, 0, 0, 0, Tok.zero⟩ : Fr)) := by rw [dec_eq hdec.out, if_neg (by rw [hdn, hr]; simp)]
            rw [hr] at R
            have Rh := Lib.hid R
            clear hr R hdn Dn H td
            go_wp2_with fail
            go_at_call 23
            refine Calls.mono (Rh.out) ?_
            rintro e we ⟨rfl, te⟩
            have He := Lib.hid (Hd.out.turns te)
            clear x0 x1 x2 x3 x4 x5 x6 x7 x8 x9 x10 Rh Hd te
            have x0 : World.cell? (we) ⟨fb, 0, none⟩ = some _ := (He.out.blk 4 rfl).cell 0
            have x1 : World.cell? (we) ⟨fb, 1, none⟩ = some _ := (He.out.blk 4 rfl).cell 1
            have x2 : World.cell? (we) ⟨fb, 2, none⟩ = some _ := (He.out.blk 4 rfl).cell 2
            have x3 : World.cell? (we) ⟨fb, 3, none⟩ = some _ := (He.out.blk 4 rfl).cell 3
            have x4 : World.cell? (we) ⟨fb, 4, none⟩ = some _ := (He.out.blk 4 rfl).cell 4
            have x5 : World.cell? (we) ⟨fb, 5, none⟩ = some _ := (He.out.blk 4 rfl).cell 5
            have x6 : World.cell? (we) ⟨fb, 6, none⟩ = some _ := (He.out.blk 4 rfl).cell 6
            have x7 : World.cell? (we) ⟨fb, 7, none⟩ = some _ := (He.out.blk 4 rfl).cell 7
            have x8 : World.cell? (we) ⟨fb, 8, none⟩ = some _ := (He.out.blk 4 rfl).cell 8
            have x9 : World.cell? (we) ⟨fb, 9, none⟩ = some _ := (He.out.blk 4 rfl).cell 9
            have x10 : World.cell? (we) ⟨fb, 10, none⟩ = some _ := (He.out.blk 4 rfl).cell 10
            have z0 : World.cell? (we) ⟨rb, 0, none⟩ = some _ := (He.out.blk 5 rfl).cell 0
            have zf0 : World.frozen? (we) ⟨rb, 0, none⟩ = false := (He.out.blk 5 rfl).frozen 0
            have z1 : World.cell? (we) ⟨rb, 1, none⟩ = some _ := (He.out.blk 5 rfl).cell 1
            have zf1 : World.frozen? (we) ⟨rb, 1, none⟩ = false := (He.out.blk 5 rfl).frozen 1
            have z2 : World.cell? (we) ⟨rb, 2, none⟩ = some _ := (He.out.blk 5 rfl).cell 2
            have zf2 : World.frozen? (we) ⟨rb, 2, none⟩ = false := (He.out.blk 5 rfl).frozen 2
            have z3 : World.cell? (we) ⟨rb, 3, none⟩ = some _ := (He.out.blk 5 rfl).cell 3
            have zf3 : World.frozen? (we) ⟨rb, 3, none⟩ = false := (He.out.blk 5 rfl).frozen 3
            have z4 : World.cell? (we) ⟨rb, 4, none⟩ = some _ := (He.out.blk 5 rfl).cell 4
            have zf4 : World.frozen? (we) ⟨rb, 4, none⟩ = false := (He.out.blk 5 rfl).frozen 4
            have z5 : World.cell? (we) ⟨rb, 5, none⟩ = some _ := (He.out.blk 5 rfl).cell 5
            have zf5 : World.frozen? (we) ⟨rb, 5, none⟩ = false := (He.out.blk 5 rfl).frozen 5
            have z6 : World.cell? (we) ⟨rb, 6, none⟩ = some _ := (He.out.blk 5 rfl).cell 6
            have zf6 : World.frozen? (we) ⟨rb, 6, none⟩ = false := (He.out.blk 5 rfl).frozen 6
            have z7 : World.cell? (we) ⟨rb, 7, none⟩ = some _ := (He.out.blk 5 rfl).cell 7
            have zf7 : World.frozen? (we) ⟨rb, 7, none⟩ = false := (He.out.blk 5 rfl).frozen 7
            have z8 : World.cell? (we) ⟨rb, 8, none⟩ = some _ := (He.out.blk 5 rfl).cell 8
            have zf8 : World.frozen? (we) ⟨rb, 8, none⟩ = false := (He.out.blk 5 rfl).frozen 8
            have z9 : World.cell? (we) ⟨rb, 9, none⟩ = some _ := (He.out.blk 5 rfl).cell 9
            have zf9 : World.frozen? (we) ⟨rb, 9, none⟩ = false := (He.out.blk 5 rfl).frozen 9
            have z10 : World.cell? (we) ⟨rb, 10, none⟩ = some _ := (He.out.blk 5 rfl).cell 10
            have zf10 : World.frozen? (we) ⟨rb, 10, none⟩ = false := (He.out.blk 5 rfl).frozen 10
            have H6 := Hp.Sep.fill He.out 5 rfl [.int .i64 s1.1, .int .i64 s2.1, .int .i64 s3.1, .int .i64 0, .int .i64 0, .int .u64 0, .int .i64 0, .int .i64 0, .slice none 0 0, .int .i64 0, .slice none 0 0] rfl
            have hR := H6.blk 5 rfl
            have hX := hZh.out 0 _ _ _ _ hdf (tokR_of H6) H6.t
            clear H6 hZh hdf He
            go_wp2_with fail
            refine bodyPost_ret (res_list (rs := [.cell 2 41, .tmp 3]) rfl (by simp) (.cell rb _ _ _ rfl hR Try.underlying41 rfl (by kernel_rfl) (.tmp .nil))) rfl ?_
            exact hX
        · have g5 : (dn != 0) = true := by simpa using hd0
          have hdz : decP l = (2, zeroFr) := by rw [dec_eq hdec.out, if_pos (.inl (by rw [hdn]; exact hd0))]
          clear hdn hd0
          go_wp2_with fail
          go_at_call 49
          refine Calls.mono (Dn.out) ?_
          rintro e wd ⟨rfl, td⟩
          have Hd := Lib.hid (H.out.turns td)
          clear Dn H td
          have z0 : World.cell? (wd) ⟨rb, 0, none⟩ = some _ := (Hd.out.blk 5 rfl).cell 0
          have zf0 : World.frozen? (wd) ⟨rb, 0, none⟩ = false := (Hd.out.blk 5 rfl).frozen 0
          have z1 : World.cell? (wd) ⟨rb, 1, none⟩ = some _ := (Hd.out.blk 5 rfl).cell 1
          have zf1 : World.frozen? (wd) ⟨rb, 1, none⟩ = false := (Hd.out.blk 5 rfl).frozen 1
          have z2 : World.cell? (wd) ⟨rb, 2, none⟩ = some _ := (Hd.out.blk 5 rfl).cell 2
          have zf2 : World.frozen? (wd) ⟨rb, 2, none⟩ = false := (Hd.out.blk 5 rfl).frozen 2
          have z3 : World.cell? (wd) ⟨rb, 3, none⟩ = some _ := (Hd.out.blk 5 rfl).cell 3
          have zf3 : World.frozen? (wd) ⟨rb, 3, none⟩ = false := (Hd.out.blk 5 rfl).frozen 3
          have z4 : World.cell? (wd) ⟨rb, 4, none⟩ = some _ := (Hd.out.blk 5 rfl).cell 4
          have zf4 : World.frozen? (wd) ⟨rb, 4, none⟩ = false := (Hd.out.blk 5 rfl).frozen 4
          have z5 : World.cell? (wd) ⟨rb, 5, none⟩ = some _ := (Hd.out.blk 5 rfl).cell 5
          have zf5 : World.frozen? (wd) ⟨rb, 5, none⟩ = false := (Hd.out.blk 5 rfl).frozen 5
          have z6 : World.cell? (wd) ⟨rb, 6, none⟩ = some _ := (Hd.out.blk 5 rfl).cell 6
          have zf6 : World.frozen? (wd) ⟨rb, 6, none⟩ = false := (Hd.out.blk 5 rfl).frozen 6
          have z7 : World.cell? (wd) ⟨rb, 7, none⟩ = some _ := (Hd.out.blk 5 rfl).cell 7
          have zf7 : World.frozen? (wd) ⟨rb, 7, none⟩ = false := (Hd.out.blk 5 rfl).frozen 7
          have z8 : World.cell? (wd) ⟨rb, 8, none⟩ = some _ := (Hd.out.blk 5 rfl).cell 8
          have zf8 : World.frozen? (wd) ⟨rb, 8, none⟩ = false := (Hd.out.blk 5 rfl).frozen 8
          have z9 : World.cell? (wd) ⟨rb, 9, none⟩ = some _ := (Hd.out.blk 5 rfl).cell 9
          have zf9 : World.frozen? (wd) ⟨rb, 9, none⟩ = false := (Hd.out.blk 5 rfl).frozen 9
          have z10 : World.cell? (wd) ⟨rb, 10, none⟩ = some _ := (Hd.out.blk 5 rfl).cell 10
          have zf10 : World.frozen? (wd) ⟨rb, 10, none⟩ = false := (Hd.out.blk 5 rfl).frozen 10
          have H6 := Hp.Sep.fill Hd.out 5 rfl [.int .i64 0, .int .i64 0, .int .i64 0, .int .i64 0, .int .i64 0, .int .u64 0, .int .i64 0, .int .i64 0, .slice none 0 0, .int .i64 0, .slice none 0 0] rfl
          have hR := H6.blk 5 rfl
          have hX := hZh.out 2 zeroFr (.slice none 0 0) (.slice none 0 0) _ hdz ⟨RdS.nil 1 _, RT.nil _⟩ H6.t
          clear H6 hZh hdz Hd
          go_wp2_with fail
          refine bodyPost_ret (res_list (rs := [.cell 2 41, .tmp 3]) rfl (by simp) (.cell rb _ _ _ rfl hR Try.underlying41 rfl (by kernel_rfl) (.tmp .nil))) rfl ?_
          exact hX
end Go.Proofs.Ytohokckpheljbaa.Nf
