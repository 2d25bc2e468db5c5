/- The document's bytes of a frame that may be. -/
import Derived.Test.YtohokckpheljbaaNj
import Derived.Test.YtohokckpheljbaaNc
set_option linter.unusedVariables false
set_option linter.unusedSimpArgs false
set_option maxRecDepth 100000
namespace Go.Proofs.Ytohokckpheljbaa.Nk
open Go.RowKit Go.MapKept Hm Hs Hr Hb Hf Hg Hv Hx Fa Ff Fg Fi Fj Fq Kw Kn Kr Ks Kt Na Nb Nz Nc Nd Ne_ Nj
theorem put_ok (w : World) (v : Value) (l : List Int) (hv : RdS 1 w v (ins l)) (hl : l.length ≤ 10000) (ho : l.all okNum = true) :
    Calls Try.prog 76 #[v] w fun e w' => ∃ v', e = .returned (.tuple #[v', .int .i64 0]) ∧ OwnS 5 1 w' v' (bys (putR l)) ∧ Turns [] w w' ∧ ∀ k, v'.ownBlock = some k → w.heap.size ≤ k := by
  refine (Kp.put_bad w v l hv hl (fun x hx => ?_)).mono ?_
  · have := List.all_eq_true.1 ho x hx
    unfold okNum at this
    have := of_decide_eq_true this
    omega
  · rintro e w' ⟨h, t⟩
    rcases h with ⟨h1, _⟩ | ⟨_, v', he, o, hn⟩
    · rw [ho] at h1; cases h1
    · rw [u64_id ho] at o
      exact ⟨v', he, o, t, hn⟩
set_option maxHeartbeats 8000000 in
theorem bytes_is (w : World) (f : Fr) (sv rv : Value) (h : TokR w f.tok sv rv) (hr : rightB f = true) (hb : 0 ≤ f.bits ∧ f.bits < 18446744073709551616) : Calls Try.prog 34 #[frv f sv rv] w
    fun e w' => ∃ v, e = .returned v ∧ OwnS 5 1 w' v (bys (encB f)) ∧ Turns [] w w' := by
  obtain ⟨X, hX⟩ : ∃ X : Ending → World → Prop, X = fun e w' => ∃ v, e = .returned v ∧ OwnS 5 1 w' v (bys (encB f)) ∧ Turns [] w w' := ⟨_, rfl⟩
  rw [← hX]
  have hXh : Hid (∀ A n c w' l, Sep [] w (tOwn 5 1 (.slice A n c) (bys (encB f)) :: l) w' → X (.returned (.slice A n c)) w') := Lib.hid (fun A n c w' l h => by rw [hX]; exact ⟨_, rfl, h.own 0 rfl, h.t⟩)
  have hcs := right_cases hr
  obtain ⟨hokN, hlenN⟩ := encN_ok hr
  have hokh := Lib.hid hokN
  have hlenh := Lib.hid hlenN
  have henc := Lib.hid (enc_len hr)
  have hth := Lib.hid h
  have hbh := Lib.hid hb
  have hH0 := Lib.hid ((Sep.start w).alloc (frc f sv rv) 41)
  obtain ⟨A1, c1, rfl, _⟩ := rform h.st
  obtain ⟨A3, c3, rfl, _⟩ := h.rows.form
  unfold frv
  clear h hr hX hb hokN hlenN
  obtain ⟨_, _, hc⟩ := hcs
  have hce : Hid (encB f = putR ([f.kind, f.frm, f.to] ++ encN f) ++ encT f) := Lib.hid rfl
  go_enter Try.func34, Try.ntmps34
  go_upto_region 1 with fail
  generalize w.alloc (.cells (frc f (.slice A1 f.tok.st.length c1) (.slice A3 f.tok.rows.length c3)) 41) = w1 at *
  generalize w.heap.size = fb at *
  have x0 : World.cell? (w1) ⟨fb, 0, none⟩ = some _ := (hH0.out.blk 0 rfl).cell 0
  have x1 : World.cell? (w1) ⟨fb, 1, none⟩ = some _ := (hH0.out.blk 0 rfl).cell 1
  have x2 : World.cell? (w1) ⟨fb, 2, none⟩ = some _ := (hH0.out.blk 0 rfl).cell 2
  have hH1 := Lib.hid (hH0.out.newSlice ((Turns.refl [] w1).alloc (.cells #[.int .i64 f.kind, .int .i64 f.frm, .int .i64 f.to] 3)) (own_lit w1 [f.kind, f.frm, f.to] #[.int .i64 f.kind, .int .i64 f.frm, .int .i64 f.to] rfl 3 rfl (by omega)) (by intro k hk; simp [Value.ownBlock] at hk; omega))
  clear hH0
  go_upto_region 2 with fail
  generalize w1.alloc (.cells #[.int .i64 f.kind, .int .i64 f.frm, .int .i64 f.to] 3) = w2 at *
  generalize w1.heap.size = sb at *
  clear x0 x1 x2
  have x0 : World.cell? (w2) ⟨fb, 0, none⟩ = some _ := (hH1.out.blk 1 rfl).cell 0
  rcases hc with ⟨e0, e1, e2, e3, e4⟩ | ⟨e0, e1, e2, e3, e4⟩ | ⟨e0, e1, e2, e3⟩ | ⟨e0, e1, e2, e3, e4⟩
  · have g0 : (f.kind == 0) = true := by simpa using e0
    have g2 : (f.kind == 2) = false := by simp [e0]
    have hk2 : ¬ f.kind = 2 := by omega
    obtain ⟨q1, _, _, _, q5⟩ := tok_ok e4
    have hen : Hid (encN f = tokN f.tok) := Lib.hid (by unfold encN; rw [if_pos e0])
    have Nm := Lib.hid (numbers_is w2 f.tok _ _ (hth.out.turns hH1.out.t) q5 q1)
    have q5h := Lib.hid q5
    unfold tkv at Nm
    have y6 : World.cell? (w2) ⟨fb, 6, none⟩ = some _ := (hH1.out.blk 1 rfl).cell 6
    have y7 : World.cell? (w2) ⟨fb, 7, none⟩ = some _ := (hH1.out.blk 1 rfl).cell 7
    have y8 : World.cell? (w2) ⟨fb, 8, none⟩ = some _ := (hH1.out.blk 1 rfl).cell 8
    have y9 : World.cell? (w2) ⟨fb, 9, none⟩ = some _ := (hH1.out.blk 1 rfl).cell 9
    have y10 : World.cell? (w2) ⟨fb, 10, none⟩ = some _ := (hH1.out.blk 1 rfl).cell 10
    clear e0 e1 e2 e3 e4 q1 q5
    have hk2h := Lib.hid hk2
    clear hk2
    go_wp2_with fail
    go_at_call 75
    refine Calls.mono Nm.out ?_
    rintro e w3 ⟨vn, rfl, on, tn, hnn⟩
    have H3 := hH1.out.newSlice tn on hnn
    obtain ⟨An, cn, hvn, _⟩ := on.form
    rw [ins_len] at hvn
    subst hvn
    have H3h := Lib.hid H3
    clear x0 y6 y7 y8 y9 y10 Nm on tn hnn hH1 H3
    go_wp2_with (at_builtin; refine stop_ ?_)
    refine Mk_.mk ?_
    refine H3h.out.append 1 rfl (H3h.out.own 0 rfl).reads (3 + (tokN f.tok).length) (by rw [ins_len, ins_len]; rfl) (ins ([f.kind, f.frm, f.to] ++ tokN f.tok)) (ins_append _ _) rfl _ _ _ rfl (.int .i64 0) 8 Try.underlying34 info3 rfl (by decide) rfl rfl (ins_one _) (by have := q5h.out; omega) (by have := q5h.out; omega) ?_
    intro A5 c5 w5 H5 t5 hnil
    have H := Lib.hid (H5.keep [1, 2])
    clear t5 hnil H5 H3h
    generalize 3 + (tokN f.tok).length = n5 at *
    rw [← hen.out] at H
    have x0 : World.cell? (w5) ⟨fb, 0, none⟩ = some _ := (H.out.blk 1 rfl).cell 0
    clear x0
    have Pt := Lib.hid (put_ok _ _ _ (H.out.own 0 rfl).reads (by have := hlenh.out; omega) hokh.out)
    go_wp2_with fail
    go_at_call 76
    refine Calls.mono (Pt.out) ?_
    rintro e wp ⟨vp, rfl, op, tp, hnp⟩
    have Hp' := H.out.newSlice tp op hnp
    obtain ⟨np, Ap, cp, hvp⟩ : ∃ n A c, vp = Value.slice A n c := by obtain ⟨A, c, h, _⟩ := op.form; exact ⟨_, A, c, h⟩
    subst hvp
    have x0 : World.cell? (wp) ⟨fb, 0, none⟩ = some _ := (Hp'.blk 2 rfl).cell 0
    have Hp := Lib.hid Hp'
    clear Pt op tp hnp Hp' H
    have hk2 := hk2h.out
    have hX := hXh.out _ _ _ _ _ (by rw [hce.out, show encT f = [] by unfold encT; rw [if_neg hk2], List.append_nil]; exact Hp.out)
    clear hXh hk2 Hp
    go_wp2_with fail
    exact hX
  · have g0 : (f.kind == 0) = false := by simp [e0]
    have g1 : (f.kind == 1) = true := by simpa using e0
    have g2 : (f.kind == 2) = false := by simp [e0]
    have hk2h : Hid (¬ f.kind = 2) := Lib.hid (by omega)
    have hen : Hid (encN f = [f.gen, f.hop]) := Lib.hid (by unfold encN; rw [if_neg (by omega), if_pos e0])
    have y3 : World.cell? (w2) ⟨fb, 3, none⟩ = some _ := (hH1.out.blk 1 rfl).cell 3
    have y4 : World.cell? (w2) ⟨fb, 4, none⟩ = some _ := (hH1.out.blk 1 rfl).cell 4
    have hHe := Lib.hid (hH1.out.turns ((Turns.refl [] w2).alloc (.cells #[.int .i64 f.gen, .int .i64 f.hop] 3)))
    have R9 := Lib.hid (lit_rd w2 [f.gen, f.hop] #[.int .i64 f.gen, .int .i64 f.hop] rfl 2 rfl (by omega))
    clear e0 e1 e2 e3 e4 hH1
    go_wp2_with (at_builtin; refine stop_ ?_)
    refine Mk_.mk ?_
    refine hHe.out.append 0 rfl R9.out 5 rfl (ins ([f.kind, f.frm, f.to] ++ [f.gen, f.hop])) (ins_append _ _) rfl _ _ _ rfl (.int .i64 0) 8 Try.underlying34 info3 rfl (by decide) rfl rfl (ins_one _) (by omega) (by omega) ?_
    intro A5 c5 w5 H5 t5 hnil
    have H := Lib.hid H5
    clear t5 hnil H5 hHe R9 x0 y3 y4
    rw [← hen.out] at H
    have x0 : World.cell? (w5) ⟨fb, 0, none⟩ = some _ := (H.out.blk 1 rfl).cell 0
    have Pt := Lib.hid (put_ok _ _ _ (H.out.own 0 rfl).reads (by have := hlenh.out; omega) hokh.out)
    go_wp2_with fail
    go_at_call 76
    refine Calls.mono (Pt.out) ?_
    rintro e wp ⟨vp, rfl, op, tp, hnp⟩
    have Hp' := H.out.newSlice tp op hnp
    obtain ⟨np, Ap, cp, hvp⟩ : ∃ n A c, vp = Value.slice A n c := by obtain ⟨A, c, h, _⟩ := op.form; exact ⟨_, A, c, h⟩
    subst hvp
    have x0 : World.cell? (wp) ⟨fb, 0, none⟩ = some _ := (Hp'.blk 2 rfl).cell 0
    have Hp := Lib.hid Hp'
    clear Pt op tp hnp Hp' H
    have hk2 := hk2h.out
    have hX := hXh.out _ _ _ _ _ (by rw [hce.out, show encT f = [] by unfold encT; rw [if_neg hk2], List.append_nil]; exact Hp.out)
    clear hXh hk2 Hp
    go_wp2_with fail
    exact hX
  · have g0 : (f.kind == 0) = false := by simp [e0]
    have g1 : (f.kind == 1) = false := by simp [e0]
    have g2 : (f.kind == 2) = true := by simpa using e0
    have hk2h : Hid (f.kind = 2) := Lib.hid e0
    have hen : Hid (encN f = [f.gen]) := Lib.hid (by unfold encN; rw [if_neg (by omega), if_neg (by omega), if_pos e0])
    have y3 : World.cell? (w2) ⟨fb, 3, none⟩ = some _ := (hH1.out.blk 1 rfl).cell 3
    have hHe := Lib.hid (hH1.out.turns ((Turns.refl [] w2).alloc (.cells #[.int .i64 f.gen] 3)))
    have R9 := Lib.hid (lit_rd w2 [f.gen] #[.int .i64 f.gen] rfl 1 rfl (by omega))
    clear e0 e1 e2 e3 hH1
    go_wp2_with (at_builtin; refine stop_ ?_)
    refine Mk_.mk ?_
    refine hHe.out.append 0 rfl R9.out 4 rfl (ins ([f.kind, f.frm, f.to] ++ [f.gen])) (ins_append _ _) rfl _ _ _ rfl (.int .i64 0) 8 Try.underlying34 info3 rfl (by decide) rfl rfl (ins_one _) (by omega) (by omega) ?_
    intro A5 c5 w5 H5 t5 hnil
    have H := Lib.hid H5
    clear t5 hnil H5 hHe R9 x0 y3
    rw [← hen.out] at H
    have x0 : World.cell? (w5) ⟨fb, 0, none⟩ = some _ := (H.out.blk 1 rfl).cell 0
    have Pt := Lib.hid (put_ok _ _ _ (H.out.own 0 rfl).reads (by have := hlenh.out; omega) hokh.out)
    go_wp2_with fail
    go_at_call 76
    refine Calls.mono (Pt.out) ?_
    rintro e wp ⟨vp, rfl, op, tp, hnp⟩
    have Hp' := H.out.newSlice tp op hnp
    obtain ⟨np, Ap, cp, hvp⟩ : ∃ n A c, vp = Value.slice A n c := by obtain ⟨A, c, h, _⟩ := op.form; exact ⟨_, A, c, h⟩
    subst hvp
    have x0 : World.cell? (wp) ⟨fb, 0, none⟩ = some _ := (Hp'.blk 2 rfl).cell 0
    have Hp := Lib.hid Hp'
    clear Pt op tp hnp Hp' H
    have Eg := Lib.hid (eight_is f.bits hbh.out wp)
    have y5 : World.cell? (wp) ⟨fb, 5, none⟩ = some _ := (Hp.out.blk 2 rfl).cell 5
    go_wp2_with fail
    go_at_call 77
    refine Calls.mono Eg.out ?_
    rintro e w7 ⟨v8, rfl, o8, t8, hn8⟩
    have H7 := Hp.out.newSlice t8 o8 hn8
    obtain ⟨A8, c8, hv8, _⟩ := o8.form
    rw [bys_len, be8_len] at hv8
    subst hv8
    have H7h := Lib.hid H7
    have hlp := Lib.hid (show (putR ([f.kind, f.frm, f.to] ++ encN f)).length ≤ 17632 by have := henc.out; rw [hce.out, List.length_append] at this; omega)
    clear x0 y5 Eg o8 t8 hn8 Hp H7
    go_wp2_with (at_builtin; refine stop_ ?_)
    refine Mk_.mk ?_
    refine H7h.out.append 1 rfl (H7h.out.own 0 rfl).reads ((putR ([f.kind, f.frm, f.to] ++ encN f)).length + 8) (by rw [bys_len, bys_len, be8_len]) (bys (putR ([f.kind, f.frm, f.to] ++ encN f) ++ be8 f.bits)) (bys_append _ _) rfl _ _ _ rfl (.int .u8 0) 1 Try.underlying55 info5 rfl (by decide) rfl rfl (bys_one _) (by have := hlp.out; omega) (by have := hlp.out; omega) ?_
    intro A9 c9 w9 H9 t9 hnil
    generalize (putR ([f.kind, f.frm, f.to] ++ encN f)).length + 8 = n9 at *
    have hX := hXh.out _ _ _ _ _ (by rw [hce.out, show encT f = be8 f.bits by unfold encT; rw [if_pos hk2h.out]]; exact H9.keep [1])
    clear hXh H9 t9 hnil H7h
    go_wp2_with fail
    exact hX
  · have g0 : (f.kind == 0) = false := by simp [e0]
    have g1 : (f.kind == 1) = false := by simp [e0]
    have g2 : (f.kind == 2) = false := by simp [e0]
    have hk2h : Hid (¬ f.kind = 2) := Lib.hid (by omega)
    have hen : Hid (encN f = []) := Lib.hid (by unfold encN; rw [if_neg (by omega), if_neg (by omega), if_neg (by omega)])
    have H : Hid (Sep [] w [tOwn 3 1 (.slice (some ⟨sb, 0, none⟩) 3 3) (ins ([f.kind, f.frm, f.to] ++ encN f)), tBlk fb (frc f (.slice A1 f.tok.st.length c1) (.slice A3 f.tok.rows.length c3)) 41] w2) := Lib.hid (by rw [hen.out, List.append_nil]; exact hH1.out)
    clear e0 e1 e2 e3 e4 hH1
    have Pt := Lib.hid (put_ok _ _ _ (H.out.own 0 rfl).reads (by have := hlenh.out; omega) hokh.out)
    go_wp2_with fail
    go_at_call 76
    refine Calls.mono (Pt.out) ?_
    rintro e wp ⟨vp, rfl, op, tp, hnp⟩
    have Hp' := H.out.newSlice tp op hnp
    obtain ⟨np, Ap, cp, hvp⟩ : ∃ n A c, vp = Value.slice A n c := by obtain ⟨A, c, h, _⟩ := op.form; exact ⟨_, A, c, h⟩
    subst hvp
    have x0 : World.cell? (wp) ⟨fb, 0, none⟩ = some _ := (Hp'.blk 2 rfl).cell 0
    have Hp := Lib.hid Hp'
    clear Pt op tp hnp Hp' H
    have hk2 := hk2h.out
    have hX := hXh.out _ _ _ _ _ (by rw [hce.out, show encT f = [] by unfold encT; rw [if_neg hk2], List.append_nil]; exact Hp.out)
    clear hXh hk2 Hp
    go_wp2_with fail
    exact hX
end Go.Proofs.Ytohokckpheljbaa.Nk
