/- frame.Encode. -/
import Derived.Test.YtohokckpheljbaaNz
import Derived.Test.YtohokckpheljbaaFo
import Derived.Deep.Cut
set_option linter.unusedVariables false
set_option linter.unusedSimpArgs false
set_option maxRecDepth 100000
namespace Go.Proofs.Ytohokckpheljbaa.Nc
open Go.RowKit Go.MapKept Hm Hs Hr Hb Hf Hg Hv Hx Fa Ff Fg Fi Fj Kw Kn Na Nb Nz
/-- two fields of a frame, kept -/
structure Kc (fb : Nat) (g b : Int) (W : World) : Prop where
  g : W.cell? ⟨fb, 3, none⟩ = some (.int .i64 g)
  b : W.cell? ⟨fb, 5, none⟩ = some (.int .u64 b)
theorem enc_len {f : Fr} (h : rightB f = true) : (encB f).length ≤ 17632 := by
  have h1 := (encN_ok h).2
  have h2 : (encT f).length ≤ 8 := by
    unfold encT
    split
    · rw [be8_len]; omega
    · simp
  unfold encB
  rw [List.length_append, putR_len]
  omega
theorem encode_bad (w : World) (f : Fr) (sv rv : Value) (h : TokR w f.tok sv rv) (hn : f.tok.st.length ≤ 100000) (hr : rightB f = false) : Calls Try.prog 21 #[frv f sv rv] w fun e w' => e = .returned (.tuple #[.slice none 0 0, .int .i64 1]) ∧ Turns [] w w' := by
  have T0 := (Turns.refl [] w).alloc (.cells (frc f sv rv) 41)
  have R1 := Lib.hid (Fo.right_is _ f sv rv (h.turns T0) hn)
  have B0 := Blk.new w (frc f sv rv) 41
  rw [hr] at R1
  obtain ⟨A1, c1, rfl, _⟩ := rform h.st
  obtain ⟨A3, c3, rfl, _⟩ := h.rows.form
  unfold frv
  unfold frv at R1
  clear h hr
  have x0 : World.cell? (w.alloc (.cells (frc f (.slice A1 f.tok.st.length c1) (.slice A3 f.tok.rows.length c3)) 41)) ⟨w.heap.size, 0, none⟩ = some _ := (B0).cell 0
  have x1 : World.cell? (w.alloc (.cells (frc f (.slice A1 f.tok.st.length c1) (.slice A3 f.tok.rows.length c3)) 41)) ⟨w.heap.size, 1, none⟩ = some _ := (B0).cell 1
  have x2 : World.cell? (w.alloc (.cells (frc f (.slice A1 f.tok.st.length c1) (.slice A3 f.tok.rows.length c3)) 41)) ⟨w.heap.size, 2, none⟩ = some _ := (B0).cell 2
  have x3 : World.cell? (w.alloc (.cells (frc f (.slice A1 f.tok.st.length c1) (.slice A3 f.tok.rows.length c3)) 41)) ⟨w.heap.size, 3, none⟩ = some _ := (B0).cell 3
  have x4 : World.cell? (w.alloc (.cells (frc f (.slice A1 f.tok.st.length c1) (.slice A3 f.tok.rows.length c3)) 41)) ⟨w.heap.size, 4, none⟩ = some _ := (B0).cell 4
  have x5 : World.cell? (w.alloc (.cells (frc f (.slice A1 f.tok.st.length c1) (.slice A3 f.tok.rows.length c3)) 41)) ⟨w.heap.size, 5, none⟩ = some _ := (B0).cell 5
  have x6 : World.cell? (w.alloc (.cells (frc f (.slice A1 f.tok.st.length c1) (.slice A3 f.tok.rows.length c3)) 41)) ⟨w.heap.size, 6, none⟩ = some _ := (B0).cell 6
  have x7 : World.cell? (w.alloc (.cells (frc f (.slice A1 f.tok.st.length c1) (.slice A3 f.tok.rows.length c3)) 41)) ⟨w.heap.size, 7, none⟩ = some _ := (B0).cell 7
  have x8 : World.cell? (w.alloc (.cells (frc f (.slice A1 f.tok.st.length c1) (.slice A3 f.tok.rows.length c3)) 41)) ⟨w.heap.size, 8, none⟩ = some _ := (B0).cell 8
  have x9 : World.cell? (w.alloc (.cells (frc f (.slice A1 f.tok.st.length c1) (.slice A3 f.tok.rows.length c3)) 41)) ⟨w.heap.size, 9, none⟩ = some _ := (B0).cell 9
  have x10 : World.cell? (w.alloc (.cells (frc f (.slice A1 f.tok.st.length c1) (.slice A3 f.tok.rows.length c3)) 41)) ⟨w.heap.size, 10, none⟩ = some _ := (B0).cell 10
  go_enter Try.func21, Try.ntmps21
  go_wp2_with fail
  go_at_call 23
  refine Calls.mono (R1.out) ?_
  rintro e w2 ⟨rfl, t2⟩
  have T2 := T0.trans t2
  go_wp2_with fail
  go_ret2
  exact ⟨rfl, T2⟩
set_option maxHeartbeats 8000000 in
theorem encode_ok (w : World) (f : Fr) (sv rv : Value) (h : TokR w f.tok sv rv) (hr : rightB f = true) (hb : 0 ≤ f.bits ∧ f.bits < 18446744073709551616) : Calls Try.prog 21 #[frv f sv rv] w
    fun e w' => ∃ v, e = .returned (.tuple #[v, .int .i64 0]) ∧ OwnS 5 1 w' v (bys (encB f)) ∧ Turns [] w w' ∧ ∀ k, v.ownBlock = some k → w.heap.size ≤ k := by
  obtain ⟨X, hX⟩ : ∃ X : Ending → World → Prop, X = fun e w' => ∃ v, e = .returned (.tuple #[v, .int .i64 0]) ∧ OwnS 5 1 w' v (bys (encB f)) ∧ Turns [] w w' ∧ ∀ k, v.ownBlock = some k → w.heap.size ≤ k := ⟨_, rfl⟩
  rw [← hX]
  have hXh : Hid (∀ A n c w', OwnS 5 1 w' (.slice A n c) (bys (encB f)) → Turns [] w w' → (∀ k, (Value.slice A n c).ownBlock = some k → w.heap.size ≤ k) → X (.returned (.tuple #[.slice A n c, .int .i64 0])) w') := Lib.hid (fun A n c w' h1 h2 h3 => by rw [hX]; exact ⟨_, rfl, h1, h2, h3⟩)
  clear hX
  have hcs := right_cases hr
  obtain ⟨hokN, hlenN⟩ := encN_ok hr
  have hst : f.tok.st.length ≤ 100000 := by
    obtain ⟨_, _, hc⟩ := hcs
    rcases hc with ⟨_, _, _, _, h5⟩ | ⟨_, h5, _⟩ | ⟨_, h5, _⟩ | ⟨_, h5, _⟩
    · have := (tok_ok h5).2.1; omega
    · rw [h5]; simp [Tok.zero]
    · rw [h5]; simp [Tok.zero]
    · rw [h5]; simp [Tok.zero]
  have T0 := (Turns.refl [] w).alloc (.cells (frc f sv rv) 41)
  have R1 := Lib.hid (Fo.right_is _ f sv rv (h.turns T0) hst)
  rw [hr] at R1
  have H0 := (Sep.start w).alloc (frc f sv rv) 41
  have hth := Lib.hid h
  obtain ⟨A1, c1, rfl, _⟩ := rform h.st
  obtain ⟨A3, c3, rfl, _⟩ := h.rows.form
  unfold frv
  unfold frv at R1
  have hH0 := Lib.hid H0
  have x0 : World.cell? (w.alloc (.cells (frc f (.slice A1 f.tok.st.length c1) (.slice A3 f.tok.rows.length c3)) 41)) ⟨w.heap.size, 0, none⟩ = some _ := (H0.blk 0 rfl).cell 0
  have x1 : World.cell? (w.alloc (.cells (frc f (.slice A1 f.tok.st.length c1) (.slice A3 f.tok.rows.length c3)) 41)) ⟨w.heap.size, 1, none⟩ = some _ := (H0.blk 0 rfl).cell 1
  have x2 : World.cell? (w.alloc (.cells (frc f (.slice A1 f.tok.st.length c1) (.slice A3 f.tok.rows.length c3)) 41)) ⟨w.heap.size, 2, none⟩ = some _ := (H0.blk 0 rfl).cell 2
  have x3 : World.cell? (w.alloc (.cells (frc f (.slice A1 f.tok.st.length c1) (.slice A3 f.tok.rows.length c3)) 41)) ⟨w.heap.size, 3, none⟩ = some _ := (H0.blk 0 rfl).cell 3
  have x4 : World.cell? (w.alloc (.cells (frc f (.slice A1 f.tok.st.length c1) (.slice A3 f.tok.rows.length c3)) 41)) ⟨w.heap.size, 4, none⟩ = some _ := (H0.blk 0 rfl).cell 4
  have x5 : World.cell? (w.alloc (.cells (frc f (.slice A1 f.tok.st.length c1) (.slice A3 f.tok.rows.length c3)) 41)) ⟨w.heap.size, 5, none⟩ = some _ := (H0.blk 0 rfl).cell 5
  have x6 : World.cell? (w.alloc (.cells (frc f (.slice A1 f.tok.st.length c1) (.slice A3 f.tok.rows.length c3)) 41)) ⟨w.heap.size, 6, none⟩ = some _ := (H0.blk 0 rfl).cell 6
  have x7 : World.cell? (w.alloc (.cells (frc f (.slice A1 f.tok.st.length c1) (.slice A3 f.tok.rows.length c3)) 41)) ⟨w.heap.size, 7, none⟩ = some _ := (H0.blk 0 rfl).cell 7
  have x8 : World.cell? (w.alloc (.cells (frc f (.slice A1 f.tok.st.length c1) (.slice A3 f.tok.rows.length c3)) 41)) ⟨w.heap.size, 8, none⟩ = some _ := (H0.blk 0 rfl).cell 8
  have x9 : World.cell? (w.alloc (.cells (frc f (.slice A1 f.tok.st.length c1) (.slice A3 f.tok.rows.length c3)) 41)) ⟨w.heap.size, 9, none⟩ = some _ := (H0.blk 0 rfl).cell 9
  have x10 : World.cell? (w.alloc (.cells (frc f (.slice A1 f.tok.st.length c1) (.slice A3 f.tok.rows.length c3)) 41)) ⟨w.heap.size, 10, none⟩ = some _ := (H0.blk 0 rfl).cell 10
  have hokh := Lib.hid hokN
  have hlenh : Hid (([] : List Int).length + 8 * ([f.kind, f.frm, f.to] ++ encN f).length ≤ 100000) := Lib.hid (by simp at hlenN ⊢; omega)
  have hcsh := Lib.hid hcs
  have henc := Lib.hid (enc_len hr)
  have hbh := Lib.hid hb
  clear h hr H0 T0 hokN hlenN hcs hb hst
  go_enter Try.func21, Try.ntmps21
  go_wp2_with fail
  go_at_call 23
  refine Calls.mono (R1.out) ?_
  rintro e w2 ⟨rfl, t2⟩
  have H2 := hH0.out.turns t2
  have y0 : World.cell? (w2) ⟨w.heap.size, 0, none⟩ = some _ := (H2.blk 0 rfl).cell 0
  have y1 : World.cell? (w2) ⟨w.heap.size, 1, none⟩ = some _ := (H2.blk 0 rfl).cell 1
  have y2 : World.cell? (w2) ⟨w.heap.size, 2, none⟩ = some _ := (H2.blk 0 rfl).cell 2
  have H3 : Sep [] w (wtr w2.heap.size (.slice none 0 0) ([] ++ putR []) false ++ [tBlk w.heap.size (frc f (.slice A1 f.tok.st.length c1) (.slice A3 f.tok.rows.length c3)) 41]) (w2.alloc (.cells #[.slice none 0 0, .bool false] 98)) :=
    ((H2.alloc #[.slice none 0 0, .bool false] 98).nilSlice 5 1).keep [1, 0, 2]
  have N1 := Lib.hid (lit_nx _ [] w _ _ _ [] ([f.kind, f.frm, f.to] ++ encN f) [] (encN f) [f.kind, f.frm, f.to] rfl hlenh.out hokh.out H3 #[.int .i64 f.kind, .int .i64 f.frm, .int .i64 f.to] rfl 3 rfl (by omega))
  rw [World.size_alloc] at N1
  clear x0 x1 x2 x3 x4 x5 x6 x7 x8 x9 x10 hH0 R1 H2 t2 H3
  have z0 := ((Turns.refl [] w2).alloc (.cells #[.slice none 0 0, .bool false] 98)).old y0
  have z1 := ((Turns.refl [] w2).alloc (.cells #[.slice none 0 0, .bool false] 98)).old y1
  have z2 := ((Turns.refl [] w2).alloc (.cells #[.slice none 0 0, .bool false] 98)).old y2
  clear y0 y1 y2
  go_wp2_with fail
  go_at_call 54
  refine Calls.mono N1.out ?_
  rintro e w4 ⟨rfl, bv4, H4⟩
  clear z0 z1 z2 N1
  generalize w2.heap.size = b at *
  generalize hfbe : w.heap.size = fb at *
  have hfbh := Lib.hid hfbe
  clear hfbe
  have H4h := Lib.hid H4
  have x0 : World.cell? (w4) ⟨fb, 0, none⟩ = some _ := (H4.blk 2 rfl).cell 0
  clear H4
  have hmine := Lib.hid (fun k (hk : k ∈ fps (wtr b bv4 ([] ++ putR ([] ++ [f.kind, f.frm, f.to])) false)) => (H4h.out.mine k (by rw [fps_append]; exact List.mem_append_left _ hk)).resolve_left (by simp))
  obtain ⟨hf, ht, hc⟩ := hcsh.out
  have hfh := Lib.hid hf
  have htoh := Lib.hid ht
  clear hcsh hf ht
  rcases hc with ⟨e0, e1, e2, e3, e4⟩ | ⟨e0, e1, e2, e3, e4⟩ | ⟨e0, e1, e2, e3⟩ | ⟨e0, e1, e2, e3, e4⟩
  · have g0 : (f.kind == 0) = true := by simpa using e0
    obtain ⟨q1, _, _, _, q5⟩ := tok_ok e4
    have hee : encB f = ([] ++ putR ([] ++ [f.kind, f.frm, f.to])) ++ putR (tokN f.tok) := by unfold encB encN encT; rw [if_pos e0, if_neg (by omega), List.append_nil]; rw [putR_append]; rfl
    have Tk := Lib.hid (token_is w w4 b bv4 _ (H4h.out.got_left) f.tok _ _ hth.out H4h.out.t hmine.out (by rw [List.length_append, putR_len]; simp; omega) q1)
    have heeh := Lib.hid hee
    unfold tkv at Tk
    have x6 : World.cell? (w4) ⟨fb, 6, none⟩ = some _ := (H4h.out.blk 2 rfl).cell 6
    have x7 : World.cell? (w4) ⟨fb, 7, none⟩ = some _ := (H4h.out.blk 2 rfl).cell 7
    have x8 : World.cell? (w4) ⟨fb, 8, none⟩ = some _ := (H4h.out.blk 2 rfl).cell 8
    have x9 : World.cell? (w4) ⟨fb, 9, none⟩ = some _ := (H4h.out.blk 2 rfl).cell 9
    have x10 : World.cell? (w4) ⟨fb, 10, none⟩ = some _ := (H4h.out.blk 2 rfl).cell 10
    clear e0 e1 e2 e3 e4 q1 q5 hee
    go_wp2_with fail
    go_at_call 55
    refine Calls.mono (Tk.out) ?_
    rintro e w5 ⟨rfl, bv5, H5⟩
    have hSf := Lib.hid (H4h.out.upon H5)
    clear x0 x6 x7 x8 x9 x10 Tk H5 H4h hmine
    have Dn := Lib.hid (done_ok 0 _ b _ _ (isW hSf.out) (by rw [← heeh.out]; have := henc.out; omega))
    go_wp2_with fail
    go_at_call 57
    refine Calls.mono (Dn.out) ?_
    rintro e w9 ⟨v9, rfl, o9, t9, hn9⟩
    obtain ⟨n9, A9, c9, hv9⟩ : ∃ n A c, v9 = Value.slice A n c := by obtain ⟨A, c, h, _⟩ := o9.form; exact ⟨_, A, c, h⟩
    subst hv9
    have T9 := hSf.out.t.trans t9
    have hX := hXh.out _ _ _ w9 (by rw [heeh.out]; exact o9) T9 (fun k hk => by have h1 := hSf.out.t.size; rw [hfbh.out] at h1; exact Nat.le_trans h1 (hn9 k hk))
    clear hXh Dn o9 t9 hn9 hSf T9
    go_wp2_with fail
    first
      | exact hX
      | (go_ret2; exact hX)
  · have g0 : (f.kind == 0) = false := by simp [e0]
    have g1 : (f.kind == 1) = true := by simpa using e0
    have hee : encB f = [] ++ putR (([] ++ [f.kind, f.frm, f.to]) ++ [f.gen, f.hop]) := by unfold encB encN encT; rw [if_neg (by omega), if_pos e0, if_neg (by omega), List.append_nil]; rfl
    have hN : ([] ++ [f.kind, f.frm, f.to]) ++ ([f.gen, f.hop] ++ []) = [f.kind, f.frm, f.to] ++ encN f := by unfold encN; rw [if_neg (by omega), if_pos e0]; rfl
    have N2 := Lib.hid (lit_nx w4 [] w _ b bv4 [] _ _ [] [f.gen, f.hop] hN hlenh.out hokh.out H4h.out #[.int .i64 f.gen, .int .i64 f.hop] rfl 2 rfl (by omega))
    have heeh := Lib.hid hee
    have x3 : World.cell? (w4) ⟨fb, 3, none⟩ = some _ := (H4h.out.blk 2 rfl).cell 3
    have x4 : World.cell? (w4) ⟨fb, 4, none⟩ = some _ := (H4h.out.blk 2 rfl).cell 4
    clear e0 e1 e2 e3 e4 hee hN
    go_wp2_with fail
    go_at_call 54
    refine Calls.mono (N2.out) ?_
    rintro e w5 ⟨rfl, bv5, H5⟩
    have hSf := Lib.hid H5
    clear x0 x3 x4 N2 H5 H4h hmine
    have Dn := Lib.hid (done_ok 0 _ b _ _ (isW hSf.out) (by rw [← heeh.out]; have := henc.out; omega))
    go_wp2_with fail
    go_at_call 57
    refine Calls.mono (Dn.out) ?_
    rintro e w9 ⟨v9, rfl, o9, t9, hn9⟩
    obtain ⟨n9, A9, c9, hv9⟩ : ∃ n A c, v9 = Value.slice A n c := by obtain ⟨A, c, h, _⟩ := o9.form; exact ⟨_, A, c, h⟩
    subst hv9
    have T9 := hSf.out.t.trans t9
    have hX := hXh.out _ _ _ w9 (by rw [heeh.out]; exact o9) T9 (fun k hk => by have h1 := hSf.out.t.size; rw [hfbh.out] at h1; exact Nat.le_trans h1 (hn9 k hk))
    clear hXh Dn o9 t9 hn9 hSf T9
    go_wp2_with fail
    first
      | exact hX
      | (go_ret2; exact hX)
  · have g0 : (f.kind == 0) = false := by simp [e0]
    have g1 : (f.kind == 1) = false := by simp [e0]
    have g2 : (f.kind == 2) = true := by simpa using e0
    have hee : encB f = ([] ++ putR (([] ++ [f.kind, f.frm, f.to]) ++ [f.gen])) ++ be8 f.bits := by unfold encB encN encT; rw [if_neg (by omega), if_neg (by omega), if_pos e0, if_pos e0]; rfl
    have hN : ([] ++ [f.kind, f.frm, f.to]) ++ ([f.gen] ++ []) = [f.kind, f.frm, f.to] ++ encN f := by unfold encN; rw [if_neg (by omega), if_neg (by omega), if_pos e0]; rfl
    have N2 := Lib.hid (fun W (H : Sep [] w (wtr b bv4 ([] ++ putR ([] ++ [f.kind, f.frm, f.to])) false ++ [tBlk fb (frc f (.slice A1 f.tok.st.length c1) (.slice A3 f.tok.rows.length c3)) 41]) W) => lit_nx W [] w _ b bv4 [] _ _ [] [f.gen] hN hlenh.out hokh.out H #[.int .i64 f.gen] rfl 1 rfl (by omega))
    have heeh := Lib.hid hee
    clear e0 e1 e2 e3 hee hN
    have H5h := Lib.hid H4h.out.drew
    clear H4h hmine
    go_wp2_with fail
    go_wp2_with fail
    refine wp_region_flo [(0, true), (1, true), (2, true), (5, true), (6, true), (3, false), (4, false), (7, false)] (fun W => Kc fb f.gen f.bits W) (by kernel_rfl) rfl (by kernel_rfl) (by intro c d v a w h; cases d <;> first | (simpa [Exit.then, Exit.inBlock, Act.put] using h) | exact h) (⟨(H5h.out.blk 2 rfl).cell 3, (H5h.out.blk 2 rfl).cell 5⟩) ?_
    clear x0
    generalize w4.drew = w5 at *
    have y3 : World.cell? (w5) ⟨fb, 3, none⟩ = some _ := (H5h.out.blk 2 rfl).cell 3
    have y5 : World.cell? (w5) ⟨fb, 5, none⟩ = some _ := (H5h.out.blk 2 rfl).cell 5
    refine flo_read _ rfl (fun K hK => ?_)
    go_simp
    first | (refine hK _ ?_) | (refine ⟨fun W hS => ?_, hK _ ?_⟩; · (have x3 := hS.g; have x5 := hS.b; try go_simp))
    clear hK K
    refine flo_read _ rfl (fun K hK => ?_)
    go_simp
    first | (refine hK _ ?_) | (refine ⟨fun W hS => ?_, hK _ ?_⟩; · (have x3 := hS.g; have x5 := hS.b; try go_simp))
    clear hK K
    refine flo_read _ rfl (fun K hK => ?_)
    go_simp
    first | (refine hK _ ?_) | (refine ⟨fun W hS => ?_, hK _ ?_⟩; · (have x3 := hS.g; have x5 := hS.b; try go_simp))
    clear hK K
    refine flo_read _ rfl (fun K hK => ?_)
    go_simp
    first | (refine hK _ ?_) | (refine ⟨fun W hS => ?_, hK _ ?_⟩; · (have x3 := hS.g; have x5 := hS.b; try go_simp))
    clear hK K
    refine flo_read _ rfl (fun K hK => ?_)
    go_simp
    first | (refine hK _ ?_) | (refine ⟨fun W hS => ?_, hK _ ?_⟩; · (have x3 := hS.g; have x5 := hS.b; try go_simp))
    clear hK K
    clear y3 y5
    refine flo_alone _ rfl ?_
    go_wp2_with fail
    refine ⟨fun W => Kc fb f.gen f.bits W, fun W h => h, ⟨((H5h.out.turns ((Turns.refl [] w5).alloc (.cells #[.int .i64 f.gen] 3))).blk 2 rfl).cell 3, ((H5h.out.turns ((Turns.refl [] w5).alloc (.cells #[.int .i64 f.gen] 3))).blk 2 rfl).cell 5⟩, ?_⟩
    refine flo_alone _ rfl ?_
    go_wp2_with fail
    go_at_call 54
    refine Calls.mono (N2.out _ H5h.out) ?_
    rintro e w6 ⟨rfl, bv6, H6⟩
    go_wp2_with fail
    refine ⟨fun W => Kc fb f.gen f.bits W, fun W h => h, ⟨(H6.blk 2 rfl).cell 3, (H6.blk 2 rfl).cell 5⟩, ?_⟩
    have Bt := Lib.hid (Na.bits_is f.bits hbh.out w6 b bv6 _ false (H6.got [0, 1]) (by rw [List.length_append, putR_len]; simp))
    have H6h := Lib.hid H6
    clear H6
    refine flo_alone _ rfl ?_
    go_wp2_with fail
    go_at_call 56
    refine Calls.mono (Bt.out) ?_
    rintro e w7 ⟨rfl, bv7, H7⟩
    go_wp2_with fail
    refine ⟨fun W => Kc fb f.gen f.bits W, fun W h => h, ⟨((H6h.out.upon H7).blk 2 rfl).cell 3, ((H6h.out.upon H7).blk 2 rfl).cell 5⟩, ?_⟩
    have hSf := Lib.hid (H6h.out.upon H7)
    clear Bt H6h H7 N2 H5h
    refine flo_end ?_
    go_wp2_with fail
    have Dn := Lib.hid (done_ok 0 _ b _ _ (isW hSf.out) (by rw [← heeh.out]; have := henc.out; omega))
    go_wp2_with fail
    go_at_call 57
    refine Calls.mono (Dn.out) ?_
    rintro e w9 ⟨v9, rfl, o9, t9, hn9⟩
    obtain ⟨n9, A9, c9, hv9⟩ : ∃ n A c, v9 = Value.slice A n c := by obtain ⟨A, c, h, _⟩ := o9.form; exact ⟨_, A, c, h⟩
    subst hv9
    have T9 := hSf.out.t.trans t9
    have hX := hXh.out _ _ _ w9 (by rw [heeh.out]; exact o9) T9 (fun k hk => by have h1 := hSf.out.t.size; rw [hfbh.out] at h1; exact Nat.le_trans h1 (hn9 k hk))
    clear hXh Dn o9 t9 hn9 hSf T9
    go_wp2_with fail
    first
      | exact hX
      | (go_ret2; exact hX)
  · have g0 : (f.kind == 0) = false := by simp [e0]
    have g1 : (f.kind == 1) = false := by simp [e0]
    have g2 : (f.kind == 2) = false := by simp [e0]
    have hee : encB f = [] ++ putR ([] ++ [f.kind, f.frm, f.to]) := by unfold encB encN encT; rw [if_neg (by omega), if_neg (by omega), if_neg (by omega), if_neg (by omega), List.append_nil]; rfl
    have heeh := Lib.hid hee
    have hSf := H4h
    clear e0 e1 e2 e3 e4 hee H4h hmine
    have Dn := Lib.hid (done_ok 0 _ b _ _ (isW hSf.out) (by rw [← heeh.out]; have := henc.out; omega))
    go_wp2_with fail
    go_at_call 57
    refine Calls.mono (Dn.out) ?_
    rintro e w9 ⟨v9, rfl, o9, t9, hn9⟩
    obtain ⟨n9, A9, c9, hv9⟩ : ∃ n A c, v9 = Value.slice A n c := by obtain ⟨A, c, h, _⟩ := o9.form; exact ⟨_, A, c, h⟩
    subst hv9
    have T9 := hSf.out.t.trans t9
    have hX := hXh.out _ _ _ w9 (by rw [heeh.out]; exact o9) T9 (fun k hk => by have h1 := hSf.out.t.size; rw [hfbh.out] at h1; exact Nat.le_trans h1 (hn9 k hk))
    clear hXh Dn o9 t9 hn9 hSf T9
    go_wp2_with fail
    first
      | exact hX
      | (go_ret2; exact hX)
end Go.Proofs.Ytohokckpheljbaa.Nc
