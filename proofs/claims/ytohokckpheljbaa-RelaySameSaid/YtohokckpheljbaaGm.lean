/- annonalaw15's step. -/
import Derived.Test.YtohokckpheljbaaGk
set_option linter.unusedVariables false
set_option linter.unusedSimpArgs false
set_option maxRecDepth 100000
namespace Go.Proofs.Ytohokckpheljbaa.Gm
open Go.RowKit Go.MapKept Go.Shelf Hm Hs Hf Hx Hy Hv Fa Fb Ff Fg Fi Fj Fq Fr_ Ga Gb Gc Gd Ge Gf Gg Gh Gi Gj Gk
/-- both relays hold the same -/
structure Both (m : Nat) (w0 w : World) (b d : Nat) (n : Int) (o : Option Fr) : Prop where
  r : IsRelay m w b n o
  doc : IsDoc m w0 w d n o
  ne : b ≠ d
  t : Turns [] w0 w
  hb : w0.heap.size ≤ b
  hd : w0.heap.size ≤ d
  m : m ≤ w.heap.size
theorem Both.left {m : Nat} {w0 w w' : World} {b d : Nat} {n n' : Int} {o o' : Option Fr} (h : Both m w0 w b d n o) (t : Turns [b] w w') (hr : IsRelay m w' b n' o') (hd : IsDoc m w0 w' d n' o') : Both m w0 w' b d n' o' :=
  ⟨hr, hd, h.ne, h.t.then t (by intro i hi; simp at hi; subst hi; exact .inr h.hb), h.hb, h.hd, Nat.le_trans h.m t.size⟩
theorem Both.turns {m : Nat} {w0 w w' : World} {b d : Nat} {n : Int} {o : Option Fr} (h : Both m w0 w b d n o) (t : Turns [] w w') : Both m w0 w' b d n o :=
  ⟨h.r.turns t, h.doc.turns t, h.ne, h.t.trans t, h.hb, h.hd, Nat.le_trans h.m t.size⟩
def stepO (o : Option Fr) (a : Gk.Act) : Option Fr :=
  if a.kind.tmod 7 = 2 ∨ a.kind.tmod 7 = 3 then o
  else if a.kind.tmod 7 = 4 ∨ a.kind.tmod 7 = 5 then relO o (ackO o a.f)
  else if a.kind.tmod 7 = 6 then relO o (dropO o a.g a.h)
  else (holdR o a.f).2
def stepN (o : Option Fr) (n : Int) (a : Gk.Act) : Int := if a.kind.tmod 7 = 2 ∨ a.kind.tmod 7 = 3 then heldN o n else n
abbrev acc (a : Gk.Act) : Array Value := #[.int .u8 a.kind, .int .i64 a.f.kind, .int .i64 a.f.frm, .int .i64 a.f.to, .int .i64 a.f.gen, .int .i64 a.f.hop, .int .u64 a.f.bits, .int .i64 a.f.tok.gen, .int .i64 a.f.tok.hop, a.sv, .int .i64 a.f.tok.start, a.rv, .int .i64 a.g, .int .i64 a.h]
set_option maxHeartbeats 8000000 in
theorem step_is (m : Nat) (w0 w : World) (b d : Nat) (n : Int) (o : Option Fr) (a : Gk.Act) (h : Both m w0 w b d n o) (hn : 0 ≤ n ∧ n ≤ 1000000) (ht : TokR w0 a.f.tok a.sv a.rv) (hf : fitsT a.f.tok) :
    Calls Try.prog 10 #[.pointer (some ⟨b, 0, none⟩), .pointer (some ⟨d, 0, none⟩), a.v] w fun e w' => e = .returned (.bool true) ∧ Both m w0 w' b d (stepN o n a) (stepO o a) := by
  obtain ⟨X, hX⟩ : ∃ X : Ending → World → Prop, X = fun e w' => e = .returned (.bool true) ∧ Both m w0 w' b d (stepN o n a) (stepO o a) := ⟨_, rfl⟩
  rw [← hX]
  have T0 := (Turns.refl [] w).alloc (.cells (acc a) 43)
  have h0 : Both m w0 _ b d n o := ⟨h.r.turns T0, h.doc.turns T0, h.ne, h.t.trans T0, h.hb, h.hd, Nat.le_trans h.m T0.size⟩
  have hbl := h.r.lt
  have hdl := h.doc.lt
  have A0 := Blk.new w (acc a) 43
  have hXh : Hid (∀ w', Both m w0 w' b d (stepN o n a) (stepO o a) → X (.returned (.bool true)) w') := Lib.hid (fun w' h => by rw [hX]; exact ⟨rfl, h⟩)
  clear hX T0
  have hth := Lib.hid ht
  have hfh := Lib.hid hf
  unfold stepN stepO at hXh
  have hbm := h.r.bm
  have hdm := h.doc.bm
  obtain ⟨k, f, sv, rv, g, q⟩ := a
  simp only at hth hfh hXh ht hf
  obtain ⟨A1, c1, A3, c3, rfl, rfl⟩ := frc_form ht
  unfold Gk.Act.v
  unfold acc at h0 A0
  simp only at h0 A0 ⊢
  have hne := h.ne
  have hb0 := h.hb
  have hd0 := h.hd
  have hmw := h.m
  clear h ht hf
  generalize hw1 : w.alloc (.cells #[.int .u8 k, .int .i64 f.kind, .int .i64 f.frm, .int .i64 f.to, .int .i64 f.gen, .int .i64 f.hop, .int .u64 f.bits, .int .i64 f.tok.gen, .int .i64 f.tok.hop, .slice A1 f.tok.st.length c1, .int .i64 f.tok.start, .slice A3 f.tok.rows.length c3, .int .i64 g, .int .i64 q] 43) = w1 at *
  generalize hab : w.heap.size = ab at *
  have h0h := Lib.hid h0
  have a0 : World.cell? (w1) ⟨ab, 0, none⟩ = some _ := (A0).cell 0
  have a1 : World.cell? (w1) ⟨ab, 1, none⟩ = some _ := (A0).cell 1
  have a2 : World.cell? (w1) ⟨ab, 2, none⟩ = some _ := (A0).cell 2
  have a3 : World.cell? (w1) ⟨ab, 3, none⟩ = some _ := (A0).cell 3
  have a4 : World.cell? (w1) ⟨ab, 4, none⟩ = some _ := (A0).cell 4
  have a5 : World.cell? (w1) ⟨ab, 5, none⟩ = some _ := (A0).cell 5
  have a6 : World.cell? (w1) ⟨ab, 6, none⟩ = some _ := (A0).cell 6
  have a7 : World.cell? (w1) ⟨ab, 7, none⟩ = some _ := (A0).cell 7
  have a8 : World.cell? (w1) ⟨ab, 8, none⟩ = some _ := (A0).cell 8
  have a9 : World.cell? (w1) ⟨ab, 9, none⟩ = some _ := (A0).cell 9
  have a10 : World.cell? (w1) ⟨ab, 10, none⟩ = some _ := (A0).cell 10
  have a11 : World.cell? (w1) ⟨ab, 11, none⟩ = some _ := (A0).cell 11
  have a12 : World.cell? (w1) ⟨ab, 12, none⟩ = some _ := (A0).cell 12
  have a13 : World.cell? (w1) ⟨ab, 13, none⟩ = some _ := (A0).cell 13
  by_cases c2 : k.tmod 7 = 2 ∨ k.tmod 7 = 3
  · rw [if_pos c2, if_pos c2] at hXh
    have C1 := Lib.hid (held_u m w1 b n o h0.r hn)
    have D1 := Lib.hid (fun W (hD : IsDoc m w0 W d n o) (t : Turns [] w0 W) => dheld_u m w0 W d n o hD t hd0 hn)
    clear h0 a1 a2 a3 a4 a5 a6 a7 a8 a9 a10 a11 a12 a13 hth hfh
    rcases c2 with c2 | c2
    · have e2 : (k.tmod 7 == 2) = true := by simpa using c2
      clear c2
      go_enter Try.func10, Try.ntmps10
      go_upto_region 1 with fail
      try rw [hw1]
      try rw [hab]
      clear hw1 hab
      go_wp2_with fail
      go_at_call 12
      refine Calls.mono C1.out ?_
      rintro e w2 ⟨s2, r2, rfl, tk2, hr2, t2⟩
      have hd2 := h0h.out.doc.far t2 (by simpa using hbm) (by simpa using hne.symm)
      have T02 := h0h.out.t.then t2 (by intro i hi; simp at hi; subst hi; exact .inr hb0)
      have hdl1 := h0h.out.doc.lt
      obtain ⟨A5, c5, A6, c6, rfl, rfl⟩ := frc_form (g := heldF o) tk2.tok
      have ta2 := (Turns.refl [] w2).alloc (.cells (frc (heldF o) (.slice A5 (heldF o).tok.st.length c5) (.slice A6 (heldF o).tok.rows.length c6)) 41)
      have B2 := Blk.new w2 (frc (heldF o) (.slice A5 (heldF o).tok.st.length c5) (.slice A6 (heldF o).tok.rows.length c6)) 41
      have T03 := T02.trans ta2
      have hr3 := hr2.turns ta2
      have hd3 := hd2.turns ta2
      have tk3 := tk2.far ta2 (by simp)
      have hd2l := hd2.lt
      have D2 := Lib.hid (D1.out _ hd3 T03)
      have m3 : m ≤ (w2.alloc (.cells (frc (heldF o) (.slice A5 (heldF o).tok.st.length c5) (.slice A6 (heldF o).tok.rows.length c6)) 41)).heap.size := Nat.le_trans h0h.out.m (Nat.le_trans t2.size ta2.size)
      clear C1 D1 h0h t2 hr2 hd2 T02 ta2 tk2 hd3
      unfold frv
      generalize heldF o = F at *
      generalize o.isSome = is at *
      generalize heldN o n = n2 at *
      go_upto_region 5 with fail
      generalize w2.alloc (.cells (frc F (.slice A5 F.tok.st.length c5) (.slice A6 F.tok.rows.length c6)) 41) = w3 at *
      generalize w2.heap.size = x3 at *
      clear a0
      go_wp2_with fail
      go_at_call 35
      refine Calls.mono D2.out ?_
      rintro e w4 ⟨s4, r4, rfl, tk4, hd4, t4⟩
      have hr4 := hr3.far t4 (by simpa using hdm) (by simpa using hne)
      have T04 := T03.then t4 (by intro i hi; simp at hi; subst hi; exact .inr hd0)
      have B4 := B2.turns t4 (by simp; omega)
      have tk5 := tk3.far t4 (by simpa using hdl1)
      obtain ⟨A7, c7, A8, c8, rfl, rfl⟩ := frc_form (g := F) tk4
      have ta4 := (Turns.refl [] w4).alloc (.cells (frc F (.slice A7 F.tok.st.length c7) (.slice A8 F.tok.rows.length c8)) 41)
      have B5 := Blk.new w4 (frc F (.slice A7 F.tok.st.length c7) (.slice A8 F.tok.rows.length c8)) 41
      have B6 := B4.turns ta4 (by simp)
      have hBo : Both m w0 _ b d n2 o := ⟨hr4.turns ta4, hd4.turns ta4, hne, T04.trans ta4, hb0, hd0, Nat.le_trans m3 (Nat.le_trans t4.size ta4.size)⟩
      have Sm := Lib.hid (rsame_is _ F F _ _ _ _ (tk5.far ta4 (by simp)).tok (tk4.turns ta4))
      rw [decide_eq_true rfl] at Sm
      have hBoh := Lib.hid hBo
      clear D2 hr3 T03 m3 B2 t4 tk3 tk4 tk5 hr4 hd4 T04 ta4 B4 hBo
      unfold frv
      unfold frv at Sm
      go_upto_region 6 with fail
      generalize w4.alloc (.cells (frc F (.slice A7 F.tok.st.length c7) (.slice A8 F.tok.rows.length c8)) 41) = w5 at *
      generalize w4.heap.size = x5 at *
      have u0 : World.cell? (w5) ⟨x3, 0, none⟩ = some _ := (B6).cell 0
      have u1 : World.cell? (w5) ⟨x3, 1, none⟩ = some _ := (B6).cell 1
      have u2 : World.cell? (w5) ⟨x3, 2, none⟩ = some _ := (B6).cell 2
      have u3 : World.cell? (w5) ⟨x3, 3, none⟩ = some _ := (B6).cell 3
      have u4 : World.cell? (w5) ⟨x3, 4, none⟩ = some _ := (B6).cell 4
      have u5 : World.cell? (w5) ⟨x3, 5, none⟩ = some _ := (B6).cell 5
      have u6 : World.cell? (w5) ⟨x3, 6, none⟩ = some _ := (B6).cell 6
      have u7 : World.cell? (w5) ⟨x3, 7, none⟩ = some _ := (B6).cell 7
      have u8 : World.cell? (w5) ⟨x3, 8, none⟩ = some _ := (B6).cell 8
      have u9 : World.cell? (w5) ⟨x3, 9, none⟩ = some _ := (B6).cell 9
      have u10 : World.cell? (w5) ⟨x3, 10, none⟩ = some _ := (B6).cell 10
      have y0 : World.cell? (w5) ⟨x5, 0, none⟩ = some _ := (B5).cell 0
      have y1 : World.cell? (w5) ⟨x5, 1, none⟩ = some _ := (B5).cell 1
      have y2 : World.cell? (w5) ⟨x5, 2, none⟩ = some _ := (B5).cell 2
      have y3 : World.cell? (w5) ⟨x5, 3, none⟩ = some _ := (B5).cell 3
      have y4 : World.cell? (w5) ⟨x5, 4, none⟩ = some _ := (B5).cell 4
      have y5 : World.cell? (w5) ⟨x5, 5, none⟩ = some _ := (B5).cell 5
      have y6 : World.cell? (w5) ⟨x5, 6, none⟩ = some _ := (B5).cell 6
      have y7 : World.cell? (w5) ⟨x5, 7, none⟩ = some _ := (B5).cell 7
      have y8 : World.cell? (w5) ⟨x5, 8, none⟩ = some _ := (B5).cell 8
      have y9 : World.cell? (w5) ⟨x5, 9, none⟩ = some _ := (B5).cell 9
      have y10 : World.cell? (w5) ⟨x5, 10, none⟩ = some _ := (B5).cell 10
      go_wp2_with fail
      go_at_call 17
      refine Calls.mono (Sm.out) ?_
      rintro e w6 ⟨rfl, t6⟩
      have hB := hBoh.out
      have hX := hXh.out w6 ⟨hB.r.turns t6, hB.doc.turns t6, hB.ne, hB.t.trans t6, hB.hb, hB.hd, Nat.le_trans hB.m t6.size⟩
      clear hB hBoh hXh Sm u0 u1 u2 u3 u4 u5 u6 u7 u8 u9 u10 y0 y1 y2 y3 y4 y5 y6 y7 y8 y9 y10
      have g9 : (is == is) = true := by cases is <;> rfl
      go_wp2_with fail
      exact hX
    · have e2 : (k.tmod 7 == 2) = false := by simp [c2]
      have e3 : (k.tmod 7 == 3) = true := by simpa using c2
      clear c2
      go_enter Try.func10, Try.ntmps10
      go_upto_region 1 with fail
      try rw [hw1]
      try rw [hab]
      clear hw1 hab
      go_wp2_with fail
      go_at_call 12
      refine Calls.mono C1.out ?_
      rintro e w2 ⟨s2, r2, rfl, tk2, hr2, t2⟩
      have hd2 := h0h.out.doc.far t2 (by simpa using hbm) (by simpa using hne.symm)
      have T02 := h0h.out.t.then t2 (by intro i hi; simp at hi; subst hi; exact .inr hb0)
      have hdl1 := h0h.out.doc.lt
      obtain ⟨A5, c5, A6, c6, rfl, rfl⟩ := frc_form (g := heldF o) tk2.tok
      have ta2 := (Turns.refl [] w2).alloc (.cells (frc (heldF o) (.slice A5 (heldF o).tok.st.length c5) (.slice A6 (heldF o).tok.rows.length c6)) 41)
      have B2 := Blk.new w2 (frc (heldF o) (.slice A5 (heldF o).tok.st.length c5) (.slice A6 (heldF o).tok.rows.length c6)) 41
      have T03 := T02.trans ta2
      have hr3 := hr2.turns ta2
      have hd3 := hd2.turns ta2
      have tk3 := tk2.far ta2 (by simp)
      have hd2l := hd2.lt
      have D2 := Lib.hid (D1.out _ hd3 T03)
      have m3 : m ≤ (w2.alloc (.cells (frc (heldF o) (.slice A5 (heldF o).tok.st.length c5) (.slice A6 (heldF o).tok.rows.length c6)) 41)).heap.size := Nat.le_trans h0h.out.m (Nat.le_trans t2.size ta2.size)
      clear C1 D1 h0h t2 hr2 hd2 T02 ta2 tk2 hd3
      unfold frv
      generalize heldF o = F at *
      generalize o.isSome = is at *
      generalize heldN o n = n2 at *
      go_upto_region 5 with fail
      generalize w2.alloc (.cells (frc F (.slice A5 F.tok.st.length c5) (.slice A6 F.tok.rows.length c6)) 41) = w3 at *
      generalize w2.heap.size = x3 at *
      clear a0
      go_wp2_with fail
      go_at_call 35
      refine Calls.mono D2.out ?_
      rintro e w4 ⟨s4, r4, rfl, tk4, hd4, t4⟩
      have hr4 := hr3.far t4 (by simpa using hdm) (by simpa using hne)
      have T04 := T03.then t4 (by intro i hi; simp at hi; subst hi; exact .inr hd0)
      have B4 := B2.turns t4 (by simp; omega)
      have tk5 := tk3.far t4 (by simpa using hdl1)
      obtain ⟨A7, c7, A8, c8, rfl, rfl⟩ := frc_form (g := F) tk4
      have ta4 := (Turns.refl [] w4).alloc (.cells (frc F (.slice A7 F.tok.st.length c7) (.slice A8 F.tok.rows.length c8)) 41)
      have B5 := Blk.new w4 (frc F (.slice A7 F.tok.st.length c7) (.slice A8 F.tok.rows.length c8)) 41
      have B6 := B4.turns ta4 (by simp)
      have hBo : Both m w0 _ b d n2 o := ⟨hr4.turns ta4, hd4.turns ta4, hne, T04.trans ta4, hb0, hd0, Nat.le_trans m3 (Nat.le_trans t4.size ta4.size)⟩
      have Sm := Lib.hid (rsame_is _ F F _ _ _ _ (tk5.far ta4 (by simp)).tok (tk4.turns ta4))
      rw [decide_eq_true rfl] at Sm
      have hBoh := Lib.hid hBo
      clear D2 hr3 T03 m3 B2 t4 tk3 tk4 tk5 hr4 hd4 T04 ta4 B4 hBo
      unfold frv
      unfold frv at Sm
      go_upto_region 6 with fail
      generalize w4.alloc (.cells (frc F (.slice A7 F.tok.st.length c7) (.slice A8 F.tok.rows.length c8)) 41) = w5 at *
      generalize w4.heap.size = x5 at *
      have u0 : World.cell? (w5) ⟨x3, 0, none⟩ = some _ := (B6).cell 0
      have u1 : World.cell? (w5) ⟨x3, 1, none⟩ = some _ := (B6).cell 1
      have u2 : World.cell? (w5) ⟨x3, 2, none⟩ = some _ := (B6).cell 2
      have u3 : World.cell? (w5) ⟨x3, 3, none⟩ = some _ := (B6).cell 3
      have u4 : World.cell? (w5) ⟨x3, 4, none⟩ = some _ := (B6).cell 4
      have u5 : World.cell? (w5) ⟨x3, 5, none⟩ = some _ := (B6).cell 5
      have u6 : World.cell? (w5) ⟨x3, 6, none⟩ = some _ := (B6).cell 6
      have u7 : World.cell? (w5) ⟨x3, 7, none⟩ = some _ := (B6).cell 7
      have u8 : World.cell? (w5) ⟨x3, 8, none⟩ = some _ := (B6).cell 8
      have u9 : World.cell? (w5) ⟨x3, 9, none⟩ = some _ := (B6).cell 9
      have u10 : World.cell? (w5) ⟨x3, 10, none⟩ = some _ := (B6).cell 10
      have y0 : World.cell? (w5) ⟨x5, 0, none⟩ = some _ := (B5).cell 0
      have y1 : World.cell? (w5) ⟨x5, 1, none⟩ = some _ := (B5).cell 1
      have y2 : World.cell? (w5) ⟨x5, 2, none⟩ = some _ := (B5).cell 2
      have y3 : World.cell? (w5) ⟨x5, 3, none⟩ = some _ := (B5).cell 3
      have y4 : World.cell? (w5) ⟨x5, 4, none⟩ = some _ := (B5).cell 4
      have y5 : World.cell? (w5) ⟨x5, 5, none⟩ = some _ := (B5).cell 5
      have y6 : World.cell? (w5) ⟨x5, 6, none⟩ = some _ := (B5).cell 6
      have y7 : World.cell? (w5) ⟨x5, 7, none⟩ = some _ := (B5).cell 7
      have y8 : World.cell? (w5) ⟨x5, 8, none⟩ = some _ := (B5).cell 8
      have y9 : World.cell? (w5) ⟨x5, 9, none⟩ = some _ := (B5).cell 9
      have y10 : World.cell? (w5) ⟨x5, 10, none⟩ = some _ := (B5).cell 10
      go_wp2_with fail
      go_at_call 17
      refine Calls.mono (Sm.out) ?_
      rintro e w6 ⟨rfl, t6⟩
      have hB := hBoh.out
      have hX := hXh.out w6 ⟨hB.r.turns t6, hB.doc.turns t6, hB.ne, hB.t.trans t6, hB.hb, hB.hd, Nat.le_trans hB.m t6.size⟩
      clear hB hBoh hXh Sm u0 u1 u2 u3 u4 u5 u6 u7 u8 u9 u10 y0 y1 y2 y3 y4 y5 y6 y7 y8 y9 y10
      have g9 : (is == is) = true := by cases is <;> rfl
      go_wp2_with fail
      exact hX
  · rw [if_neg c2, if_neg c2] at hXh
    have e2 : (k.tmod 7 == 2) = false := by simpa using fun e => c2 (.inl e)
    have e3 : (k.tmod 7 == 3) = false := by simpa using fun e => c2 (.inr e)
    clear c2
    by_cases c4 : k.tmod 7 = 4 ∨ k.tmod 7 = 5
    · rw [if_pos c4] at hXh
      have C1 := Lib.hid (ack_u m w1 b n o f _ _ h0.r (hth.out.turns h0.t) (by have := hfh.out.1; omega))
      have D1 := Lib.hid (fun W (hD : IsDoc m w0 W d n o) (t : Turns [] w0 W) => dack_is m w0 W d n o f _ _ hD (hth.out.turns t))
      unfold frv at C1 D1
      generalize ackO o f = q4 at *
      have g9 : (q4 == q4) = true := by cases q4 <;> rfl
      clear h0 a12 a13 hth hfh
      rcases c4 with c4 | c4
      · have e4 : (k.tmod 7 == 4) = true := by simpa using c4
        clear c4
        go_enter Try.func10, Try.ntmps10
        go_upto_region 1 with fail
        try rw [hw1]
        try rw [hab]
        clear hw1 hab
        go_wp2_with fail
        go_at_call 14
        refine Calls.mono C1.out ?_
        rintro e w2 ⟨rfl, hr2, t2⟩
        have hd2 := h0h.out.doc.far t2 (by simpa using hbm) (by simpa using hne.symm)
        have T02 := h0h.out.t.then t2 (by intro i hi; simp at hi; subst hi; exact .inr hb0)
        have B2 := A0.turns t2 (by simp; omega)
        have D2 := Lib.hid (D1.out _ hd2 T02)
        have m2 := Nat.le_trans h0h.out.m t2.size
        clear a0 a1 a2 a3 a4 a5 a6 a7 a8 a9 a10 a11 C1 D1 t2 hd2
        have a1 : World.cell? (w2) ⟨ab, 1, none⟩ = some _ := (B2).cell 1
        have a2 : World.cell? (w2) ⟨ab, 2, none⟩ = some _ := (B2).cell 2
        have a3 : World.cell? (w2) ⟨ab, 3, none⟩ = some _ := (B2).cell 3
        have a4 : World.cell? (w2) ⟨ab, 4, none⟩ = some _ := (B2).cell 4
        have a5 : World.cell? (w2) ⟨ab, 5, none⟩ = some _ := (B2).cell 5
        have a6 : World.cell? (w2) ⟨ab, 6, none⟩ = some _ := (B2).cell 6
        have a7 : World.cell? (w2) ⟨ab, 7, none⟩ = some _ := (B2).cell 7
        have a8 : World.cell? (w2) ⟨ab, 8, none⟩ = some _ := (B2).cell 8
        have a9 : World.cell? (w2) ⟨ab, 9, none⟩ = some _ := (B2).cell 9
        have a10 : World.cell? (w2) ⟨ab, 10, none⟩ = some _ := (B2).cell 10
        have a11 : World.cell? (w2) ⟨ab, 11, none⟩ = some _ := (B2).cell 11
        go_wp2_with fail
        go_at_call 36
        refine Calls.mono D2.out ?_
        rintro e w4 ⟨rfl, hd4, t4⟩
        have hX := hXh.out w4 ⟨hr2.far t4 (by simpa using hdm) (by simpa using hne), hd4, hne, T02.then t4 (by intro i hi; simp at hi; subst hi; exact .inr hd0), hb0, hd0, Nat.le_trans m2 t4.size⟩
        clear D2 hXh T02 B2 hr2 hd4 t4 h0h
        go_wp2_with fail
        exact hX
      · have e4 : (k.tmod 7 == 4) = false := by simp [c4]
        have e5 : (k.tmod 7 == 5) = true := by simpa using c4
        clear c4
        go_enter Try.func10, Try.ntmps10
        go_upto_region 1 with fail
        try rw [hw1]
        try rw [hab]
        clear hw1 hab
        go_wp2_with fail
        go_at_call 14
        refine Calls.mono C1.out ?_
        rintro e w2 ⟨rfl, hr2, t2⟩
        have hd2 := h0h.out.doc.far t2 (by simpa using hbm) (by simpa using hne.symm)
        have T02 := h0h.out.t.then t2 (by intro i hi; simp at hi; subst hi; exact .inr hb0)
        have B2 := A0.turns t2 (by simp; omega)
        have D2 := Lib.hid (D1.out _ hd2 T02)
        have m2 := Nat.le_trans h0h.out.m t2.size
        clear a0 a1 a2 a3 a4 a5 a6 a7 a8 a9 a10 a11 C1 D1 t2 hd2
        have a1 : World.cell? (w2) ⟨ab, 1, none⟩ = some _ := (B2).cell 1
        have a2 : World.cell? (w2) ⟨ab, 2, none⟩ = some _ := (B2).cell 2
        have a3 : World.cell? (w2) ⟨ab, 3, none⟩ = some _ := (B2).cell 3
        have a4 : World.cell? (w2) ⟨ab, 4, none⟩ = some _ := (B2).cell 4
        have a5 : World.cell? (w2) ⟨ab, 5, none⟩ = some _ := (B2).cell 5
        have a6 : World.cell? (w2) ⟨ab, 6, none⟩ = some _ := (B2).cell 6
        have a7 : World.cell? (w2) ⟨ab, 7, none⟩ = some _ := (B2).cell 7
        have a8 : World.cell? (w2) ⟨ab, 8, none⟩ = some _ := (B2).cell 8
        have a9 : World.cell? (w2) ⟨ab, 9, none⟩ = some _ := (B2).cell 9
        have a10 : World.cell? (w2) ⟨ab, 10, none⟩ = some _ := (B2).cell 10
        have a11 : World.cell? (w2) ⟨ab, 11, none⟩ = some _ := (B2).cell 11
        go_wp2_with fail
        go_at_call 36
        refine Calls.mono D2.out ?_
        rintro e w4 ⟨rfl, hd4, t4⟩
        have hX := hXh.out w4 ⟨hr2.far t4 (by simpa using hdm) (by simpa using hne), hd4, hne, T02.then t4 (by intro i hi; simp at hi; subst hi; exact .inr hd0), hb0, hd0, Nat.le_trans m2 t4.size⟩
        clear D2 hXh T02 B2 hr2 hd4 t4 h0h
        go_wp2_with fail
        exact hX
    · rw [if_neg c4] at hXh
      have e4 : (k.tmod 7 == 4) = false := by simpa using fun e => c4 (.inl e)
      have e5 : (k.tmod 7 == 5) = false := by simpa using fun e => c4 (.inr e)
      clear c4
      by_cases c6 : k.tmod 7 = 6
      · rw [if_pos c6] at hXh
        have e6 : (k.tmod 7 == 6) = true := by simpa using c6
        have C1 := Lib.hid (drop_u m w1 b n o g q h0.r)
        have D1 := Lib.hid (fun W (hD : IsDoc m w0 W d n o) => ddrop_is m w0 W d n o g q hD)
        generalize dropO o g q = q4 at *
        have g9 : (q4 == q4) = true := by cases q4 <;> rfl
        clear h0 a1 a2 a3 a4 a5 a6 a7 a8 a9 a10 a11 hth hfh c6
        go_enter Try.func10, Try.ntmps10
        go_upto_region 1 with fail
        try rw [hw1]
        try rw [hab]
        clear hw1 hab
        go_wp2_with fail
        go_at_call 15
        refine Calls.mono C1.out ?_
        rintro e w2 ⟨rfl, hr2, t2⟩
        have hd2 := h0h.out.doc.far t2 (by simpa using hbm) (by simpa using hne.symm)
        have T02 := h0h.out.t.then t2 (by intro i hi; simp at hi; subst hi; exact .inr hb0)
        have B2 := A0.turns t2 (by simp; omega)
        have D2 := Lib.hid (D1.out _ hd2)
        have m2 := Nat.le_trans h0h.out.m t2.size
        clear a0 a12 a13 C1 D1 t2 hd2
        have a12 : World.cell? (w2) ⟨ab, 12, none⟩ = some _ := (B2).cell 12
        have a13 : World.cell? (w2) ⟨ab, 13, none⟩ = some _ := (B2).cell 13
        go_wp2_with fail
        go_at_call 37
        refine Calls.mono D2.out ?_
        rintro e w4 ⟨rfl, hd4, t4⟩
        have hX := hXh.out w4 ⟨hr2.far t4 (by simpa using hdm) (by simpa using hne), hd4, hne, T02.then t4 (by intro i hi; simp at hi; subst hi; exact .inr hd0), hb0, hd0, Nat.le_trans m2 t4.size⟩
        clear D2 hXh T02 B2 hr2 hd4 t4 h0h
        go_wp2_with fail
        exact hX
      · rw [if_neg c6] at hXh
        have e6 : (k.tmod 7 == 6) = false := by simpa using c6
        obtain ⟨⟨r4, o4⟩, hq⟩ : ∃ p, holdR o f = p := ⟨_, rfl⟩
        rw [hq] at hXh
        have hw1l : m ≤ w1.heap.size := h0.m
        have C1 := Lib.hid (hold_is m w1 b n o f _ _ h0.r hw1l (hth.out.turns h0.t) hfh.out r4 o4 hq)
        have D1 := Lib.hid (fun W (hD : IsDoc m w0 W d n o) (t : Turns [] w0 W) (hm : m ≤ W.heap.size) => dhold_is m w0 W d n o f _ _ hD hm hth.out (hth.out.turns t) r4 o4 hq)
        unfold frv at C1 D1
        have g9 : (r4 == r4) = true := by simp
        clear h0 a12 a13 hfh c6 hq
        go_enter Try.func10, Try.ntmps10
        go_upto_region 1 with fail
        try rw [hw1]
        try rw [hab]
        clear hw1 hab
        go_wp2_with fail
        go_at_call 13
        refine Calls.mono C1.out ?_
        rintro e w2 ⟨rfl, hr2, t2⟩
        have hd2 := h0h.out.doc.far t2 (by simpa using hbm) (by simpa using hne.symm)
        have T02 := h0h.out.t.then t2 (by intro i hi; simp at hi; subst hi; exact .inr hb0)
        have B2 := A0.turns t2 (by simp; omega)
        have m2 := Nat.le_trans h0h.out.m t2.size
        have D2 := Lib.hid (D1.out _ hd2 T02 m2)
        clear a0 a1 a2 a3 a4 a5 a6 a7 a8 a9 a10 a11 C1 D1 t2 hd2 hth
        have a1 : World.cell? (w2) ⟨ab, 1, none⟩ = some _ := (B2).cell 1
        have a2 : World.cell? (w2) ⟨ab, 2, none⟩ = some _ := (B2).cell 2
        have a3 : World.cell? (w2) ⟨ab, 3, none⟩ = some _ := (B2).cell 3
        have a4 : World.cell? (w2) ⟨ab, 4, none⟩ = some _ := (B2).cell 4
        have a5 : World.cell? (w2) ⟨ab, 5, none⟩ = some _ := (B2).cell 5
        have a6 : World.cell? (w2) ⟨ab, 6, none⟩ = some _ := (B2).cell 6
        have a7 : World.cell? (w2) ⟨ab, 7, none⟩ = some _ := (B2).cell 7
        have a8 : World.cell? (w2) ⟨ab, 8, none⟩ = some _ := (B2).cell 8
        have a9 : World.cell? (w2) ⟨ab, 9, none⟩ = some _ := (B2).cell 9
        have a10 : World.cell? (w2) ⟨ab, 10, none⟩ = some _ := (B2).cell 10
        have a11 : World.cell? (w2) ⟨ab, 11, none⟩ = some _ := (B2).cell 11
        go_wp2_with fail
        go_at_call 38
        refine Calls.mono D2.out ?_
        rintro e w4 ⟨rfl, hd4, t4⟩
        have hX := hXh.out w4 ⟨hr2.far t4 (by simpa using hdm) (by simpa using hne), hd4, hne, T02.then t4 (by intro i hi; simp at hi; subst hi; exact .inr hd0), hb0, hd0, Nat.le_trans m2 t4.size⟩
        clear D2 hXh T02 B2 hr2 hd4 t4 h0h
        go_wp2_with fail
        exact hX
end Go.Proofs.Ytohokckpheljbaa.Gm
