/- The walks of package relay: Hold. -/
import Derived.Test.YtohokckpheljbaaGb
set_option linter.unusedVariables false
set_option linter.unusedSimpArgs false
set_option maxRecDepth 100000
namespace Go.Proofs.Ytohokckpheljbaa.Gc
open Go.RowKit Go.MapKept Go.Shelf Hm Hs Hf Hx Hy Hv Fa Fb Ff Fg Fi Fj Fq Fr_ Ga Gb
theorem hold_nil (w : World) (f : Fr) (sv rv : Value) (h : TokR w f.tok sv rv) : Calls Try.prog 13 #[.pointer none, frv f sv rv] w fun e w' => e = .returned (.int .i64 1) ∧ Turns [] w w' := by
  obtain ⟨A1, c1, rfl, _⟩ := rform h.st
  obtain ⟨A3, c3, rfl, _⟩ := h.rows.form
  unfold frv
  clear h
  go_enter Try.func13, Try.ntmps13
  go_wp2_with fail
  go_ret
  exact ⟨rfl, (Turns.refl _ _).alloc _⟩
/-- Hold: what is told, what is held -/
def holdR (o : Option Fr) (f : Fr) : Int × Option Fr := if rightB f = false ∨ f.kind ≠ 0 then (1, o) else match o with | some g => (5, some g) | none => (0, some f)
set_option maxHeartbeats 4000000 in
theorem hold_is (m : Nat) (w : World) (b : Nat) (cnt : Int) (o : Option Fr) (f : Fr) (sv rv : Value) (h : IsRelay m w b cnt o) (hmw : m ≤ w.heap.size) (ht : TokR w f.tok sv rv) (hf : fitsT f.tok) (n : Int) (o' : Option Fr) (hq : holdR o f = (n, o')) :
    Calls Try.prog 13 #[.pointer (some ⟨b, 0, none⟩), frv f sv rv] w fun e w' => e = .returned (.int .i64 n) ∧ IsRelay m w' b cnt o' ∧ Turns [b] w w' := by
  have hblt := h.lt
  have hbm := h.bm
  have T0 := (Turns.refl [] w).alloc (.cells (frc f sv rv) 41)
  have R1 := Lib.hid (Fo.right_is _ f sv rv (ht.turns T0) (by have := hf.1; omega))
  have Cl := Lib.hid (fun W (t : Turns [] w W) => clone_is W f.tok sv rv (ht.turns t) hf)
  have B0 := Blk.new w (frc f sv rv) 41
  obtain ⟨A1, c1, rfl, _⟩ := rform ht.st
  obtain ⟨A3, c3, rfl, _⟩ := ht.rows.form
  have hff := Lib.hid hf
  unfold frv
  unfold frv at R1
  unfold tkv at Cl
  have hh := Lib.hid h
  clear h ht hf
  have x0 : World.cell? (w.alloc (.cells (frc f (.slice A1 f.tok.st.length c1) (.slice A3 f.tok.rows.length c3)) 41)) ⟨w.heap.size, 0, none⟩ = some _ := (B0).cell 0
  have x1 : World.cell? (w.alloc (.cells (frc f (.slice A1 f.tok.st.length c1) (.slice A3 f.tok.rows.length c3)) 41)) ⟨w.heap.size, 1, none⟩ = some _ := (B0).cell 1
  have x2 : World.cell? (w.alloc (.cells (frc f (.slice A1 f.tok.st.length c1) (.slice A3 f.tok.rows.length c3)) 41)) ⟨w.heap.size, 2, none⟩ = some _ := (B0).cell 2
  have x3 : World.cell? (w.alloc (.cells (frc f (.slice A1 f.tok.st.length c1) (.slice A3 f.tok.rows.length c3)) 41)) ⟨w.heap.size, 3, none⟩ = some _ := (B0).cell 3
  have x4 : World.cell? (w.alloc (.cells (frc f (.slice A1 f.tok.st.length c1) (.slice A3 f.tok.rows.length c3)) 41)) ⟨w.heap.size, 4, none⟩ = some _ := (B0).cell 4
  have x5 : World.cell? (w.alloc (.cells (frc f (.slice A1 f.tok.st.length c1) (.slice A3 f.tok.rows.length c3)) 41)) ⟨w.heap.size, 5, none⟩ = some _ := (B0).cell 5
  have x6 : World.cell? (w.alloc (.cells (frc f (.slice A1 f.tok.st.length c1) (.slice A3 f.tok.rows.length c3)) 41)) ⟨w.heap.size, 6, none⟩ = some _ := (B0).cell 6
  have x7 : World.cell? (w.alloc (.cells (frc f (.slice A1 f.tok.st.length c1) (.slice A3 f.tok.rows.length c3)) 41)) ⟨w.heap.size, 7, none⟩ = some _ := (B0).cell 7
  have x8 : World.cell? (w.alloc (.cells (frc f (.slice A1 f.tok.st.length c1) (.slice A3 f.tok.rows.length c3)) 41)) ⟨w.heap.size, 8, none⟩ = some _ := (B0).cell 8
  have x9 : World.cell? (w.alloc (.cells (frc f (.slice A1 f.tok.st.length c1) (.slice A3 f.tok.rows.length c3)) 41)) ⟨w.heap.size, 9, none⟩ = some _ := (B0).cell 9
  have x10 : World.cell? (w.alloc (.cells (frc f (.slice A1 f.tok.st.length c1) (.slice A3 f.tok.rows.length c3)) 41)) ⟨w.heap.size, 10, none⟩ = some _ := (B0).cell 10
  unfold holdR at hq
  cases hr : rightB f with
  | false =>
    rw [if_pos (.inl hr)] at hq
    simp only [Prod.mk.injEq] at hq
    obtain ⟨rfl, rfl⟩ := hq
    rw [hr] at R1
    clear hr
    go_enter Try.func13, Try.ntmps13
    go_wp2_with fail
    go_at_call 23
    refine Calls.mono (R1.out) ?_
    rintro e w2 ⟨rfl, t2⟩
    have T2 := T0.trans t2
    have hX := hh.out.turns T2
    go_wp2_with fail
    go_ret
    exact ⟨rfl, hX, T2.mono (by simp)⟩
  | true =>
    rw [hr] at R1
    by_cases hk : f.kind = 0
    · have g0 : (f.kind != 0) = false := by simp [hk]
      rw [if_neg (by rw [hr]; simp [hk])] at hq
      have hkh := Lib.hid hk
      clear hr hk
      go_enter Try.func13, Try.ntmps13
      go_wp2_with fail
      go_at_call 23
      refine Calls.mono (R1.out) ?_
      rintro e w2 ⟨rfl, t2⟩
      have T2 := T0.trans t2
      have B2 := B0.turns t2 (by simp)
      have h2 := hh.out.turns T2
      clear x0 x1 x2 x3 x4 x5 x6 x7 x8 x9 x10 hh
      have x0 : World.cell? (w2) ⟨w.heap.size, 0, none⟩ = some _ := (B2).cell 0
      cases h2 with
      | some hm g hb sv2 rv2 hB hH =>
        simp only [Prod.mk.injEq] at hq
        obtain ⟨rfl, rfl⟩ := hq
        have b0 := hB.cell 0
        have hX : IsRelay m w2 b cnt (some g) := .some hm g hb sv2 rv2 hB hH
        go_wp2_with fail
        go_ret
        exact ⟨rfl, hX, T2.mono (by simp)⟩
      | none hm hB =>
        simp only [Prod.mk.injEq] at hq
        obtain ⟨rfl, rfl⟩ := hq
        have b0 := hB.cell 0
        have x6 : World.cell? (w2) ⟨w.heap.size, 6, none⟩ = some _ := (B2).cell 6
        have x7 : World.cell? (w2) ⟨w.heap.size, 7, none⟩ = some _ := (B2).cell 7
        have x8 : World.cell? (w2) ⟨w.heap.size, 8, none⟩ = some _ := (B2).cell 8
        have x9 : World.cell? (w2) ⟨w.heap.size, 9, none⟩ = some _ := (B2).cell 9
        have x10 : World.cell? (w2) ⟨w.heap.size, 10, none⟩ = some _ := (B2).cell 10
        have Cl2 := Lib.hid (Cl.out _ T2)
        have hB2 := Lib.hid hB
        have hs2 : w.heap.size < w2.heap.size := B2.lt
        clear Cl
        go_wp2_with fail
        go_at_call 33
        refine Calls.mono (Cl2.out) ?_
        rintro e w3 ⟨sv', rv', rfl, tk, t3⟩
        obtain ⟨A5, c5, rfl, _⟩ := rform tk.tok.st
        obtain ⟨A6, c6, rfl, _⟩ := tk.tok.rows.form
        have T3 := T2.trans t3
        clear x0 x6 x7 x8 x9 x10 b0 Cl2
        have hne : w.heap.size ≠ b := by omega
        have H : Sep [b] w [tBlk w.heap.size (frc f (.slice A1 f.tok.st.length c1) (.slice A3 f.tok.rows.length c3)) 41, tBlk b #[.pointer none, .int .i64 cnt] 74] w3 :=
          ⟨T3.mono (by simp), by
            intro T hT
            simp at hT
            rcases hT with rfl | rfl
            · exact B2.turns t3 (by simp)
            · exact hB2.out.turns t3 (by simp), by simp [Apart, tBlk, hne], by
            intro k hk
            simp [fps, tBlk] at hk
            rcases hk with rfl | rfl
            · exact .inr (Nat.le_refl _)
            · exact .inl (by simp)⟩
        generalize w.heap.size = xb at *
        have tkh := Lib.hid tk
        have hHh := Lib.hid H
        clear B2 hB T2 T0 B0 tk
        have x6 : World.cell? (w3) ⟨xb, 6, none⟩ = some _ := (H.blk 0 rfl).cell 6
        have xf6 : World.frozen? (w3) ⟨xb, 6, none⟩ = false := (H.blk 0 rfl).frozen 6
        have x7 : World.cell? (w3) ⟨xb, 7, none⟩ = some _ := (H.blk 0 rfl).cell 7
        have xf7 : World.frozen? (w3) ⟨xb, 7, none⟩ = false := (H.blk 0 rfl).frozen 7
        have x8 : World.cell? (w3) ⟨xb, 8, none⟩ = some _ := (H.blk 0 rfl).cell 8
        have xf8 : World.frozen? (w3) ⟨xb, 8, none⟩ = false := (H.blk 0 rfl).frozen 8
        have x9 : World.cell? (w3) ⟨xb, 9, none⟩ = some _ := (H.blk 0 rfl).cell 9
        have xf9 : World.frozen? (w3) ⟨xb, 9, none⟩ = false := (H.blk 0 rfl).frozen 9
        have x10 : World.cell? (w3) ⟨xb, 10, none⟩ = some _ := (H.blk 0 rfl).cell 10
        have xf10 : World.frozen? (w3) ⟨xb, 10, none⟩ = false := (H.blk 0 rfl).frozen 10
        have b0 : World.cell? (w3) ⟨b, 0, none⟩ = some _ := (H.blk 1 rfl).cell 0
        have bf0 : World.frozen? (w3) ⟨b, 0, none⟩ = false := (H.blk 1 rfl).frozen 0
        have H5 : Sep [b] w [tBlk xb (frc f (.slice A5 f.tok.st.length c5) (.slice A6 f.tok.rows.length c6)) 41, tBlk b #[.pointer none, .int .i64 cnt] 74] _ := ((((H.set 0 rfl 6 (.int .i64 f.tok.gen)).set 0 rfl 7 (.int .i64 f.tok.hop)).set 0 rfl 8 (.slice A5 f.tok.st.length c5)).set 0 rfl 9 (.int .i64 f.tok.start)).set 0 rfl 10 (.slice A6 f.tok.rows.length c6)
        have T5 := (((((Turns.refl [xb] w3).setCell (p := ⟨xb, 6, none⟩) (by simp) (.int .i64 f.tok.gen)).setCell (p := ⟨xb, 7, none⟩) (by simp) (.int .i64 f.tok.hop)).setCell (p := ⟨xb, 8, none⟩) (by simp) (.slice A5 f.tok.st.length c5)).setCell (p := ⟨xb, 9, none⟩) (by simp) (.int .i64 f.tok.start)).setCell (p := ⟨xb, 10, none⟩) (by simp) (.slice A6 f.tok.rows.length c6)
        have H6 := H5.set 1 rfl 0 (.pointer (some ⟨xb, 0, none⟩))
        have T6 := (Turns.refl [b] (((((w3.setCell ⟨xb, 6, none⟩ (.int .i64 f.tok.gen)).setCell ⟨xb, 7, none⟩ (.int .i64 f.tok.hop)).setCell ⟨xb, 8, none⟩ (.slice A5 f.tok.st.length c5)).setCell ⟨xb, 9, none⟩ (.int .i64 f.tok.start)).setCell ⟨xb, 10, none⟩ (.slice A6 f.tok.rows.length c6))).setCell (p := ⟨b, 0, none⟩) (by simp) (.pointer (some ⟨xb, 0, none⟩))
        have tk6 := (tkh.out.far T5 (by intro k hk; simp at hk; omega)).far T6 (by intro k hk; simp at hk; omega)
        have hX := IsRelay.some hbm f xb _ _ (H6.blk 1 rfl) ⟨hmw, H6.blk 0 rfl, tk6.mono (by omega), hff.out⟩
        have hT := H6.t
        clear H H5 T5 H6 T6 tk6 hHh tkh hne
        go_wp2_with fail
        go_ret
        exact ⟨rfl, hX, hT⟩
    · have g0 : (f.kind != 0) = true := by simp [hk]
      rw [if_pos (.inr hk)] at hq
      simp only [Prod.mk.injEq] at hq
      obtain ⟨rfl, rfl⟩ := hq
      clear hr hk
      go_enter Try.func13, Try.ntmps13
      go_wp2_with fail
      go_at_call 23
      refine Calls.mono (R1.out) ?_
      rintro e w2 ⟨rfl, t2⟩
      have T2 := T0.trans t2
      have hX := hh.out.turns T2
      have y0 := (B0.turns t2 (by simp)).cell 0
      go_wp2_with fail
      go_ret
      exact ⟨rfl, hX, T2.mono (by simp)⟩
end Go.Proofs.Ytohokckpheljbaa.Gc
