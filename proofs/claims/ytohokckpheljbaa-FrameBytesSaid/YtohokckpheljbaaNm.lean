/- FrameBytes: the law's walk. -/
import Derived.Test.YtohokckpheljbaaNl
import Derived.Test.YtohokckpheljbaaNi
import Derived.Test.YtohokckpheljbaaHa
set_option linter.unusedVariables false
set_option linter.unusedSimpArgs false
set_option maxRecDepth 100000
namespace Go.Proofs.Ytohokckpheljbaa.Nm
open Go.RowKit Go.MapKept Hm Hs Hr Hb Hf Hg Hv Hx Fa Ff Fg Fi Fj Fq Kw Kn Kr Ks Kt Na Nb Nz Nc Nd Ne_ Nj Nk Nr Nl
theorem dec_right {l : List Int} (hb : Byt l) {f : Fr} (h : decP l = (0, f)) : rightB f = true ∧ encB f = l ∧ 0 ≤ f.bits ∧ f.bits < 18446744073709551616 := by
  obtain ⟨h1, h2⟩ := enc_dec hb h
  refine ⟨h1, h2, ?_⟩
  rcases dec_cases l with q | ⟨g, q1, q2, q3, q4⟩
  · rw [q] at h; cases h
  · rw [q1] at h
    injection h with _ h
    subst h
    rw [← q3]
    exact Nz.bits_ok hb
theorem form_fr {w : World} {f : Fr} {sv rv : Value} (h : TokR w f.tok sv rv) : ∃ A1 c1 A3 c3, sv = .slice A1 f.tok.st.length c1 ∧ rv = .slice A3 f.tok.rows.length c3 := by
  obtain ⟨A1, c1, h1, _⟩ := rform h.st
  obtain ⟨A3, c3, h2, _⟩ := h.rows.form
  exact ⟨A1, c1, A3, c3, h1, h2⟩
set_option maxHeartbeats 8000000 in
theorem frameBytes_is (w : World) (v : Value) (l : List Int) (cut : Int) (hv : RdS 1 w v (bys l)) (hb : Byt l) : Calls Try.prog 5 #[v, .int .i64 cut] w fun e w' => e = .returned (.bool true) ∧ Turns [] w w' := by
  obtain ⟨X, hX⟩ : ∃ X : Ending → World → Prop, X = fun e w' => e = .returned (.bool true) ∧ Turns [] w w' := ⟨_, rfl⟩
  rw [← hX]
  have hXh : Hid (∀ w', Turns [] w w' → X (.returned (.bool true)) w') := Lib.hid (fun w' h => by rw [hX]; exact ⟨rfl, h⟩)
  have hcv : Hid (∀ (W : World) (v : Value) (l : List Int), RdS 1 W v (bys l) → (convert 55 9 v).run Try.prog W = .ok (.string (strB l)) W) := Lib.hid (fun W v l h => RdS.str (P := Try.prog) (dst := 9) h Try.underlying55 Try.underlying5 Try.underlying9)
  obtain ⟨A, c, rfl, hlc, hcm⟩ := hv.form
  rw [bys_len] at hlc ⊢
  have hvh := Lib.hid hv
  rw [bys_len] at hvh
  have hbh := Lib.hid hb
  clear hX hv hb
  by_cases hlong : (l.length : Int) > 4000
  · have g1 := decide_eq_true hlong
    clear hlong
    go_enter Try.func5, Try.ntmps5
    go_wp2_with fail
    go_at_call 18
    refine Calls.mono (alive_is _) ?_
    rintro e w1 ⟨rfl, t1⟩
    have hX := hXh.out _ t1
    go_wp2_with fail
    exact hX
  · have g1 : decide ((l.length : Int) > 4000) = false := decide_eq_false hlong
    have hl : l.length ≤ 1000000 := by omega
    clear hlong
    go_enter Try.func5, Try.ntmps5
    obtain ⟨⟨q, f⟩, hd⟩ : ∃ p, decP l = p := ⟨_, rfl⟩
    have De := Nf.decode_is w _ l hvh.out hl hbh.out
    have Pa := Lib.hid (fun W (t : Turns [] w W) => Ni.parse_is W _ l (hvh.out.mv (fun a u => t.old)) hl hbh.out)
    rw [hd] at De Pa
    have Deh := Lib.hid De
    have hdh := Lib.hid hd
    clear De hd
    go_wp2_with fail
    go_at_call 19
    refine Calls.mono (Deh.out) ?_
    rintro e w1 ⟨s1, r1, rfl, k1, t1⟩
    obtain ⟨A1, c1, A2, c2, rfl, rfl⟩ := form_fr k1
    have T1 := t1.alloc (.cells (frc f (.slice A1 f.tok.st.length c1) (.slice A2 f.tok.rows.length c2)) 41)
    have B1 := Lib.hid (Blk.new w1 (frc f (.slice A1 f.tok.st.length c1) (.slice A2 f.tok.rows.length c2)) 41)
    have k1' := Lib.hid (k1.turns ((Turns.refl [] w1).alloc (.cells (frc f (.slice A1 f.tok.st.length c1) (.slice A2 f.tok.rows.length c2)) 41)))
    unfold frv
    clear Deh k1 t1
    simp only
    go_upto_region 4 with fail
    generalize w1.alloc (.cells (frc f (.slice A1 f.tok.st.length c1) (.slice A2 f.tok.rows.length c2)) 41) = w2 at *
    generalize w1.heap.size = b1 at *
    go_wp2_with fail
    go_at_call 20
    refine Calls.mono (Pa.out _ T1) ?_
    rintro e w3 ⟨s3, r3, rfl, k3, t3⟩
    obtain ⟨A3, c3, A4, c4, rfl, rfl⟩ := form_fr k3
    have T3 := (T1.trans t3).alloc (.cells (frc f (.slice A3 f.tok.st.length c3) (.slice A4 f.tok.rows.length c4)) 41)
    have ta := (Turns.refl [] w3).alloc (.cells (frc f (.slice A3 f.tok.st.length c3) (.slice A4 f.tok.rows.length c4)) 41)
    have B3 := Lib.hid (Blk.new w3 (frc f (.slice A3 f.tok.st.length c3) (.slice A4 f.tok.rows.length c4)) 41)
    have B1' := Lib.hid ((B1.out.turns t3 (by simp)).turns ta (by simp))
    have k3' := Lib.hid (k3.turns ta)
    have k1'' := Lib.hid ((k1'.out.turns t3).turns ta)
    unfold frv
    clear Pa k3 k1' B1 T1 t3 ta
    simp only
    go_upto_region 5 with fail
    generalize w3.alloc (.cells (frc f (.slice A3 f.tok.st.length c3) (.slice A4 f.tok.rows.length c4)) 41) = w4 at *
    generalize w3.heap.size = b3 at *
    have Sm := Lib.hid (rsame_is w4 f f _ _ _ _ k1''.out k3'.out)
    rw [decide_eq_true rfl] at Sm
    unfold frv at Sm
    have x0 : World.cell? (w4) ⟨b1, 0, none⟩ = some _ := (B1'.out).cell 0
    have x1 : World.cell? (w4) ⟨b1, 1, none⟩ = some _ := (B1'.out).cell 1
    have x2 : World.cell? (w4) ⟨b1, 2, none⟩ = some _ := (B1'.out).cell 2
    have x3 : World.cell? (w4) ⟨b1, 3, none⟩ = some _ := (B1'.out).cell 3
    have x4 : World.cell? (w4) ⟨b1, 4, none⟩ = some _ := (B1'.out).cell 4
    have x5 : World.cell? (w4) ⟨b1, 5, none⟩ = some _ := (B1'.out).cell 5
    have x6 : World.cell? (w4) ⟨b1, 6, none⟩ = some _ := (B1'.out).cell 6
    have x7 : World.cell? (w4) ⟨b1, 7, none⟩ = some _ := (B1'.out).cell 7
    have x8 : World.cell? (w4) ⟨b1, 8, none⟩ = some _ := (B1'.out).cell 8
    have x9 : World.cell? (w4) ⟨b1, 9, none⟩ = some _ := (B1'.out).cell 9
    have x10 : World.cell? (w4) ⟨b1, 10, none⟩ = some _ := (B1'.out).cell 10
    have y0 : World.cell? (w4) ⟨b3, 0, none⟩ = some _ := (B3.out).cell 0
    have y1 : World.cell? (w4) ⟨b3, 1, none⟩ = some _ := (B3.out).cell 1
    have y2 : World.cell? (w4) ⟨b3, 2, none⟩ = some _ := (B3.out).cell 2
    have y3 : World.cell? (w4) ⟨b3, 3, none⟩ = some _ := (B3.out).cell 3
    have y4 : World.cell? (w4) ⟨b3, 4, none⟩ = some _ := (B3.out).cell 4
    have y5 : World.cell? (w4) ⟨b3, 5, none⟩ = some _ := (B3.out).cell 5
    have y6 : World.cell? (w4) ⟨b3, 6, none⟩ = some _ := (B3.out).cell 6
    have y7 : World.cell? (w4) ⟨b3, 7, none⟩ = some _ := (B3.out).cell 7
    have y8 : World.cell? (w4) ⟨b3, 8, none⟩ = some _ := (B3.out).cell 8
    have y9 : World.cell? (w4) ⟨b3, 9, none⟩ = some _ := (B3.out).cell 9
    have y10 : World.cell? (w4) ⟨b3, 10, none⟩ = some _ := (B3.out).cell 10
    go_wp2_with fail
    go_at_call 17
    refine Calls.mono (Sm.out) ?_
    rintro e w5 ⟨rfl, t5⟩
    have T5 := T3.trans t5
    have B5 := Lib.hid (B1'.out.turns t5 (by simp))
    have k5 := Lib.hid (k1''.out.turns t5)
    clear x0 x1 x2 x3 x4 x5 x6 x7 x8 x9 x10 y0 y1 y2 y3 y4 y5 y6 y7 y8 y9 y10 Sm B1' B3 k1'' k3' T3 t5
    have hqq : (q != q) = false := by simp
    by_cases hq0 : q = 0
    · subst hq0
      obtain ⟨r1, r2, r3, r4⟩ := dec_right hbh.out hdh.out
      have En := encode_ok w5 f _ _ k5.out r1 ⟨r3, r4⟩
      rw [r2] at En
      have Enh := Lib.hid En
      unfold frv at Enh
      have x0 : World.cell? (w5) ⟨b1, 0, none⟩ = some _ := (B5.out).cell 0
      have x1 : World.cell? (w5) ⟨b1, 1, none⟩ = some _ := (B5.out).cell 1
      have x2 : World.cell? (w5) ⟨b1, 2, none⟩ = some _ := (B5.out).cell 2
      have x3 : World.cell? (w5) ⟨b1, 3, none⟩ = some _ := (B5.out).cell 3
      have x4 : World.cell? (w5) ⟨b1, 4, none⟩ = some _ := (B5.out).cell 4
      have x5 : World.cell? (w5) ⟨b1, 5, none⟩ = some _ := (B5.out).cell 5
      have x6 : World.cell? (w5) ⟨b1, 6, none⟩ = some _ := (B5.out).cell 6
      have x7 : World.cell? (w5) ⟨b1, 7, none⟩ = some _ := (B5.out).cell 7
      have x8 : World.cell? (w5) ⟨b1, 8, none⟩ = some _ := (B5.out).cell 8
      have x9 : World.cell? (w5) ⟨b1, 9, none⟩ = some _ := (B5.out).cell 9
      have x10 : World.cell? (w5) ⟨b1, 10, none⟩ = some _ := (B5.out).cell 10
      clear En r1 r2 r3 r4 k5
      go_wp2_with fail
      go_at_call 21
      refine Calls.mono (Enh.out) ?_
      rintro e w6 ⟨v6, rfl, o6, t6, hn6⟩
      obtain ⟨A6, c6, hv6, _⟩ := o6.form
      rw [bys_len] at hv6
      subst hv6
      have T6 := T5.trans t6
      have cv1 := hcv.out _ _ _ o6.reads
      have cv2 := hcv.out _ _ _ (hvh.out.mv (fun a u => T6.old))
      clear x0 x1 x2 x3 x4 x5 x6 x7 x8 x9 x10 Enh o6 t6 hn6 B5 T5 hqq
      by_cases hc : cut < 0 ∨ (l.length : Int) ≤ cut
      · rcases hc with hc | hc
        · have g2 := decide_eq_true hc
          clear hc
          go_wp2_with fail
          go_at_call 18
          refine Calls.mono (alive_is _) ?_
          rintro e w7 ⟨rfl, t7⟩
          have hX := hXh.out _ (T6.trans t7)
          clear cv1 cv2
          go_wp2_with fail
          exact hX
        · have g2 : decide (cut < 0) = false := decide_eq_false (by omega)
          have g3 : decide (cut ≥ (l.length : Int)) = true := decide_eq_true hc
          clear hc
          go_wp2_with fail
          go_at_call 18
          refine Calls.mono (alive_is _) ?_
          rintro e w7 ⟨rfl, t7⟩
          have hX := hXh.out _ (T6.trans t7)
          clear cv1 cv2
          go_wp2_with fail
          exact hX
      · obtain ⟨k, rfl⟩ : ∃ k : Nat, cut = k := ⟨cut.toNat, by omega⟩
        have hkl : k < l.length := by omega
        have g2 : decide ((k : Int) < 0) = false := decide_eq_false (by omega)
        have g3 : decide ((k : Int) ≥ (l.length : Int)) = false := decide_eq_false (by omega)
        have g4 : decide (l.length ≤ k) = false := decide_eq_false (by omega)
        have hkc : k ≤ c := by omega
        have hcut := RdS.take (hvh.out.mv (fun a u => T6.old)) (k := k) (by rw [bys_len]; omega)
        rw [bys_take] at hcut
        have D2 := Nf.decode_is w6 _ (l.take k) hcut (by rw [List.length_take]; omega) (hbh.out.take k)
        rw [dec_cut hbh.out hdh.out k hkl] at D2
        have D2h := Lib.hid D2
        clear hc hcut D2
        go_wp2_with fail
        go_at_call 19
        refine Calls.mono (D2h.out) ?_
        rintro e w7 ⟨s7, r7, rfl, k7, t7⟩
        obtain ⟨A7, c7, A8, c8, rfl, rfl⟩ := form_fr k7
        have T7 := (T6.trans t7).alloc (.cells (frc zeroFr (.slice A7 zeroFr.tok.st.length c7) (.slice A8 zeroFr.tok.rows.length c8)) 41)
        clear cv1 cv2 k7 t7 D2h
        unfold frv
        simp only
        go_upto_region 16 with fail
        generalize w7.alloc (.cells (frc zeroFr (.slice A7 zeroFr.tok.st.length c7) (.slice A8 zeroFr.tok.rows.length c8)) 41) = w8 at *
        go_wp2_with fail
        go_at_call 18
        refine Calls.mono (alive_is _) ?_
        rintro e w9 ⟨rfl, t9⟩
        have hX := hXh.out _ (T7.trans t9)
        go_wp2_with fail
        exact hX
    · have g2 : (q != 0) = true := by simpa using hq0
      clear hq0 B5 k5
      go_wp2_with fail
      go_at_call 18
      refine Calls.mono (alive_is _) ?_
      rintro e w7 ⟨rfl, t7⟩
      have hX := hXh.out _ (T5.trans t7)
      go_wp2_with fail
      exact hX
theorem bytes_opened {H : Type} (enc : TypeId × Value → H) (W : World) {base : Nat} {v0 v1 : Value} {d0 d1 : DataW H} {p0 p1 : List MemPlace} (h0 : DataW.Trod enc Try.prog W 0 (fun _ => true) true 55 v0 d0 p0)
    (h1 : DataW.Trod enc Try.prog W 0 (fun _ => true) true 3 v1 d1 p1)
    (o0 : Value.okWide Try.prog W .any base 55 v0) (o1 : Value.okWide Try.prog W .any base 3 v1) :
    Calls Try.prog 5 #[v0, v1] W fun e w' => e = .returned (.bool true) ∧ Below W.heap.size W w' := by
  obtain ⟨l, hl, hb⟩ := Hn.kSlice.bytes (Ha.arg_slice Try.underlying55 (Hn.nInt Try.underlying5 (by kernel_rfl)) (by kernel_rfl) h0 o0)
  obtain ⟨cut, rfl, _⟩ := Ha.arg_int Try.underlying3 (by kernel_rfl) h1 o1
  exact (frameBytes_is W v0 l cut hl hb).mono fun e w' ⟨he, t⟩ => ⟨he, t.isBelow⟩
end Go.Proofs.Ytohokckpheljbaa.Nm
