/- RelaySame: the law's walk. -/
import Derived.Test.YtohokckpheljbaaGn
set_option linter.unusedVariables false
set_option linter.unusedSimpArgs false
set_option maxRecDepth 100000
namespace Go.Proofs.Ytohokckpheljbaa.Go_
open Go.RowKit Go.MapKept Go.Shelf Hm Hs Hf Hx Hy Hv Fa Fb Ff Fg Fi Fj Fq Fr_ Ga Gb Gc Gd Ge Gf Gg Gh Gi Gj Gk Gl Gm Gn
theorem holdR_some (F f : Fr) : ∃ r, holdR (some F) f = (r, some F) ∧ (r == 0) = false := by
  unfold holdR
  split
  · exact ⟨1, rfl, rfl⟩
  · exact ⟨5, rfl, rfl⟩
theorem holdR_none (f : Fr) : (∃ r, holdR none f = (r, none) ∧ (r != 0) = true) ∨ holdR none f = (0, some f) := by
  unfold holdR
  split
  · exact .inl ⟨1, rfl, rfl⟩
  · exact .inr rfl
theorem ackQ_true {g f : Fr} (h : ackQ g f = true) : (f.frm != g.to) = false ∧ (f.to != g.frm) = false ∧ (f.gen != g.tok.gen) = false ∧ (f.hop != g.tok.hop) = false := by
  unfold ackQ at h
  simp only [Bool.and_eq_true] at h
  obtain ⟨_, _, h1, h2, h3, h4⟩ := h
  simp [bne, h1, h2, h3, h4]
theorem newerB_true {g h g2 h2 : Int} (h0 : newerB g h g2 h2 = true) : decide (g < g2) = false ∧ ((g == g2) = false ∨ ((g == g2) = true ∧ decide (h ≤ h2) = false)) := by
  unfold newerB at h0
  split at h0
  · have := of_decide_eq_true h0
    exact ⟨decide_eq_false (by omega), .inr ⟨by simpa, decide_eq_false (by omega)⟩⟩
  · have := of_decide_eq_true h0
    exact ⟨decide_eq_false (by omega), .inl (by simpa using by omega)⟩
theorem heldN_le {o : Option Fr} {n : Int} (h : 0 ≤ n) : 0 ≤ heldN o n ∧ heldN o n ≤ n + 1 := by
  unfold heldN
  cases o <;> simp <;> omega
/-- what stands in a round -/
structure St (m : Nat) (w W : World) (b fb : Nat) (n : Int) (o : Option Fr) (F : Fr) (sv rv : Value) : Prop where
  r : IsRelay m W b n o
  t : Turns [] w W
  hb : w.heap.size ≤ b
  hfb : w.heap.size ≤ fb
  ne : fb ≠ b
  m : m ≤ W.heap.size
  blk : Blk W fb (frc F sv rv) 41
theorem St.turns {m : Nat} {w W W' : World} {b fb : Nat} {n : Int} {o : Option Fr} {F : Fr} {sv rv : Value} (h : St m w W b fb n o F sv rv) (t : Turns [] W W') : St m w W' b fb n o F sv rv :=
  ⟨h.r.turns t, h.t.trans t, h.hb, h.hfb, h.ne, Nat.le_trans h.m t.size, h.blk.turns t (by simp)⟩
theorem St.left {m : Nat} {w W W' : World} {b fb : Nat} {n n' : Int} {o o' : Option Fr} {F : Fr} {sv rv : Value} (h : St m w W b fb n o F sv rv) (t : Turns [b] W W') (hr : IsRelay m W' b n' o') : St m w W' b fb n' o' F sv rv :=
  ⟨hr, h.t.then t (by intro i hi; simp at hi; subst hi; exact .inr h.hb), h.hb, h.hfb, h.ne, Nat.le_trans h.m t.size, h.blk.turns t (by simpa using h.ne)⟩
set_option maxHeartbeats 40000000 in
theorem same_is (w : World) (F : Fr) (sv rv v : Value) (l : List Gk.Act) (hF : TokR w F.tok sv rv) (h : RdS 14 w v (l.map Gk.Act.cells)) (hA : Acts w l) : Calls Try.prog 4 #[frv F sv rv, v] w fun e w' => e = .returned (.bool true) ∧ Turns [] w w' := by
  obtain ⟨X, hX⟩ : ∃ X : Ending → World → Prop, X = fun e w' => e = .returned (.bool true) ∧ Turns [] w w' := ⟨_, rfl⟩
  rw [← hX]
  have hXh : Hid (∀ w', Turns [] w w' → X (.returned (.bool true)) w') := Lib.hid (fun w' h => by rw [hX]; exact ⟨rfl, h⟩)
  clear hX
  have T0 := (Turns.refl [] w).alloc (.cells (frc F sv rv) 41)
  have B0 := Blk.new w (frc F sv rv) 41
  have Fi := Lib.hid (fitsL_is _ v l (h.mv (fun a u => T0.old)) (fun a ha => (hA a ha).turns T0))
  have Fj := Lib.hid (fun W (t : Turns [] w W) => fits_is W F sv rv (hF.turns t))
  obtain ⟨A, c, rfl, hlc, hcm⟩ := h.form
  rw [List.length_map] at hlc Fi ⊢
  have hh := Lib.hid h
  have hAh := Lib.hid hA
  have hFh := Lib.hid hF
  obtain ⟨A1, c1, A3, c3, rfl, rfl⟩ := frc_form hF
  unfold frv
  unfold frv at Fj
  clear h hA hF
  generalize hw1 : w.alloc (.cells (frc F (.slice A1 F.tok.st.length c1) (.slice A3 F.tok.rows.length c3)) 41) = w1 at *
  obtain ⟨fb, hfb⟩ : ∃ fb, w.heap.size = fb := ⟨_, rfl⟩
  rw [hfb] at B0
  cases hq : fitsL l with
  | false =>
    rw [hq] at Fi
    clear hq
    generalize fitsB F.tok = qf at *
    go_enter Try.func4, Try.ntmps4
    go_upto_region 1 with fail
    try rw [hw1]
    try rw [hfb]
    clear hw1
    go_wp2_with fail
    go_at_call 7
    refine Calls.mono (Fi.out) ?_
    rintro e w2 ⟨rfl, t2⟩
    have B2 := B0.turns t2 (by simp)
    have T2 := T0.trans t2
    have Fk := Lib.hid (Fj.out _ T2)
    have x0 : World.cell? (w2) ⟨fb, 0, none⟩ = some _ := (B2).cell 0
    have x1 : World.cell? (w2) ⟨fb, 1, none⟩ = some _ := (B2).cell 1
    have x2 : World.cell? (w2) ⟨fb, 2, none⟩ = some _ := (B2).cell 2
    have x3 : World.cell? (w2) ⟨fb, 3, none⟩ = some _ := (B2).cell 3
    have x4 : World.cell? (w2) ⟨fb, 4, none⟩ = some _ := (B2).cell 4
    have x5 : World.cell? (w2) ⟨fb, 5, none⟩ = some _ := (B2).cell 5
    have x6 : World.cell? (w2) ⟨fb, 6, none⟩ = some _ := (B2).cell 6
    have x7 : World.cell? (w2) ⟨fb, 7, none⟩ = some _ := (B2).cell 7
    have x8 : World.cell? (w2) ⟨fb, 8, none⟩ = some _ := (B2).cell 8
    have x9 : World.cell? (w2) ⟨fb, 9, none⟩ = some _ := (B2).cell 9
    have x10 : World.cell? (w2) ⟨fb, 10, none⟩ = some _ := (B2).cell 10
    go_wp2_with fail
    go_at_call 16
    refine Calls.mono (Fk.out) ?_
    rintro e w3 ⟨rfl, t3⟩
    have T3 := T2.trans t3
    have B3 := B2.turns t3 (by simp)
    clear x0 x1 x2 x3 x4 x5 x6 x7 x8 x9 x10 Fk Fj Fi T2 B2 t2 t3 T0 B0
    go_wp2_with fail
    go_at_call 8
    refine Calls.mono (alive_is _) ?_
    rintro e wz ⟨rfl, tz⟩
    have hX := hXh.out _ (T3.trans tz)
    go_wp2_with fail
    exact hX
  | true =>
    rw [hq] at Fi
    obtain ⟨hl60, hfit⟩ := fitsL_eq hq
    have hfith := Lib.hid hfit
    clear hq hfit
    cases hq2 : fitsB F.tok with
    | false =>
      rw [hq2] at Fj
      clear hq2
      go_enter Try.func4, Try.ntmps4
      go_upto_region 1 with fail
      try rw [hw1]
      try rw [hfb]
      clear hw1
      go_wp2_with fail
      go_at_call 7
      refine Calls.mono (Fi.out) ?_
      rintro e w2 ⟨rfl, t2⟩
      have B2 := B0.turns t2 (by simp)
      have T2 := T0.trans t2
      have Fk := Lib.hid (Fj.out _ T2)
      have x0 : World.cell? (w2) ⟨fb, 0, none⟩ = some _ := (B2).cell 0
      have x1 : World.cell? (w2) ⟨fb, 1, none⟩ = some _ := (B2).cell 1
      have x2 : World.cell? (w2) ⟨fb, 2, none⟩ = some _ := (B2).cell 2
      have x3 : World.cell? (w2) ⟨fb, 3, none⟩ = some _ := (B2).cell 3
      have x4 : World.cell? (w2) ⟨fb, 4, none⟩ = some _ := (B2).cell 4
      have x5 : World.cell? (w2) ⟨fb, 5, none⟩ = some _ := (B2).cell 5
      have x6 : World.cell? (w2) ⟨fb, 6, none⟩ = some _ := (B2).cell 6
      have x7 : World.cell? (w2) ⟨fb, 7, none⟩ = some _ := (B2).cell 7
      have x8 : World.cell? (w2) ⟨fb, 8, none⟩ = some _ := (B2).cell 8
      have x9 : World.cell? (w2) ⟨fb, 9, none⟩ = some _ := (B2).cell 9
      have x10 : World.cell? (w2) ⟨fb, 10, none⟩ = some _ := (B2).cell 10
      go_wp2_with fail
      go_at_call 16
      refine Calls.mono (Fk.out) ?_
      rintro e w3 ⟨rfl, t3⟩
      have T3 := T2.trans t3
      have B3 := B2.turns t3 (by simp)
      clear x0 x1 x2 x3 x4 x5 x6 x7 x8 x9 x10 Fk Fj Fi T2 B2 t2 t3 T0 B0
      go_wp2_with fail
      go_at_call 8
      refine Calls.mono (alive_is _) ?_
      rintro e wz ⟨rfl, tz⟩
      have hX := hXh.out _ (T3.trans tz)
      go_wp2_with fail
      exact hX
    | true =>
      rw [hq2] at Fj
      have hfF := Lib.hid ((fitsB_eq _).1 hq2)
      clear hq2
      go_enter Try.func4, Try.ntmps4
      go_upto_region 1 with fail
      try rw [hw1]
      try rw [hfb]
      clear hw1
      go_wp2_with fail
      go_at_call 7
      refine Calls.mono (Fi.out) ?_
      rintro e w2 ⟨rfl, t2⟩
      have B2 := B0.turns t2 (by simp)
      have T2 := T0.trans t2
      have Fk := Lib.hid (Fj.out _ T2)
      have x0 : World.cell? (w2) ⟨fb, 0, none⟩ = some _ := (B2).cell 0
      have x1 : World.cell? (w2) ⟨fb, 1, none⟩ = some _ := (B2).cell 1
      have x2 : World.cell? (w2) ⟨fb, 2, none⟩ = some _ := (B2).cell 2
      have x3 : World.cell? (w2) ⟨fb, 3, none⟩ = some _ := (B2).cell 3
      have x4 : World.cell? (w2) ⟨fb, 4, none⟩ = some _ := (B2).cell 4
      have x5 : World.cell? (w2) ⟨fb, 5, none⟩ = some _ := (B2).cell 5
      have x6 : World.cell? (w2) ⟨fb, 6, none⟩ = some _ := (B2).cell 6
      have x7 : World.cell? (w2) ⟨fb, 7, none⟩ = some _ := (B2).cell 7
      have x8 : World.cell? (w2) ⟨fb, 8, none⟩ = some _ := (B2).cell 8
      have x9 : World.cell? (w2) ⟨fb, 9, none⟩ = some _ := (B2).cell 9
      have x10 : World.cell? (w2) ⟨fb, 10, none⟩ = some _ := (B2).cell 10
      go_wp2_with fail
      go_at_call 16
      refine Calls.mono (Fk.out) ?_
      rintro e w3 ⟨rfl, t3⟩
      have T3 := T2.trans t3
      have B3 := B2.turns t3 (by simp)
      clear x0 x1 x2 x3 x4 x5 x6 x7 x8 x9 x10 Fk Fj Fi T2 B2 t2 t3 T0 B0
      go_wp2_with fail
      go_at_call 9
      refine Calls.mono (new_is _) ?_
      rintro e w4 ⟨rfl, rfl⟩
      have hS : St (w3.heap.size + 1) w (w3.alloc (.cells zR 74)) w3.heap.size fb 0 none F (.slice A1 F.tok.st.length c1) (.slice A3 F.tok.rows.length c3) :=
        ⟨.none (by omega) (Blk.new w3 zR _), T3.alloc _, T3.size, by omega, by have := B3.lt; omega, by simp, B3.alloc _⟩
      have hSh := Lib.hid hS
      clear hS T3 B3
      generalize w3.alloc (.cells zR 74) = w4 at *
      generalize w3.heap.size + 1 = m at *
      generalize w3.heap.size = b at *
      have hS := hSh.out
      rcases holdR_none F with ⟨r, hr, hr0⟩ | hr
      · have Ho := Lib.hid (hold_is m w4 b 0 none F _ _ hS.r hS.m (hFh.out.turns hS.t) hfF.out _ _ hr)
        unfold frv at Ho
        have x0 : World.cell? (w4) ⟨fb, 0, none⟩ = some _ := (hS.blk).cell 0
        have x1 : World.cell? (w4) ⟨fb, 1, none⟩ = some _ := (hS.blk).cell 1
        have x2 : World.cell? (w4) ⟨fb, 2, none⟩ = some _ := (hS.blk).cell 2
        have x3 : World.cell? (w4) ⟨fb, 3, none⟩ = some _ := (hS.blk).cell 3
        have x4 : World.cell? (w4) ⟨fb, 4, none⟩ = some _ := (hS.blk).cell 4
        have x5 : World.cell? (w4) ⟨fb, 5, none⟩ = some _ := (hS.blk).cell 5
        have x6 : World.cell? (w4) ⟨fb, 6, none⟩ = some _ := (hS.blk).cell 6
        have x7 : World.cell? (w4) ⟨fb, 7, none⟩ = some _ := (hS.blk).cell 7
        have x8 : World.cell? (w4) ⟨fb, 8, none⟩ = some _ := (hS.blk).cell 8
        have x9 : World.cell? (w4) ⟨fb, 9, none⟩ = some _ := (hS.blk).cell 9
        have x10 : World.cell? (w4) ⟨fb, 10, none⟩ = some _ := (hS.blk).cell 10
        clear hS hr
        go_wp2_with fail
        go_at_call 13
        refine Calls.mono (Ho.out) ?_
        rintro e w5 ⟨rfl, hr5, t5⟩
        have T3 := (hSh.out.left t5 hr5).t
        clear x0 x1 x2 x3 x4 x5 x6 x7 x8 x9 x10 hr5 t5
        go_wp2_with fail
        go_at_call 8
        refine Calls.mono (alive_is _) ?_
        rintro e wz ⟨rfl, tz⟩
        have hX := hXh.out _ (T3.trans tz)
        go_wp2_with fail
        exact hX
      · have Ho := Lib.hid (hold_is m w4 b 0 none F _ _ hS.r hS.m (hFh.out.turns hS.t) hfF.out _ _ hr)
        unfold frv at Ho
        have x0 : World.cell? (w4) ⟨fb, 0, none⟩ = some _ := (hS.blk).cell 0
        have x1 : World.cell? (w4) ⟨fb, 1, none⟩ = some _ := (hS.blk).cell 1
        have x2 : World.cell? (w4) ⟨fb, 2, none⟩ = some _ := (hS.blk).cell 2
        have x3 : World.cell? (w4) ⟨fb, 3, none⟩ = some _ := (hS.blk).cell 3
        have x4 : World.cell? (w4) ⟨fb, 4, none⟩ = some _ := (hS.blk).cell 4
        have x5 : World.cell? (w4) ⟨fb, 5, none⟩ = some _ := (hS.blk).cell 5
        have x6 : World.cell? (w4) ⟨fb, 6, none⟩ = some _ := (hS.blk).cell 6
        have x7 : World.cell? (w4) ⟨fb, 7, none⟩ = some _ := (hS.blk).cell 7
        have x8 : World.cell? (w4) ⟨fb, 8, none⟩ = some _ := (hS.blk).cell 8
        have x9 : World.cell? (w4) ⟨fb, 9, none⟩ = some _ := (hS.blk).cell 9
        have x10 : World.cell? (w4) ⟨fb, 10, none⟩ = some _ := (hS.blk).cell 10
        clear hS hr
        go_wp2_with fail
        go_at_call 13
        refine Calls.mono (Ho.out) ?_
        rintro e w5 ⟨rfl, hr5, t5⟩
        have hS5 := Lib.hid (hSh.out.left t5 hr5)
        clear x0 x1 x2 x3 x4 x5 x6 x7 x8 x9 x10 hr5 t5 Ho hSh
        go_wp2_with fail
        go_loopw [8, 9] (fun v8 v9 wr => ∃ (k : Nat) (n : Int) (o : Option Fr), k ≤ l.length ∧ v8 = .bool o.isSome ∧ v9 = .int .i64 k ∧ 0 ≤ n ∧ n ≤ k ∧ (o = none ∨ o = some F) ∧ St m w wr b fb n o F (.slice A1 F.tok.st.length c1) (.slice A3 F.tok.rows.length c3)) (fun v8 v9 _ => l.length - (RowKit.intOf v9).toNat)
        case atStart => exact ⟨0, 0, some F, by omega, rfl, rfl, by omega, by omega, .inr rfl, hS5.out⟩
        case round =>
          clear hS5
          obtain ⟨k, n, o, hk, rfl, rfl, hn0, hnk, ho, hS⟩ := hrel
          by_cases hlt : k < l.length
          · have g1 : decide ((k : Int) < (l.length : Int)) = true := decide_eq_true (by omega)
            have g1b : decide (k < l.length) = true := decide_eq_true hlt
            obtain ⟨x, hx⟩ : ∃ x, l[k]? = some x := ⟨_, List.getElem?_eq_getElem hlt⟩
            obtain ⟨ad, c', hv, LX⟩ := acells_at hh.out hx
            injection hv with e1 e2 e3
            subst e1 e3
            have ht := hAh.out x (List.mem_of_getElem? hx)
            have hfa := Lib.hid (hfith.out x (List.mem_of_getElem? hx))
            obtain ⟨x0, x1, x2, x3, x4, x5, x6, x7, x8, x9, x10, x11, x12, x13⟩ := LX.turns hS.t
            clear hx LX
            obtain ⟨kk, f, sa, ra, g, q⟩ := x
            simp only at ht hfa x0 x1 x2 x3 x4 x5 x6 x7 x8 x9 x10 x11 x12 x13
            have hth := Lib.hid ht
            obtain ⟨A7, c7, A8, c8, rfl, rfl⟩ := frc_form ht
            have Ba := Blk.new wr #[.int .u8 kk, .int .i64 f.kind, .int .i64 f.frm, .int .i64 f.to, .int .i64 f.gen, .int .i64 f.hop, .int .u64 f.bits, .int .i64 f.tok.gen, .int .i64 f.tok.hop, .slice A7 f.tok.st.length c7, .int .i64 f.tok.start, .slice A8 f.tok.rows.length c8, .int .i64 g, .int .i64 q] 43
            have hSa := hS.turns ((Turns.refl [] wr).alloc (.cells #[.int .u8 kk, .int .i64 f.kind, .int .i64 f.frm, .int .i64 f.to, .int .i64 f.gen, .int .i64 f.hop, .int .u64 f.bits, .int .i64 f.tok.gen, .int .i64 f.tok.hop, .slice A7 f.tok.st.length c7, .int .i64 f.tok.start, .slice A8 f.tok.rows.length c8, .int .i64 g, .int .i64 q] 43))
            have hbl := hS.r.lt
            clear hS ht e2
            go_upto_region 13 with fail
            generalize wr.alloc (.cells #[.int .u8 kk, .int .i64 f.kind, .int .i64 f.frm, .int .i64 f.to, .int .i64 f.gen, .int .i64 f.hop, .int .u64 f.bits, .int .i64 f.tok.gen, .int .i64 f.tok.hop, .slice A7 f.tok.st.length c7, .int .i64 f.tok.start, .slice A8 f.tok.rows.length c8, .int .i64 g, .int .i64 q] 43) = w1 at *
            generalize wr.heap.size = ab at *
            have hSah := Lib.hid hSa
            clear hSa x0 x1 x2 x3 x4 x5 x6 x7 x8 x9 x10 x11 x12 x13
            have a0 : World.cell? (w1) ⟨ab, 0, none⟩ = some _ := (Ba).cell 0
            by_cases c01 : kk.tmod 7 = 0 ∨ kk.tmod 7 = 1
            · have hc01 := Lib.hid c01
              rcases ho with rfl | rfl
              · simp only [Option.isSome_none]
                clear Ba hc01
                rcases c01 with c01 | c01
                · have e0 : (kk.tmod 7 == 0) = true := by simpa using c01
                  clear c01
                  go_wp2_with fail
                  go_roundw
                  case rel => exact ⟨k + 1, n, none, by omega, rfl, by go_num, by omega, by omega, .inl rfl, hSah.out⟩
                  case measure => simp [RowKit.intOf]; omega
                · have e0 : (kk.tmod 7 == 0) = false := by simp [c01]
                  have e1 : (kk.tmod 7 == 1) = true := by simpa using c01
                  clear c01
                  go_wp2_with fail
                  go_roundw
                  case rel => exact ⟨k + 1, n, none, by omega, rfl, by go_num, by omega, by omega, .inl rfl, hSah.out⟩
                  case measure => simp [RowKit.intOf]; omega
              · obtain ⟨r, hr, hr0⟩ := holdR_some F f
                have Ho := Lib.hid (hold_is m w1 b n (some F) f _ _ hSah.out.r hSah.out.m (hth.out.turns hSah.out.t) hfa.out _ _ hr)
                unfold frv at Ho
                have a1 : World.cell? (w1) ⟨ab, 1, none⟩ = some _ := (Ba).cell 1
                have a2 : World.cell? (w1) ⟨ab, 2, none⟩ = some _ := (Ba).cell 2
                have a3 : World.cell? (w1) ⟨ab, 3, none⟩ = some _ := (Ba).cell 3
                have a4 : World.cell? (w1) ⟨ab, 4, none⟩ = some _ := (Ba).cell 4
                have a5 : World.cell? (w1) ⟨ab, 5, none⟩ = some _ := (Ba).cell 5
                have a6 : World.cell? (w1) ⟨ab, 6, none⟩ = some _ := (Ba).cell 6
                have a7 : World.cell? (w1) ⟨ab, 7, none⟩ = some _ := (Ba).cell 7
                have a8 : World.cell? (w1) ⟨ab, 8, none⟩ = some _ := (Ba).cell 8
                have a9 : World.cell? (w1) ⟨ab, 9, none⟩ = some _ := (Ba).cell 9
                have a10 : World.cell? (w1) ⟨ab, 10, none⟩ = some _ := (Ba).cell 10
                have a11 : World.cell? (w1) ⟨ab, 11, none⟩ = some _ := (Ba).cell 11
                simp only [Option.isSome_some]
                clear Ba hc01 hr
                rcases c01 with c01 | c01
                · have e0 : (kk.tmod 7 == 0) = true := by simpa using c01
                  clear c01
                  as_aux_lemma =>
                    go_wp2_with fail
                    go_at_call 13
                    refine Calls.mono (Ho.out) ?_
                    rintro e w2 ⟨rfl, hr2, t2⟩
                    have hS2 := Lib.hid (hSah.out.left t2 hr2)
                    clear a0 a1 a2 a3 a4 a5 a6 a7 a8 a9 a10 a11 Ho hSah t2 hr2
                    go_wp2_with fail
                    go_roundw
                    case rel => exact ⟨k + 1, n, some F, by omega, rfl, by go_num, by omega, by omega, .inr rfl, hS2.out⟩
                    case measure => simp [RowKit.intOf]; omega
                · have e0 : (kk.tmod 7 == 0) = false := by simp [c01]
                  have e1 : (kk.tmod 7 == 1) = true := by simpa using c01
                  clear c01
                  as_aux_lemma =>
                    go_wp2_with fail
                    go_at_call 13
                    refine Calls.mono (Ho.out) ?_
                    rintro e w2 ⟨rfl, hr2, t2⟩
                    have hS2 := Lib.hid (hSah.out.left t2 hr2)
                    clear a0 a1 a2 a3 a4 a5 a6 a7 a8 a9 a10 a11 Ho hSah t2 hr2
                    go_wp2_with fail
                    go_roundw
                    case rel => exact ⟨k + 1, n, some F, by omega, rfl, by go_num, by omega, by omega, .inr rfl, hS2.out⟩
                    case measure => simp [RowKit.intOf]; omega
            · have e0 : (kk.tmod 7 == 0) = false := by simpa using fun e => c01 (.inl e)
              have e1 : (kk.tmod 7 == 1) = false := by simpa using fun e => c01 (.inr e)
              clear c01
              by_cases c4 : kk.tmod 7 = 4 ∨ kk.tmod 7 = 5
              · have Ca := Lib.hid (fun o (h : IsRelay m w1 b n o) => ack_u m w1 b n o f _ _ h (hth.out.turns hSah.out.t) (by have := hfa.out.1; omega))
                unfold frv at Ca
                have a1 : World.cell? (w1) ⟨ab, 1, none⟩ = some _ := (Ba).cell 1
                have a2 : World.cell? (w1) ⟨ab, 2, none⟩ = some _ := (Ba).cell 2
                have a3 : World.cell? (w1) ⟨ab, 3, none⟩ = some _ := (Ba).cell 3
                have a4 : World.cell? (w1) ⟨ab, 4, none⟩ = some _ := (Ba).cell 4
                have a5 : World.cell? (w1) ⟨ab, 5, none⟩ = some _ := (Ba).cell 5
                have a6 : World.cell? (w1) ⟨ab, 6, none⟩ = some _ := (Ba).cell 6
                have a7 : World.cell? (w1) ⟨ab, 7, none⟩ = some _ := (Ba).cell 7
                have a8 : World.cell? (w1) ⟨ab, 8, none⟩ = some _ := (Ba).cell 8
                have a9 : World.cell? (w1) ⟨ab, 9, none⟩ = some _ := (Ba).cell 9
                have a10 : World.cell? (w1) ⟨ab, 10, none⟩ = some _ := (Ba).cell 10
                have a11 : World.cell? (w1) ⟨ab, 11, none⟩ = some _ := (Ba).cell 11
                rcases c4 with c4 | c4
                · have e4 : (kk.tmod 7 == 4) = true := by simpa using c4
                  clear c4
                  rcases ho with rfl | rfl
                  · have Cb := Lib.hid (Ca.out none hSah.out.r)
                    rw [show ackO none f = false from rfl] at Cb
                    simp only [Option.isSome_none]
                    go_wp2_with fail
                    go_at_call 14
                    refine Calls.mono (Cb.out) ?_
                    rintro e w2 ⟨rfl, hr2, t2⟩
                    have hSth : Hid (St m w w2 b fb n (none) F _ _) := Lib.hid (hSah.out.left t2 hr2)
                    have Ba2 := Ba.turns t2 (by simp; omega)
                    clear a0 a1 a2 a3 a4 a5 a6 a7 a8 a9 a10 a11 Ca Cb hSah t2 hr2 hth hfa
                    have a2 : World.cell? (w2) ⟨ab, 2, none⟩ = some _ := (Ba2).cell 2
                    have a3 : World.cell? (w2) ⟨ab, 3, none⟩ = some _ := (Ba2).cell 3
                    have a4 : World.cell? (w2) ⟨ab, 4, none⟩ = some _ := (Ba2).cell 4
                    have a5 : World.cell? (w2) ⟨ab, 5, none⟩ = some _ := (Ba2).cell 5
                    have b1 : World.cell? (w2) ⟨fb, 1, none⟩ = some _ := (hSth.out.blk).cell 1
                    have b2 : World.cell? (w2) ⟨fb, 2, none⟩ = some _ := (hSth.out.blk).cell 2
                    have b6 : World.cell? (w2) ⟨fb, 6, none⟩ = some _ := (hSth.out.blk).cell 6
                    have b7 : World.cell? (w2) ⟨fb, 7, none⟩ = some _ := (hSth.out.blk).cell 7
                    as_aux_lemma =>
                      have hSt := hSth.out
                      have Hh := Lib.hid (held_u m _ b n (none) hSt.r (by omega))
                      clear hSt
                      go_wp2_with fail
                      go_at_call 12
                      refine Calls.mono (Hh.out) ?_
                      rintro e w6 ⟨s6, r6, rfl, tk6, hr6, t6⟩
                      have hS6 := hSth.out.left t6 hr6
                      obtain ⟨A5, c5, A6, c6, rfl, rfl⟩ := frc_form (g := heldF (none)) tk6.tok
                      have ta6 := (Turns.refl [] w6).alloc (.cells (frc (heldF (none)) (.slice A5 (heldF (none)).tok.st.length c5) (.slice A6 (heldF (none)).tok.rows.length c6)) 41)
                      have B6 := Blk.new w6 (frc (heldF (none)) (.slice A5 (heldF (none)).tok.st.length c5) (.slice A6 (heldF (none)).tok.rows.length c6)) 41
                      have hS7 := hS6.turns ta6
                      have tk7 := tk6.far ta6 (by simp)
                      have Sm := rsame_is _ (heldF (none)) F _ _ _ _ tk7.tok (hFh.out.turns hS7.t)
                      have nb := heldN_le (o := none) hn0
                      generalize decide (heldF none = F) = sq at Sm
                      have Smh := Lib.hid Sm
                      have hS7h := Lib.hid hS7
                      clear Sm hS7 tk7 ta6 hS6 t6 hr6 tk6 Hh hSth
                      unfold frv
                      unfold frv at Smh
                      generalize heldN (none) n = n7 at *
                      generalize heldF (none) = G at *
                      simp only [Option.isSome_some, Option.isSome_none]
                      go_upto_region 30 with fail
                      generalize w6.alloc (.cells (frc G (.slice A5 G.tok.st.length c5) (.slice A6 G.tok.rows.length c6)) 41) = w7 at *
                      generalize w6.heap.size = xb at *
                      have u0 : World.cell? (w7) ⟨xb, 0, none⟩ = some _ := (B6).cell 0
                      have u1 : World.cell? (w7) ⟨xb, 1, none⟩ = some _ := (B6).cell 1
                      have u2 : World.cell? (w7) ⟨xb, 2, none⟩ = some _ := (B6).cell 2
                      have u3 : World.cell? (w7) ⟨xb, 3, none⟩ = some _ := (B6).cell 3
                      have u4 : World.cell? (w7) ⟨xb, 4, none⟩ = some _ := (B6).cell 4
                      have u5 : World.cell? (w7) ⟨xb, 5, none⟩ = some _ := (B6).cell 5
                      have u6 : World.cell? (w7) ⟨xb, 6, none⟩ = some _ := (B6).cell 6
                      have u7 : World.cell? (w7) ⟨xb, 7, none⟩ = some _ := (B6).cell 7
                      have u8 : World.cell? (w7) ⟨xb, 8, none⟩ = some _ := (B6).cell 8
                      have u9 : World.cell? (w7) ⟨xb, 9, none⟩ = some _ := (B6).cell 9
                      have u10 : World.cell? (w7) ⟨xb, 10, none⟩ = some _ := (B6).cell 10
                      have y0 : World.cell? (w7) ⟨fb, 0, none⟩ = some _ := (hS7h.out.blk).cell 0
                      have y1 : World.cell? (w7) ⟨fb, 1, none⟩ = some _ := (hS7h.out.blk).cell 1
                      have y2 : World.cell? (w7) ⟨fb, 2, none⟩ = some _ := (hS7h.out.blk).cell 2
                      have y3 : World.cell? (w7) ⟨fb, 3, none⟩ = some _ := (hS7h.out.blk).cell 3
                      have y4 : World.cell? (w7) ⟨fb, 4, none⟩ = some _ := (hS7h.out.blk).cell 4
                      have y5 : World.cell? (w7) ⟨fb, 5, none⟩ = some _ := (hS7h.out.blk).cell 5
                      have y6 : World.cell? (w7) ⟨fb, 6, none⟩ = some _ := (hS7h.out.blk).cell 6
                      have y7 : World.cell? (w7) ⟨fb, 7, none⟩ = some _ := (hS7h.out.blk).cell 7
                      have y8 : World.cell? (w7) ⟨fb, 8, none⟩ = some _ := (hS7h.out.blk).cell 8
                      have y9 : World.cell? (w7) ⟨fb, 9, none⟩ = some _ := (hS7h.out.blk).cell 9
                      have y10 : World.cell? (w7) ⟨fb, 10, none⟩ = some _ := (hS7h.out.blk).cell 10
                      go_wp2_with fail
                      go_at_call 17
                      refine Calls.mono (Smh.out) ?_
                      rintro e w8 ⟨rfl, t8⟩
                      have hS8 := Lib.hid (hS7h.out.turns t8)
                      clear u0 u1 u2 u3 u4 u5 u6 u7 u8 u9 u10 y0 y1 y2 y3 y4 y5 y6 y7 y8 y9 y10 Smh hS7h B6 t8
                      go_wp2_with fail
                      go_roundw
                      case rel => exact ⟨k + 1, n7, none, by omega, rfl, by go_num, by omega, by omega, .inl rfl, hS8.out⟩
                      case measure => simp [RowKit.intOf]; omega
                  · have Cb := Lib.hid (Ca.out (some F) hSah.out.r)
                    simp only [Option.isSome_some]
                    cases hq : ackO (some F) f with
                    | false =>
                      rw [hq] at Cb
                      clear hq
                      go_wp2_with fail
                      go_at_call 14
                      refine Calls.mono (Cb.out) ?_
                      rintro e w2 ⟨rfl, hr2, t2⟩
                      have hSth : Hid (St m w w2 b fb n (some F) F _ _) := Lib.hid (hSah.out.left t2 hr2)
                      have Ba2 := Ba.turns t2 (by simp; omega)
                      clear a0 a1 a2 a3 a4 a5 a6 a7 a8 a9 a10 a11 Ca Cb hSah t2 hr2 hth hfa
                      have a2 : World.cell? (w2) ⟨ab, 2, none⟩ = some _ := (Ba2).cell 2
                      have a3 : World.cell? (w2) ⟨ab, 3, none⟩ = some _ := (Ba2).cell 3
                      have a4 : World.cell? (w2) ⟨ab, 4, none⟩ = some _ := (Ba2).cell 4
                      have a5 : World.cell? (w2) ⟨ab, 5, none⟩ = some _ := (Ba2).cell 5
                      have b1 : World.cell? (w2) ⟨fb, 1, none⟩ = some _ := (hSth.out.blk).cell 1
                      have b2 : World.cell? (w2) ⟨fb, 2, none⟩ = some _ := (hSth.out.blk).cell 2
                      have b6 : World.cell? (w2) ⟨fb, 6, none⟩ = some _ := (hSth.out.blk).cell 6
                      have b7 : World.cell? (w2) ⟨fb, 7, none⟩ = some _ := (hSth.out.blk).cell 7
                      as_aux_lemma =>
                        have hSt := hSth.out
                        have Hh := Lib.hid (held_u m _ b n (some F) hSt.r (by omega))
                        clear hSt
                        go_wp2_with fail
                        go_at_call 12
                        refine Calls.mono (Hh.out) ?_
                        rintro e w6 ⟨s6, r6, rfl, tk6, hr6, t6⟩
                        have hS6 := hSth.out.left t6 hr6
                        obtain ⟨A5, c5, A6, c6, rfl, rfl⟩ := frc_form (g := heldF (some F)) tk6.tok
                        have ta6 := (Turns.refl [] w6).alloc (.cells (frc (heldF (some F)) (.slice A5 (heldF (some F)).tok.st.length c5) (.slice A6 (heldF (some F)).tok.rows.length c6)) 41)
                        have B6 := Blk.new w6 (frc (heldF (some F)) (.slice A5 (heldF (some F)).tok.st.length c5) (.slice A6 (heldF (some F)).tok.rows.length c6)) 41
                        have hS7 := hS6.turns ta6
                        have tk7 := tk6.far ta6 (by simp)
                        have Sm := rsame_is _ (heldF (some F)) F _ _ _ _ tk7.tok (hFh.out.turns hS7.t)
                        have nb := heldN_le (o := some F) hn0
                        rw [decide_eq_true (show heldF (some F) = F from rfl)] at Sm
                        have Smh := Lib.hid Sm
                        have hS7h := Lib.hid hS7
                        clear Sm hS7 tk7 ta6 hS6 t6 hr6 tk6 Hh hSth
                        unfold frv
                        unfold frv at Smh
                        generalize heldN (some F) n = n7 at *
                        generalize heldF (some F) = G at *
                        simp only [Option.isSome_some, Option.isSome_none]
                        go_upto_region 30 with fail
                        generalize w6.alloc (.cells (frc G (.slice A5 G.tok.st.length c5) (.slice A6 G.tok.rows.length c6)) 41) = w7 at *
                        generalize w6.heap.size = xb at *
                        have u0 : World.cell? (w7) ⟨xb, 0, none⟩ = some _ := (B6).cell 0
                        have u1 : World.cell? (w7) ⟨xb, 1, none⟩ = some _ := (B6).cell 1
                        have u2 : World.cell? (w7) ⟨xb, 2, none⟩ = some _ := (B6).cell 2
                        have u3 : World.cell? (w7) ⟨xb, 3, none⟩ = some _ := (B6).cell 3
                        have u4 : World.cell? (w7) ⟨xb, 4, none⟩ = some _ := (B6).cell 4
                        have u5 : World.cell? (w7) ⟨xb, 5, none⟩ = some _ := (B6).cell 5
                        have u6 : World.cell? (w7) ⟨xb, 6, none⟩ = some _ := (B6).cell 6
                        have u7 : World.cell? (w7) ⟨xb, 7, none⟩ = some _ := (B6).cell 7
                        have u8 : World.cell? (w7) ⟨xb, 8, none⟩ = some _ := (B6).cell 8
                        have u9 : World.cell? (w7) ⟨xb, 9, none⟩ = some _ := (B6).cell 9
                        have u10 : World.cell? (w7) ⟨xb, 10, none⟩ = some _ := (B6).cell 10
                        have y0 : World.cell? (w7) ⟨fb, 0, none⟩ = some _ := (hS7h.out.blk).cell 0
                        have y1 : World.cell? (w7) ⟨fb, 1, none⟩ = some _ := (hS7h.out.blk).cell 1
                        have y2 : World.cell? (w7) ⟨fb, 2, none⟩ = some _ := (hS7h.out.blk).cell 2
                        have y3 : World.cell? (w7) ⟨fb, 3, none⟩ = some _ := (hS7h.out.blk).cell 3
                        have y4 : World.cell? (w7) ⟨fb, 4, none⟩ = some _ := (hS7h.out.blk).cell 4
                        have y5 : World.cell? (w7) ⟨fb, 5, none⟩ = some _ := (hS7h.out.blk).cell 5
                        have y6 : World.cell? (w7) ⟨fb, 6, none⟩ = some _ := (hS7h.out.blk).cell 6
                        have y7 : World.cell? (w7) ⟨fb, 7, none⟩ = some _ := (hS7h.out.blk).cell 7
                        have y8 : World.cell? (w7) ⟨fb, 8, none⟩ = some _ := (hS7h.out.blk).cell 8
                        have y9 : World.cell? (w7) ⟨fb, 9, none⟩ = some _ := (hS7h.out.blk).cell 9
                        have y10 : World.cell? (w7) ⟨fb, 10, none⟩ = some _ := (hS7h.out.blk).cell 10
                        go_wp2_with fail
                        go_at_call 17
                        refine Calls.mono (Smh.out) ?_
                        rintro e w8 ⟨rfl, t8⟩
                        have hS8 := Lib.hid (hS7h.out.turns t8)
                        clear u0 u1 u2 u3 u4 u5 u6 u7 u8 u9 u10 y0 y1 y2 y3 y4 y5 y6 y7 y8 y9 y10 Smh hS7h B6 t8
                        go_wp2_with fail
                        go_roundw
                        case rel => exact ⟨k + 1, n7, some F, by omega, rfl, by go_num, by omega, by omega, .inr rfl, hS8.out⟩
                        case measure => simp [RowKit.intOf]; omega
                    | true =>
                      rw [hq] at Cb
                      obtain ⟨n1, n2, n3, n4⟩ := ackQ_true (show ackQ F f = true from hq)
                      clear hq
                      go_wp2_with fail
                      go_at_call 14
                      refine Calls.mono (Cb.out) ?_
                      rintro e w2 ⟨rfl, hr2, t2⟩
                      have hSth : Hid (St m w w2 b fb n (none) F _ _) := Lib.hid (hSah.out.left t2 hr2)
                      have Ba2 := Ba.turns t2 (by simp; omega)
                      clear a0 a1 a2 a3 a4 a5 a6 a7 a8 a9 a10 a11 Ca Cb hSah t2 hr2 hth hfa
                      have a2 : World.cell? (w2) ⟨ab, 2, none⟩ = some _ := (Ba2).cell 2
                      have a3 : World.cell? (w2) ⟨ab, 3, none⟩ = some _ := (Ba2).cell 3
                      have a4 : World.cell? (w2) ⟨ab, 4, none⟩ = some _ := (Ba2).cell 4
                      have a5 : World.cell? (w2) ⟨ab, 5, none⟩ = some _ := (Ba2).cell 5
                      have b1 : World.cell? (w2) ⟨fb, 1, none⟩ = some _ := (hSth.out.blk).cell 1
                      have b2 : World.cell? (w2) ⟨fb, 2, none⟩ = some _ := (hSth.out.blk).cell 2
                      have b6 : World.cell? (w2) ⟨fb, 6, none⟩ = some _ := (hSth.out.blk).cell 6
                      have b7 : World.cell? (w2) ⟨fb, 7, none⟩ = some _ := (hSth.out.blk).cell 7
                      as_aux_lemma =>
                        have hSt := hSth.out
                        have Hh := Lib.hid (held_u m _ b n (none) hSt.r (by omega))
                        clear hSt
                        go_wp2_with fail
                        go_at_call 12
                        refine Calls.mono (Hh.out) ?_
                        rintro e w6 ⟨s6, r6, rfl, tk6, hr6, t6⟩
                        have hS6 := hSth.out.left t6 hr6
                        obtain ⟨A5, c5, A6, c6, rfl, rfl⟩ := frc_form (g := heldF (none)) tk6.tok
                        have ta6 := (Turns.refl [] w6).alloc (.cells (frc (heldF (none)) (.slice A5 (heldF (none)).tok.st.length c5) (.slice A6 (heldF (none)).tok.rows.length c6)) 41)
                        have B6 := Blk.new w6 (frc (heldF (none)) (.slice A5 (heldF (none)).tok.st.length c5) (.slice A6 (heldF (none)).tok.rows.length c6)) 41
                        have hS7 := hS6.turns ta6
                        have tk7 := tk6.far ta6 (by simp)
                        have Sm := rsame_is _ (heldF (none)) F _ _ _ _ tk7.tok (hFh.out.turns hS7.t)
                        have nb := heldN_le (o := none) hn0
                        generalize decide (heldF none = F) = sq at Sm
                        have Smh := Lib.hid Sm
                        have hS7h := Lib.hid hS7
                        clear Sm hS7 tk7 ta6 hS6 t6 hr6 tk6 Hh hSth
                        unfold frv
                        unfold frv at Smh
                        generalize heldN (none) n = n7 at *
                        generalize heldF (none) = G at *
                        simp only [Option.isSome_some, Option.isSome_none]
                        go_upto_region 30 with fail
                        generalize w6.alloc (.cells (frc G (.slice A5 G.tok.st.length c5) (.slice A6 G.tok.rows.length c6)) 41) = w7 at *
                        generalize w6.heap.size = xb at *
                        have u0 : World.cell? (w7) ⟨xb, 0, none⟩ = some _ := (B6).cell 0
                        have u1 : World.cell? (w7) ⟨xb, 1, none⟩ = some _ := (B6).cell 1
                        have u2 : World.cell? (w7) ⟨xb, 2, none⟩ = some _ := (B6).cell 2
                        have u3 : World.cell? (w7) ⟨xb, 3, none⟩ = some _ := (B6).cell 3
                        have u4 : World.cell? (w7) ⟨xb, 4, none⟩ = some _ := (B6).cell 4
                        have u5 : World.cell? (w7) ⟨xb, 5, none⟩ = some _ := (B6).cell 5
                        have u6 : World.cell? (w7) ⟨xb, 6, none⟩ = some _ := (B6).cell 6
                        have u7 : World.cell? (w7) ⟨xb, 7, none⟩ = some _ := (B6).cell 7
                        have u8 : World.cell? (w7) ⟨xb, 8, none⟩ = some _ := (B6).cell 8
                        have u9 : World.cell? (w7) ⟨xb, 9, none⟩ = some _ := (B6).cell 9
                        have u10 : World.cell? (w7) ⟨xb, 10, none⟩ = some _ := (B6).cell 10
                        have y0 : World.cell? (w7) ⟨fb, 0, none⟩ = some _ := (hS7h.out.blk).cell 0
                        have y1 : World.cell? (w7) ⟨fb, 1, none⟩ = some _ := (hS7h.out.blk).cell 1
                        have y2 : World.cell? (w7) ⟨fb, 2, none⟩ = some _ := (hS7h.out.blk).cell 2
                        have y3 : World.cell? (w7) ⟨fb, 3, none⟩ = some _ := (hS7h.out.blk).cell 3
                        have y4 : World.cell? (w7) ⟨fb, 4, none⟩ = some _ := (hS7h.out.blk).cell 4
                        have y5 : World.cell? (w7) ⟨fb, 5, none⟩ = some _ := (hS7h.out.blk).cell 5
                        have y6 : World.cell? (w7) ⟨fb, 6, none⟩ = some _ := (hS7h.out.blk).cell 6
                        have y7 : World.cell? (w7) ⟨fb, 7, none⟩ = some _ := (hS7h.out.blk).cell 7
                        have y8 : World.cell? (w7) ⟨fb, 8, none⟩ = some _ := (hS7h.out.blk).cell 8
                        have y9 : World.cell? (w7) ⟨fb, 9, none⟩ = some _ := (hS7h.out.blk).cell 9
                        have y10 : World.cell? (w7) ⟨fb, 10, none⟩ = some _ := (hS7h.out.blk).cell 10
                        go_wp2_with fail
                        go_at_call 17
                        refine Calls.mono (Smh.out) ?_
                        rintro e w8 ⟨rfl, t8⟩
                        have hS8 := Lib.hid (hS7h.out.turns t8)
                        clear u0 u1 u2 u3 u4 u5 u6 u7 u8 u9 u10 y0 y1 y2 y3 y4 y5 y6 y7 y8 y9 y10 Smh hS7h B6 t8
                        go_wp2_with fail
                        go_roundw
                        case rel => exact ⟨k + 1, n7, none, by omega, rfl, by go_num, by omega, by omega, .inl rfl, hS8.out⟩
                        case measure => simp [RowKit.intOf]; omega
                · have e4 : (kk.tmod 7 == 4) = false := by simp [c4]
                  have e5 : (kk.tmod 7 == 5) = true := by simpa using c4
                  clear c4
                  rcases ho with rfl | rfl
                  · have Cb := Lib.hid (Ca.out none hSah.out.r)
                    rw [show ackO none f = false from rfl] at Cb
                    simp only [Option.isSome_none]
                    go_wp2_with fail
                    go_at_call 14
                    refine Calls.mono (Cb.out) ?_
                    rintro e w2 ⟨rfl, hr2, t2⟩
                    have hSth : Hid (St m w w2 b fb n (none) F _ _) := Lib.hid (hSah.out.left t2 hr2)
                    have Ba2 := Ba.turns t2 (by simp; omega)
                    clear a0 a1 a2 a3 a4 a5 a6 a7 a8 a9 a10 a11 Ca Cb hSah t2 hr2 hth hfa
                    have a2 : World.cell? (w2) ⟨ab, 2, none⟩ = some _ := (Ba2).cell 2
                    have a3 : World.cell? (w2) ⟨ab, 3, none⟩ = some _ := (Ba2).cell 3
                    have a4 : World.cell? (w2) ⟨ab, 4, none⟩ = some _ := (Ba2).cell 4
                    have a5 : World.cell? (w2) ⟨ab, 5, none⟩ = some _ := (Ba2).cell 5
                    have b1 : World.cell? (w2) ⟨fb, 1, none⟩ = some _ := (hSth.out.blk).cell 1
                    have b2 : World.cell? (w2) ⟨fb, 2, none⟩ = some _ := (hSth.out.blk).cell 2
                    have b6 : World.cell? (w2) ⟨fb, 6, none⟩ = some _ := (hSth.out.blk).cell 6
                    have b7 : World.cell? (w2) ⟨fb, 7, none⟩ = some _ := (hSth.out.blk).cell 7
                    as_aux_lemma =>
                      have hSt := hSth.out
                      have Hh := Lib.hid (held_u m _ b n (none) hSt.r (by omega))
                      clear hSt
                      go_wp2_with fail
                      go_at_call 12
                      refine Calls.mono (Hh.out) ?_
                      rintro e w6 ⟨s6, r6, rfl, tk6, hr6, t6⟩
                      have hS6 := hSth.out.left t6 hr6
                      obtain ⟨A5, c5, A6, c6, rfl, rfl⟩ := frc_form (g := heldF (none)) tk6.tok
                      have ta6 := (Turns.refl [] w6).alloc (.cells (frc (heldF (none)) (.slice A5 (heldF (none)).tok.st.length c5) (.slice A6 (heldF (none)).tok.rows.length c6)) 41)
                      have B6 := Blk.new w6 (frc (heldF (none)) (.slice A5 (heldF (none)).tok.st.length c5) (.slice A6 (heldF (none)).tok.rows.length c6)) 41
                      have hS7 := hS6.turns ta6
                      have tk7 := tk6.far ta6 (by simp)
                      have Sm := rsame_is _ (heldF (none)) F _ _ _ _ tk7.tok (hFh.out.turns hS7.t)
                      have nb := heldN_le (o := none) hn0
                      generalize decide (heldF none = F) = sq at Sm
                      have Smh := Lib.hid Sm
                      have hS7h := Lib.hid hS7
                      clear Sm hS7 tk7 ta6 hS6 t6 hr6 tk6 Hh hSth
                      unfold frv
                      unfold frv at Smh
                      generalize heldN (none) n = n7 at *
                      generalize heldF (none) = G at *
                      simp only [Option.isSome_some, Option.isSome_none]
                      go_upto_region 30 with fail
                      generalize w6.alloc (.cells (frc G (.slice A5 G.tok.st.length c5) (.slice A6 G.tok.rows.length c6)) 41) = w7 at *
                      generalize w6.heap.size = xb at *
                      have u0 : World.cell? (w7) ⟨xb, 0, none⟩ = some _ := (B6).cell 0
                      have u1 : World.cell? (w7) ⟨xb, 1, none⟩ = some _ := (B6).cell 1
                      have u2 : World.cell? (w7) ⟨xb, 2, none⟩ = some _ := (B6).cell 2
                      have u3 : World.cell? (w7) ⟨xb, 3, none⟩ = some _ := (B6).cell 3
                      have u4 : World.cell? (w7) ⟨xb, 4, none⟩ = some _ := (B6).cell 4
                      have u5 : World.cell? (w7) ⟨xb, 5, none⟩ = some _ := (B6).cell 5
                      have u6 : World.cell? (w7) ⟨xb, 6, none⟩ = some _ := (B6).cell 6
                      have u7 : World.cell? (w7) ⟨xb, 7, none⟩ = some _ := (B6).cell 7
                      have u8 : World.cell? (w7) ⟨xb, 8, none⟩ = some _ := (B6).cell 8
                      have u9 : World.cell? (w7) ⟨xb, 9, none⟩ = some _ := (B6).cell 9
                      have u10 : World.cell? (w7) ⟨xb, 10, none⟩ = some _ := (B6).cell 10
                      have y0 : World.cell? (w7) ⟨fb, 0, none⟩ = some _ := (hS7h.out.blk).cell 0
                      have y1 : World.cell? (w7) ⟨fb, 1, none⟩ = some _ := (hS7h.out.blk).cell 1
                      have y2 : World.cell? (w7) ⟨fb, 2, none⟩ = some _ := (hS7h.out.blk).cell 2
                      have y3 : World.cell? (w7) ⟨fb, 3, none⟩ = some _ := (hS7h.out.blk).cell 3
                      have y4 : World.cell? (w7) ⟨fb, 4, none⟩ = some _ := (hS7h.out.blk).cell 4
                      have y5 : World.cell? (w7) ⟨fb, 5, none⟩ = some _ := (hS7h.out.blk).cell 5
                      have y6 : World.cell? (w7) ⟨fb, 6, none⟩ = some _ := (hS7h.out.blk).cell 6
                      have y7 : World.cell? (w7) ⟨fb, 7, none⟩ = some _ := (hS7h.out.blk).cell 7
                      have y8 : World.cell? (w7) ⟨fb, 8, none⟩ = some _ := (hS7h.out.blk).cell 8
                      have y9 : World.cell? (w7) ⟨fb, 9, none⟩ = some _ := (hS7h.out.blk).cell 9
                      have y10 : World.cell? (w7) ⟨fb, 10, none⟩ = some _ := (hS7h.out.blk).cell 10
                      go_wp2_with fail
                      go_at_call 17
                      refine Calls.mono (Smh.out) ?_
                      rintro e w8 ⟨rfl, t8⟩
                      have hS8 := Lib.hid (hS7h.out.turns t8)
                      clear u0 u1 u2 u3 u4 u5 u6 u7 u8 u9 u10 y0 y1 y2 y3 y4 y5 y6 y7 y8 y9 y10 Smh hS7h B6 t8
                      go_wp2_with fail
                      go_roundw
                      case rel => exact ⟨k + 1, n7, none, by omega, rfl, by go_num, by omega, by omega, .inl rfl, hS8.out⟩
                      case measure => simp [RowKit.intOf]; omega
                  · have Cb := Lib.hid (Ca.out (some F) hSah.out.r)
                    simp only [Option.isSome_some]
                    cases hq : ackO (some F) f with
                    | false =>
                      rw [hq] at Cb
                      clear hq
                      go_wp2_with fail
                      go_at_call 14
                      refine Calls.mono (Cb.out) ?_
                      rintro e w2 ⟨rfl, hr2, t2⟩
                      have hSth : Hid (St m w w2 b fb n (some F) F _ _) := Lib.hid (hSah.out.left t2 hr2)
                      have Ba2 := Ba.turns t2 (by simp; omega)
                      clear a0 a1 a2 a3 a4 a5 a6 a7 a8 a9 a10 a11 Ca Cb hSah t2 hr2 hth hfa
                      have a2 : World.cell? (w2) ⟨ab, 2, none⟩ = some _ := (Ba2).cell 2
                      have a3 : World.cell? (w2) ⟨ab, 3, none⟩ = some _ := (Ba2).cell 3
                      have a4 : World.cell? (w2) ⟨ab, 4, none⟩ = some _ := (Ba2).cell 4
                      have a5 : World.cell? (w2) ⟨ab, 5, none⟩ = some _ := (Ba2).cell 5
                      have b1 : World.cell? (w2) ⟨fb, 1, none⟩ = some _ := (hSth.out.blk).cell 1
                      have b2 : World.cell? (w2) ⟨fb, 2, none⟩ = some _ := (hSth.out.blk).cell 2
                      have b6 : World.cell? (w2) ⟨fb, 6, none⟩ = some _ := (hSth.out.blk).cell 6
                      have b7 : World.cell? (w2) ⟨fb, 7, none⟩ = some _ := (hSth.out.blk).cell 7
                      as_aux_lemma =>
                        have hSt := hSth.out
                        have Hh := Lib.hid (held_u m _ b n (some F) hSt.r (by omega))
                        clear hSt
                        go_wp2_with fail
                        go_at_call 12
                        refine Calls.mono (Hh.out) ?_
                        rintro e w6 ⟨s6, r6, rfl, tk6, hr6, t6⟩
                        have hS6 := hSth.out.left t6 hr6
                        obtain ⟨A5, c5, A6, c6, rfl, rfl⟩ := frc_form (g := heldF (some F)) tk6.tok
                        have ta6 := (Turns.refl [] w6).alloc (.cells (frc (heldF (some F)) (.slice A5 (heldF (some F)).tok.st.length c5) (.slice A6 (heldF (some F)).tok.rows.length c6)) 41)
                        have B6 := Blk.new w6 (frc (heldF (some F)) (.slice A5 (heldF (some F)).tok.st.length c5) (.slice A6 (heldF (some F)).tok.rows.length c6)) 41
                        have hS7 := hS6.turns ta6
                        have tk7 := tk6.far ta6 (by simp)
                        have Sm := rsame_is _ (heldF (some F)) F _ _ _ _ tk7.tok (hFh.out.turns hS7.t)
                        have nb := heldN_le (o := some F) hn0
                        rw [decide_eq_true (show heldF (some F) = F from rfl)] at Sm
                        have Smh := Lib.hid Sm
                        have hS7h := Lib.hid hS7
                        clear Sm hS7 tk7 ta6 hS6 t6 hr6 tk6 Hh hSth
                        unfold frv
                        unfold frv at Smh
                        generalize heldN (some F) n = n7 at *
                        generalize heldF (some F) = G at *
                        simp only [Option.isSome_some, Option.isSome_none]
                        go_upto_region 30 with fail
                        generalize w6.alloc (.cells (frc G (.slice A5 G.tok.st.length c5) (.slice A6 G.tok.rows.length c6)) 41) = w7 at *
                        generalize w6.heap.size = xb at *
                        have u0 : World.cell? (w7) ⟨xb, 0, none⟩ = some _ := (B6).cell 0
                        have u1 : World.cell? (w7) ⟨xb, 1, none⟩ = some _ := (B6).cell 1
                        have u2 : World.cell? (w7) ⟨xb, 2, none⟩ = some _ := (B6).cell 2
                        have u3 : World.cell? (w7) ⟨xb, 3, none⟩ = some _ := (B6).cell 3
                        have u4 : World.cell? (w7) ⟨xb, 4, none⟩ = some _ := (B6).cell 4
                        have u5 : World.cell? (w7) ⟨xb, 5, none⟩ = some _ := (B6).cell 5
                        have u6 : World.cell? (w7) ⟨xb, 6, none⟩ = some _ := (B6).cell 6
                        have u7 : World.cell? (w7) ⟨xb, 7, none⟩ = some _ := (B6).cell 7
                        have u8 : World.cell? (w7) ⟨xb, 8, none⟩ = some _ := (B6).cell 8
                        have u9 : World.cell? (w7) ⟨xb, 9, none⟩ = some _ := (B6).cell 9
                        have u10 : World.cell? (w7) ⟨xb, 10, none⟩ = some _ := (B6).cell 10
                        have y0 : World.cell? (w7) ⟨fb, 0, none⟩ = some _ := (hS7h.out.blk).cell 0
                        have y1 : World.cell? (w7) ⟨fb, 1, none⟩ = some _ := (hS7h.out.blk).cell 1
                        have y2 : World.cell? (w7) ⟨fb, 2, none⟩ = some _ := (hS7h.out.blk).cell 2
                        have y3 : World.cell? (w7) ⟨fb, 3, none⟩ = some _ := (hS7h.out.blk).cell 3
                        have y4 : World.cell? (w7) ⟨fb, 4, none⟩ = some _ := (hS7h.out.blk).cell 4
                        have y5 : World.cell? (w7) ⟨fb, 5, none⟩ = some _ := (hS7h.out.blk).cell 5
                        have y6 : World.cell? (w7) ⟨fb, 6, none⟩ = some _ := (hS7h.out.blk).cell 6
                        have y7 : World.cell? (w7) ⟨fb, 7, none⟩ = some _ := (hS7h.out.blk).cell 7
                        have y8 : World.cell? (w7) ⟨fb, 8, none⟩ = some _ := (hS7h.out.blk).cell 8
                        have y9 : World.cell? (w7) ⟨fb, 9, none⟩ = some _ := (hS7h.out.blk).cell 9
                        have y10 : World.cell? (w7) ⟨fb, 10, none⟩ = some _ := (hS7h.out.blk).cell 10
                        go_wp2_with fail
                        go_at_call 17
                        refine Calls.mono (Smh.out) ?_
                        rintro e w8 ⟨rfl, t8⟩
                        have hS8 := Lib.hid (hS7h.out.turns t8)
                        clear u0 u1 u2 u3 u4 u5 u6 u7 u8 u9 u10 y0 y1 y2 y3 y4 y5 y6 y7 y8 y9 y10 Smh hS7h B6 t8
                        go_wp2_with fail
                        go_roundw
                        case rel => exact ⟨k + 1, n7, some F, by omega, rfl, by go_num, by omega, by omega, .inr rfl, hS8.out⟩
                        case measure => simp [RowKit.intOf]; omega
                    | true =>
                      rw [hq] at Cb
                      obtain ⟨n1, n2, n3, n4⟩ := ackQ_true (show ackQ F f = true from hq)
                      clear hq
                      go_wp2_with fail
                      go_at_call 14
                      refine Calls.mono (Cb.out) ?_
                      rintro e w2 ⟨rfl, hr2, t2⟩
                      have hSth : Hid (St m w w2 b fb n (none) F _ _) := Lib.hid (hSah.out.left t2 hr2)
                      have Ba2 := Ba.turns t2 (by simp; omega)
                      clear a0 a1 a2 a3 a4 a5 a6 a7 a8 a9 a10 a11 Ca Cb hSah t2 hr2 hth hfa
                      have a2 : World.cell? (w2) ⟨ab, 2, none⟩ = some _ := (Ba2).cell 2
                      have a3 : World.cell? (w2) ⟨ab, 3, none⟩ = some _ := (Ba2).cell 3
                      have a4 : World.cell? (w2) ⟨ab, 4, none⟩ = some _ := (Ba2).cell 4
                      have a5 : World.cell? (w2) ⟨ab, 5, none⟩ = some _ := (Ba2).cell 5
                      have b1 : World.cell? (w2) ⟨fb, 1, none⟩ = some _ := (hSth.out.blk).cell 1
                      have b2 : World.cell? (w2) ⟨fb, 2, none⟩ = some _ := (hSth.out.blk).cell 2
                      have b6 : World.cell? (w2) ⟨fb, 6, none⟩ = some _ := (hSth.out.blk).cell 6
                      have b7 : World.cell? (w2) ⟨fb, 7, none⟩ = some _ := (hSth.out.blk).cell 7
                      as_aux_lemma =>
                        have hSt := hSth.out
                        have Hh := Lib.hid (held_u m _ b n (none) hSt.r (by omega))
                        clear hSt
                        go_wp2_with fail
                        go_at_call 12
                        refine Calls.mono (Hh.out) ?_
                        rintro e w6 ⟨s6, r6, rfl, tk6, hr6, t6⟩
                        have hS6 := hSth.out.left t6 hr6
                        obtain ⟨A5, c5, A6, c6, rfl, rfl⟩ := frc_form (g := heldF (none)) tk6.tok
                        have ta6 := (Turns.refl [] w6).alloc (.cells (frc (heldF (none)) (.slice A5 (heldF (none)).tok.st.length c5) (.slice A6 (heldF (none)).tok.rows.length c6)) 41)
                        have B6 := Blk.new w6 (frc (heldF (none)) (.slice A5 (heldF (none)).tok.st.length c5) (.slice A6 (heldF (none)).tok.rows.length c6)) 41
                        have hS7 := hS6.turns ta6
                        have tk7 := tk6.far ta6 (by simp)
                        have Sm := rsame_is _ (heldF (none)) F _ _ _ _ tk7.tok (hFh.out.turns hS7.t)
                        have nb := heldN_le (o := none) hn0
                        generalize decide (heldF none = F) = sq at Sm
                        have Smh := Lib.hid Sm
                        have hS7h := Lib.hid hS7
                        clear Sm hS7 tk7 ta6 hS6 t6 hr6 tk6 Hh hSth
                        unfold frv
                        unfold frv at Smh
                        generalize heldN (none) n = n7 at *
                        generalize heldF (none) = G at *
                        simp only [Option.isSome_some, Option.isSome_none]
                        go_upto_region 30 with fail
                        generalize w6.alloc (.cells (frc G (.slice A5 G.tok.st.length c5) (.slice A6 G.tok.rows.length c6)) 41) = w7 at *
                        generalize w6.heap.size = xb at *
                        have u0 : World.cell? (w7) ⟨xb, 0, none⟩ = some _ := (B6).cell 0
                        have u1 : World.cell? (w7) ⟨xb, 1, none⟩ = some _ := (B6).cell 1
                        have u2 : World.cell? (w7) ⟨xb, 2, none⟩ = some _ := (B6).cell 2
                        have u3 : World.cell? (w7) ⟨xb, 3, none⟩ = some _ := (B6).cell 3
                        have u4 : World.cell? (w7) ⟨xb, 4, none⟩ = some _ := (B6).cell 4
                        have u5 : World.cell? (w7) ⟨xb, 5, none⟩ = some _ := (B6).cell 5
                        have u6 : World.cell? (w7) ⟨xb, 6, none⟩ = some _ := (B6).cell 6
                        have u7 : World.cell? (w7) ⟨xb, 7, none⟩ = some _ := (B6).cell 7
                        have u8 : World.cell? (w7) ⟨xb, 8, none⟩ = some _ := (B6).cell 8
                        have u9 : World.cell? (w7) ⟨xb, 9, none⟩ = some _ := (B6).cell 9
                        have u10 : World.cell? (w7) ⟨xb, 10, none⟩ = some _ := (B6).cell 10
                        have y0 : World.cell? (w7) ⟨fb, 0, none⟩ = some _ := (hS7h.out.blk).cell 0
                        have y1 : World.cell? (w7) ⟨fb, 1, none⟩ = some _ := (hS7h.out.blk).cell 1
                        have y2 : World.cell? (w7) ⟨fb, 2, none⟩ = some _ := (hS7h.out.blk).cell 2
                        have y3 : World.cell? (w7) ⟨fb, 3, none⟩ = some _ := (hS7h.out.blk).cell 3
                        have y4 : World.cell? (w7) ⟨fb, 4, none⟩ = some _ := (hS7h.out.blk).cell 4
                        have y5 : World.cell? (w7) ⟨fb, 5, none⟩ = some _ := (hS7h.out.blk).cell 5
                        have y6 : World.cell? (w7) ⟨fb, 6, none⟩ = some _ := (hS7h.out.blk).cell 6
                        have y7 : World.cell? (w7) ⟨fb, 7, none⟩ = some _ := (hS7h.out.blk).cell 7
                        have y8 : World.cell? (w7) ⟨fb, 8, none⟩ = some _ := (hS7h.out.blk).cell 8
                        have y9 : World.cell? (w7) ⟨fb, 9, none⟩ = some _ := (hS7h.out.blk).cell 9
                        have y10 : World.cell? (w7) ⟨fb, 10, none⟩ = some _ := (hS7h.out.blk).cell 10
                        go_wp2_with fail
                        go_at_call 17
                        refine Calls.mono (Smh.out) ?_
                        rintro e w8 ⟨rfl, t8⟩
                        have hS8 := Lib.hid (hS7h.out.turns t8)
                        clear u0 u1 u2 u3 u4 u5 u6 u7 u8 u9 u10 y0 y1 y2 y3 y4 y5 y6 y7 y8 y9 y10 Smh hS7h B6 t8
                        go_wp2_with fail
                        go_roundw
                        case rel => exact ⟨k + 1, n7, none, by omega, rfl, by go_num, by omega, by omega, .inl rfl, hS8.out⟩
                        case measure => simp [RowKit.intOf]; omega
              · have e4 : (kk.tmod 7 == 4) = false := by simpa using fun e => c4 (.inl e)
                have e5 : (kk.tmod 7 == 5) = false := by simpa using fun e => c4 (.inr e)
                clear c4
                by_cases c6 : kk.tmod 7 = 6
                · have e6 : (kk.tmod 7 == 6) = true := by simpa using c6
                  clear c6
                  have a12 : World.cell? (w1) ⟨ab, 12, none⟩ = some _ := (Ba).cell 12
                  have a13 : World.cell? (w1) ⟨ab, 13, none⟩ = some _ := (Ba).cell 13
                  rcases ho with rfl | rfl
                  · have Cb := Lib.hid (drop_u m w1 b n none g q hSah.out.r)
                    rw [show dropO none g q = false from rfl] at Cb
                    simp only [Option.isSome_none]
                    go_wp2_with fail
                    go_at_call 15
                    refine Calls.mono (Cb.out) ?_
                    rintro e w2 ⟨rfl, hr2, t2⟩
                    have hSth : Hid (St m w w2 b fb n (none) F _ _) := Lib.hid (hSah.out.left t2 hr2)
                    have Ba2 := Ba.turns t2 (by simp; omega)
                    clear a0 a12 a13 Cb hSah t2 hr2 hth hfa
                    have a12 : World.cell? (w2) ⟨ab, 12, none⟩ = some _ := (Ba2).cell 12
                    have a13 : World.cell? (w2) ⟨ab, 13, none⟩ = some _ := (Ba2).cell 13
                    have b6 : World.cell? (w2) ⟨fb, 6, none⟩ = some _ := (hSth.out.blk).cell 6
                    have b7 : World.cell? (w2) ⟨fb, 7, none⟩ = some _ := (hSth.out.blk).cell 7
                    as_aux_lemma =>
                      have hSt := hSth.out
                      have Hh := Lib.hid (held_u m _ b n (none) hSt.r (by omega))
                      clear hSt
                      go_wp2_with fail
                      go_at_call 12
                      refine Calls.mono (Hh.out) ?_
                      rintro e w6 ⟨s6, r6, rfl, tk6, hr6, t6⟩
                      have hS6 := hSth.out.left t6 hr6
                      obtain ⟨A5, c5, A6, c6, rfl, rfl⟩ := frc_form (g := heldF (none)) tk6.tok
                      have ta6 := (Turns.refl [] w6).alloc (.cells (frc (heldF (none)) (.slice A5 (heldF (none)).tok.st.length c5) (.slice A6 (heldF (none)).tok.rows.length c6)) 41)
                      have B6 := Blk.new w6 (frc (heldF (none)) (.slice A5 (heldF (none)).tok.st.length c5) (.slice A6 (heldF (none)).tok.rows.length c6)) 41
                      have hS7 := hS6.turns ta6
                      have tk7 := tk6.far ta6 (by simp)
                      have Sm := rsame_is _ (heldF (none)) F _ _ _ _ tk7.tok (hFh.out.turns hS7.t)
                      have nb := heldN_le (o := none) hn0
                      generalize decide (heldF none = F) = sq at Sm
                      have Smh := Lib.hid Sm
                      have hS7h := Lib.hid hS7
                      clear Sm hS7 tk7 ta6 hS6 t6 hr6 tk6 Hh hSth
                      unfold frv
                      unfold frv at Smh
                      generalize heldN (none) n = n7 at *
                      generalize heldF (none) = G at *
                      simp only [Option.isSome_some, Option.isSome_none]
                      go_upto_region 30 with fail
                      generalize w6.alloc (.cells (frc G (.slice A5 G.tok.st.length c5) (.slice A6 G.tok.rows.length c6)) 41) = w7 at *
                      generalize w6.heap.size = xb at *
                      have u0 : World.cell? (w7) ⟨xb, 0, none⟩ = some _ := (B6).cell 0
                      have u1 : World.cell? (w7) ⟨xb, 1, none⟩ = some _ := (B6).cell 1
                      have u2 : World.cell? (w7) ⟨xb, 2, none⟩ = some _ := (B6).cell 2
                      have u3 : World.cell? (w7) ⟨xb, 3, none⟩ = some _ := (B6).cell 3
                      have u4 : World.cell? (w7) ⟨xb, 4, none⟩ = some _ := (B6).cell 4
                      have u5 : World.cell? (w7) ⟨xb, 5, none⟩ = some _ := (B6).cell 5
                      have u6 : World.cell? (w7) ⟨xb, 6, none⟩ = some _ := (B6).cell 6
                      have u7 : World.cell? (w7) ⟨xb, 7, none⟩ = some _ := (B6).cell 7
                      have u8 : World.cell? (w7) ⟨xb, 8, none⟩ = some _ := (B6).cell 8
                      have u9 : World.cell? (w7) ⟨xb, 9, none⟩ = some _ := (B6).cell 9
                      have u10 : World.cell? (w7) ⟨xb, 10, none⟩ = some _ := (B6).cell 10
                      have y0 : World.cell? (w7) ⟨fb, 0, none⟩ = some _ := (hS7h.out.blk).cell 0
                      have y1 : World.cell? (w7) ⟨fb, 1, none⟩ = some _ := (hS7h.out.blk).cell 1
                      have y2 : World.cell? (w7) ⟨fb, 2, none⟩ = some _ := (hS7h.out.blk).cell 2
                      have y3 : World.cell? (w7) ⟨fb, 3, none⟩ = some _ := (hS7h.out.blk).cell 3
                      have y4 : World.cell? (w7) ⟨fb, 4, none⟩ = some _ := (hS7h.out.blk).cell 4
                      have y5 : World.cell? (w7) ⟨fb, 5, none⟩ = some _ := (hS7h.out.blk).cell 5
                      have y6 : World.cell? (w7) ⟨fb, 6, none⟩ = some _ := (hS7h.out.blk).cell 6
                      have y7 : World.cell? (w7) ⟨fb, 7, none⟩ = some _ := (hS7h.out.blk).cell 7
                      have y8 : World.cell? (w7) ⟨fb, 8, none⟩ = some _ := (hS7h.out.blk).cell 8
                      have y9 : World.cell? (w7) ⟨fb, 9, none⟩ = some _ := (hS7h.out.blk).cell 9
                      have y10 : World.cell? (w7) ⟨fb, 10, none⟩ = some _ := (hS7h.out.blk).cell 10
                      go_wp2_with fail
                      go_at_call 17
                      refine Calls.mono (Smh.out) ?_
                      rintro e w8 ⟨rfl, t8⟩
                      have hS8 := Lib.hid (hS7h.out.turns t8)
                      clear u0 u1 u2 u3 u4 u5 u6 u7 u8 u9 u10 y0 y1 y2 y3 y4 y5 y6 y7 y8 y9 y10 Smh hS7h B6 t8
                      go_wp2_with fail
                      go_roundw
                      case rel => exact ⟨k + 1, n7, none, by omega, rfl, by go_num, by omega, by omega, .inl rfl, hS8.out⟩
                      case measure => simp [RowKit.intOf]; omega
                  · have Cb := Lib.hid (drop_u m w1 b n (some F) g q hSah.out.r)
                    simp only [Option.isSome_some]
                    cases hq : dropO (some F) g q with
                    | false =>
                      rw [hq] at Cb
                      clear hq
                      go_wp2_with fail
                      go_at_call 15
                      refine Calls.mono (Cb.out) ?_
                      rintro e w2 ⟨rfl, hr2, t2⟩
                      have hSth : Hid (St m w w2 b fb n (some F) F _ _) := Lib.hid (hSah.out.left t2 hr2)
                      have Ba2 := Ba.turns t2 (by simp; omega)
                      clear a0 a12 a13 Cb hSah t2 hr2 hth hfa
                      have a12 : World.cell? (w2) ⟨ab, 12, none⟩ = some _ := (Ba2).cell 12
                      have a13 : World.cell? (w2) ⟨ab, 13, none⟩ = some _ := (Ba2).cell 13
                      have b6 : World.cell? (w2) ⟨fb, 6, none⟩ = some _ := (hSth.out.blk).cell 6
                      have b7 : World.cell? (w2) ⟨fb, 7, none⟩ = some _ := (hSth.out.blk).cell 7
                      as_aux_lemma =>
                        have hSt := hSth.out
                        have Hh := Lib.hid (held_u m _ b n (some F) hSt.r (by omega))
                        clear hSt
                        go_wp2_with fail
                        go_at_call 12
                        refine Calls.mono (Hh.out) ?_
                        rintro e w6 ⟨s6, r6, rfl, tk6, hr6, t6⟩
                        have hS6 := hSth.out.left t6 hr6
                        obtain ⟨A5, c5, A6, c6, rfl, rfl⟩ := frc_form (g := heldF (some F)) tk6.tok
                        have ta6 := (Turns.refl [] w6).alloc (.cells (frc (heldF (some F)) (.slice A5 (heldF (some F)).tok.st.length c5) (.slice A6 (heldF (some F)).tok.rows.length c6)) 41)
                        have B6 := Blk.new w6 (frc (heldF (some F)) (.slice A5 (heldF (some F)).tok.st.length c5) (.slice A6 (heldF (some F)).tok.rows.length c6)) 41
                        have hS7 := hS6.turns ta6
                        have tk7 := tk6.far ta6 (by simp)
                        have Sm := rsame_is _ (heldF (some F)) F _ _ _ _ tk7.tok (hFh.out.turns hS7.t)
                        have nb := heldN_le (o := some F) hn0
                        rw [decide_eq_true (show heldF (some F) = F from rfl)] at Sm
                        have Smh := Lib.hid Sm
                        have hS7h := Lib.hid hS7
                        clear Sm hS7 tk7 ta6 hS6 t6 hr6 tk6 Hh hSth
                        unfold frv
                        unfold frv at Smh
                        generalize heldN (some F) n = n7 at *
                        generalize heldF (some F) = G at *
                        simp only [Option.isSome_some, Option.isSome_none]
                        go_upto_region 30 with fail
                        generalize w6.alloc (.cells (frc G (.slice A5 G.tok.st.length c5) (.slice A6 G.tok.rows.length c6)) 41) = w7 at *
                        generalize w6.heap.size = xb at *
                        have u0 : World.cell? (w7) ⟨xb, 0, none⟩ = some _ := (B6).cell 0
                        have u1 : World.cell? (w7) ⟨xb, 1, none⟩ = some _ := (B6).cell 1
                        have u2 : World.cell? (w7) ⟨xb, 2, none⟩ = some _ := (B6).cell 2
                        have u3 : World.cell? (w7) ⟨xb, 3, none⟩ = some _ := (B6).cell 3
                        have u4 : World.cell? (w7) ⟨xb, 4, none⟩ = some _ := (B6).cell 4
                        have u5 : World.cell? (w7) ⟨xb, 5, none⟩ = some _ := (B6).cell 5
                        have u6 : World.cell? (w7) ⟨xb, 6, none⟩ = some _ := (B6).cell 6
                        have u7 : World.cell? (w7) ⟨xb, 7, none⟩ = some _ := (B6).cell 7
                        have u8 : World.cell? (w7) ⟨xb, 8, none⟩ = some _ := (B6).cell 8
                        have u9 : World.cell? (w7) ⟨xb, 9, none⟩ = some _ := (B6).cell 9
                        have u10 : World.cell? (w7) ⟨xb, 10, none⟩ = some _ := (B6).cell 10
                        have y0 : World.cell? (w7) ⟨fb, 0, none⟩ = some _ := (hS7h.out.blk).cell 0
                        have y1 : World.cell? (w7) ⟨fb, 1, none⟩ = some _ := (hS7h.out.blk).cell 1
                        have y2 : World.cell? (w7) ⟨fb, 2, none⟩ = some _ := (hS7h.out.blk).cell 2
                        have y3 : World.cell? (w7) ⟨fb, 3, none⟩ = some _ := (hS7h.out.blk).cell 3
                        have y4 : World.cell? (w7) ⟨fb, 4, none⟩ = some _ := (hS7h.out.blk).cell 4
                        have y5 : World.cell? (w7) ⟨fb, 5, none⟩ = some _ := (hS7h.out.blk).cell 5
                        have y6 : World.cell? (w7) ⟨fb, 6, none⟩ = some _ := (hS7h.out.blk).cell 6
                        have y7 : World.cell? (w7) ⟨fb, 7, none⟩ = some _ := (hS7h.out.blk).cell 7
                        have y8 : World.cell? (w7) ⟨fb, 8, none⟩ = some _ := (hS7h.out.blk).cell 8
                        have y9 : World.cell? (w7) ⟨fb, 9, none⟩ = some _ := (hS7h.out.blk).cell 9
                        have y10 : World.cell? (w7) ⟨fb, 10, none⟩ = some _ := (hS7h.out.blk).cell 10
                        go_wp2_with fail
                        go_at_call 17
                        refine Calls.mono (Smh.out) ?_
                        rintro e w8 ⟨rfl, t8⟩
                        have hS8 := Lib.hid (hS7h.out.turns t8)
                        clear u0 u1 u2 u3 u4 u5 u6 u7 u8 u9 u10 y0 y1 y2 y3 y4 y5 y6 y7 y8 y9 y10 Smh hS7h B6 t8
                        go_wp2_with fail
                        go_roundw
                        case rel => exact ⟨k + 1, n7, some F, by omega, rfl, by go_num, by omega, by omega, .inr rfl, hS8.out⟩
                        case measure => simp [RowKit.intOf]; omega
                    | true =>
                      rw [hq] at Cb
                      obtain ⟨n1, n2 | ⟨n2, n3⟩⟩ := newerB_true (show newerB g q F.tok.gen F.tok.hop = true from hq)
                      · clear hq
                        go_wp2_with fail
                        go_at_call 15
                        refine Calls.mono (Cb.out) ?_
                        rintro e w2 ⟨rfl, hr2, t2⟩
                        have hSth : Hid (St m w w2 b fb n (none) F _ _) := Lib.hid (hSah.out.left t2 hr2)
                        have Ba2 := Ba.turns t2 (by simp; omega)
                        clear a0 a12 a13 Cb hSah t2 hr2 hth hfa
                        have a12 : World.cell? (w2) ⟨ab, 12, none⟩ = some _ := (Ba2).cell 12
                        have a13 : World.cell? (w2) ⟨ab, 13, none⟩ = some _ := (Ba2).cell 13
                        have b6 : World.cell? (w2) ⟨fb, 6, none⟩ = some _ := (hSth.out.blk).cell 6
                        have b7 : World.cell? (w2) ⟨fb, 7, none⟩ = some _ := (hSth.out.blk).cell 7
                        as_aux_lemma =>
                          have hSt := hSth.out
                          have Hh := Lib.hid (held_u m _ b n (none) hSt.r (by omega))
                          clear hSt
                          go_wp2_with fail
                          go_at_call 12
                          refine Calls.mono (Hh.out) ?_
                          rintro e w6 ⟨s6, r6, rfl, tk6, hr6, t6⟩
                          have hS6 := hSth.out.left t6 hr6
                          obtain ⟨A5, c5, A6, c6, rfl, rfl⟩ := frc_form (g := heldF (none)) tk6.tok
                          have ta6 := (Turns.refl [] w6).alloc (.cells (frc (heldF (none)) (.slice A5 (heldF (none)).tok.st.length c5) (.slice A6 (heldF (none)).tok.rows.length c6)) 41)
                          have B6 := Blk.new w6 (frc (heldF (none)) (.slice A5 (heldF (none)).tok.st.length c5) (.slice A6 (heldF (none)).tok.rows.length c6)) 41
                          have hS7 := hS6.turns ta6
                          have tk7 := tk6.far ta6 (by simp)
                          have Sm := rsame_is _ (heldF (none)) F _ _ _ _ tk7.tok (hFh.out.turns hS7.t)
                          have nb := heldN_le (o := none) hn0
                          generalize decide (heldF none = F) = sq at Sm
                          have Smh := Lib.hid Sm
                          have hS7h := Lib.hid hS7
                          clear Sm hS7 tk7 ta6 hS6 t6 hr6 tk6 Hh hSth
                          unfold frv
                          unfold frv at Smh
                          generalize heldN (none) n = n7 at *
                          generalize heldF (none) = G at *
                          simp only [Option.isSome_some, Option.isSome_none]
                          go_upto_region 30 with fail
                          generalize w6.alloc (.cells (frc G (.slice A5 G.tok.st.length c5) (.slice A6 G.tok.rows.length c6)) 41) = w7 at *
                          generalize w6.heap.size = xb at *
                          have u0 : World.cell? (w7) ⟨xb, 0, none⟩ = some _ := (B6).cell 0
                          have u1 : World.cell? (w7) ⟨xb, 1, none⟩ = some _ := (B6).cell 1
                          have u2 : World.cell? (w7) ⟨xb, 2, none⟩ = some _ := (B6).cell 2
                          have u3 : World.cell? (w7) ⟨xb, 3, none⟩ = some _ := (B6).cell 3
                          have u4 : World.cell? (w7) ⟨xb, 4, none⟩ = some _ := (B6).cell 4
                          have u5 : World.cell? (w7) ⟨xb, 5, none⟩ = some _ := (B6).cell 5
                          have u6 : World.cell? (w7) ⟨xb, 6, none⟩ = some _ := (B6).cell 6
                          have u7 : World.cell? (w7) ⟨xb, 7, none⟩ = some _ := (B6).cell 7
                          have u8 : World.cell? (w7) ⟨xb, 8, none⟩ = some _ := (B6).cell 8
                          have u9 : World.cell? (w7) ⟨xb, 9, none⟩ = some _ := (B6).cell 9
                          have u10 : World.cell? (w7) ⟨xb, 10, none⟩ = some _ := (B6).cell 10
                          have y0 : World.cell? (w7) ⟨fb, 0, none⟩ = some _ := (hS7h.out.blk).cell 0
                          have y1 : World.cell? (w7) ⟨fb, 1, none⟩ = some _ := (hS7h.out.blk).cell 1
                          have y2 : World.cell? (w7) ⟨fb, 2, none⟩ = some _ := (hS7h.out.blk).cell 2
                          have y3 : World.cell? (w7) ⟨fb, 3, none⟩ = some _ := (hS7h.out.blk).cell 3
                          have y4 : World.cell? (w7) ⟨fb, 4, none⟩ = some _ := (hS7h.out.blk).cell 4
                          have y5 : World.cell? (w7) ⟨fb, 5, none⟩ = some _ := (hS7h.out.blk).cell 5
                          have y6 : World.cell? (w7) ⟨fb, 6, none⟩ = some _ := (hS7h.out.blk).cell 6
                          have y7 : World.cell? (w7) ⟨fb, 7, none⟩ = some _ := (hS7h.out.blk).cell 7
                          have y8 : World.cell? (w7) ⟨fb, 8, none⟩ = some _ := (hS7h.out.blk).cell 8
                          have y9 : World.cell? (w7) ⟨fb, 9, none⟩ = some _ := (hS7h.out.blk).cell 9
                          have y10 : World.cell? (w7) ⟨fb, 10, none⟩ = some _ := (hS7h.out.blk).cell 10
                          go_wp2_with fail
                          go_at_call 17
                          refine Calls.mono (Smh.out) ?_
                          rintro e w8 ⟨rfl, t8⟩
                          have hS8 := Lib.hid (hS7h.out.turns t8)
                          clear u0 u1 u2 u3 u4 u5 u6 u7 u8 u9 u10 y0 y1 y2 y3 y4 y5 y6 y7 y8 y9 y10 Smh hS7h B6 t8
                          go_wp2_with fail
                          go_roundw
                          case rel => exact ⟨k + 1, n7, none, by omega, rfl, by go_num, by omega, by omega, .inl rfl, hS8.out⟩
                          case measure => simp [RowKit.intOf]; omega
                      · clear hq
                        go_wp2_with fail
                        go_at_call 15
                        refine Calls.mono (Cb.out) ?_
                        rintro e w2 ⟨rfl, hr2, t2⟩
                        have hSth : Hid (St m w w2 b fb n (none) F _ _) := Lib.hid (hSah.out.left t2 hr2)
                        have Ba2 := Ba.turns t2 (by simp; omega)
                        clear a0 a12 a13 Cb hSah t2 hr2 hth hfa
                        have a12 : World.cell? (w2) ⟨ab, 12, none⟩ = some _ := (Ba2).cell 12
                        have a13 : World.cell? (w2) ⟨ab, 13, none⟩ = some _ := (Ba2).cell 13
                        have b6 : World.cell? (w2) ⟨fb, 6, none⟩ = some _ := (hSth.out.blk).cell 6
                        have b7 : World.cell? (w2) ⟨fb, 7, none⟩ = some _ := (hSth.out.blk).cell 7
                        as_aux_lemma =>
                          have hSt := hSth.out
                          have Hh := Lib.hid (held_u m _ b n (none) hSt.r (by omega))
                          clear hSt
                          go_wp2_with fail
                          go_at_call 12
                          refine Calls.mono (Hh.out) ?_
                          rintro e w6 ⟨s6, r6, rfl, tk6, hr6, t6⟩
                          have hS6 := hSth.out.left t6 hr6
                          obtain ⟨A5, c5, A6, c6, rfl, rfl⟩ := frc_form (g := heldF (none)) tk6.tok
                          have ta6 := (Turns.refl [] w6).alloc (.cells (frc (heldF (none)) (.slice A5 (heldF (none)).tok.st.length c5) (.slice A6 (heldF (none)).tok.rows.length c6)) 41)
                          have B6 := Blk.new w6 (frc (heldF (none)) (.slice A5 (heldF (none)).tok.st.length c5) (.slice A6 (heldF (none)).tok.rows.length c6)) 41
                          have hS7 := hS6.turns ta6
                          have tk7 := tk6.far ta6 (by simp)
                          have Sm := rsame_is _ (heldF (none)) F _ _ _ _ tk7.tok (hFh.out.turns hS7.t)
                          have nb := heldN_le (o := none) hn0
                          generalize decide (heldF none = F) = sq at Sm
                          have Smh := Lib.hid Sm
                          have hS7h := Lib.hid hS7
                          clear Sm hS7 tk7 ta6 hS6 t6 hr6 tk6 Hh hSth
                          unfold frv
                          unfold frv at Smh
                          generalize heldN (none) n = n7 at *
                          generalize heldF (none) = G at *
                          simp only [Option.isSome_some, Option.isSome_none]
                          go_upto_region 30 with fail
                          generalize w6.alloc (.cells (frc G (.slice A5 G.tok.st.length c5) (.slice A6 G.tok.rows.length c6)) 41) = w7 at *
                          generalize w6.heap.size = xb at *
                          have u0 : World.cell? (w7) ⟨xb, 0, none⟩ = some _ := (B6).cell 0
                          have u1 : World.cell? (w7) ⟨xb, 1, none⟩ = some _ := (B6).cell 1
                          have u2 : World.cell? (w7) ⟨xb, 2, none⟩ = some _ := (B6).cell 2
                          have u3 : World.cell? (w7) ⟨xb, 3, none⟩ = some _ := (B6).cell 3
                          have u4 : World.cell? (w7) ⟨xb, 4, none⟩ = some _ := (B6).cell 4
                          have u5 : World.cell? (w7) ⟨xb, 5, none⟩ = some _ := (B6).cell 5
                          have u6 : World.cell? (w7) ⟨xb, 6, none⟩ = some _ := (B6).cell 6
                          have u7 : World.cell? (w7) ⟨xb, 7, none⟩ = some _ := (B6).cell 7
                          have u8 : World.cell? (w7) ⟨xb, 8, none⟩ = some _ := (B6).cell 8
                          have u9 : World.cell? (w7) ⟨xb, 9, none⟩ = some _ := (B6).cell 9
                          have u10 : World.cell? (w7) ⟨xb, 10, none⟩ = some _ := (B6).cell 10
                          have y0 : World.cell? (w7) ⟨fb, 0, none⟩ = some _ := (hS7h.out.blk).cell 0
                          have y1 : World.cell? (w7) ⟨fb, 1, none⟩ = some _ := (hS7h.out.blk).cell 1
                          have y2 : World.cell? (w7) ⟨fb, 2, none⟩ = some _ := (hS7h.out.blk).cell 2
                          have y3 : World.cell? (w7) ⟨fb, 3, none⟩ = some _ := (hS7h.out.blk).cell 3
                          have y4 : World.cell? (w7) ⟨fb, 4, none⟩ = some _ := (hS7h.out.blk).cell 4
                          have y5 : World.cell? (w7) ⟨fb, 5, none⟩ = some _ := (hS7h.out.blk).cell 5
                          have y6 : World.cell? (w7) ⟨fb, 6, none⟩ = some _ := (hS7h.out.blk).cell 6
                          have y7 : World.cell? (w7) ⟨fb, 7, none⟩ = some _ := (hS7h.out.blk).cell 7
                          have y8 : World.cell? (w7) ⟨fb, 8, none⟩ = some _ := (hS7h.out.blk).cell 8
                          have y9 : World.cell? (w7) ⟨fb, 9, none⟩ = some _ := (hS7h.out.blk).cell 9
                          have y10 : World.cell? (w7) ⟨fb, 10, none⟩ = some _ := (hS7h.out.blk).cell 10
                          go_wp2_with fail
                          go_at_call 17
                          refine Calls.mono (Smh.out) ?_
                          rintro e w8 ⟨rfl, t8⟩
                          have hS8 := Lib.hid (hS7h.out.turns t8)
                          clear u0 u1 u2 u3 u4 u5 u6 u7 u8 u9 u10 y0 y1 y2 y3 y4 y5 y6 y7 y8 y9 y10 Smh hS7h B6 t8
                          go_wp2_with fail
                          go_roundw
                          case rel => exact ⟨k + 1, n7, none, by omega, rfl, by go_num, by omega, by omega, .inl rfl, hS8.out⟩
                          case measure => simp [RowKit.intOf]; omega
                · have e6 : (kk.tmod 7 == 6) = false := by simpa using c6
                  clear c6
                  have hSth := hSah
                  clear hSah hth hfa
                  rcases ho with rfl | rfl
                  · simp only [Option.isSome_none]
                    as_aux_lemma =>
                      have hSt := hSth.out
                      have Hh := Lib.hid (held_u m _ b n (none) hSt.r (by omega))
                      clear hSt
                      go_wp2_with fail
                      go_at_call 12
                      refine Calls.mono (Hh.out) ?_
                      rintro e w6 ⟨s6, r6, rfl, tk6, hr6, t6⟩
                      have hS6 := hSth.out.left t6 hr6
                      obtain ⟨A5, c5, A6, c6, rfl, rfl⟩ := frc_form (g := heldF (none)) tk6.tok
                      have ta6 := (Turns.refl [] w6).alloc (.cells (frc (heldF (none)) (.slice A5 (heldF (none)).tok.st.length c5) (.slice A6 (heldF (none)).tok.rows.length c6)) 41)
                      have B6 := Blk.new w6 (frc (heldF (none)) (.slice A5 (heldF (none)).tok.st.length c5) (.slice A6 (heldF (none)).tok.rows.length c6)) 41
                      have hS7 := hS6.turns ta6
                      have tk7 := tk6.far ta6 (by simp)
                      have Sm := rsame_is _ (heldF (none)) F _ _ _ _ tk7.tok (hFh.out.turns hS7.t)
                      have nb := heldN_le (o := none) hn0
                      generalize decide (heldF none = F) = sq at Sm
                      have Smh := Lib.hid Sm
                      have hS7h := Lib.hid hS7
                      clear Sm hS7 tk7 ta6 hS6 t6 hr6 tk6 Hh hSth
                      unfold frv
                      unfold frv at Smh
                      generalize heldN (none) n = n7 at *
                      generalize heldF (none) = G at *
                      simp only [Option.isSome_some, Option.isSome_none]
                      go_upto_region 30 with fail
                      generalize w6.alloc (.cells (frc G (.slice A5 G.tok.st.length c5) (.slice A6 G.tok.rows.length c6)) 41) = w7 at *
                      generalize w6.heap.size = xb at *
                      have u0 : World.cell? (w7) ⟨xb, 0, none⟩ = some _ := (B6).cell 0
                      have u1 : World.cell? (w7) ⟨xb, 1, none⟩ = some _ := (B6).cell 1
                      have u2 : World.cell? (w7) ⟨xb, 2, none⟩ = some _ := (B6).cell 2
                      have u3 : World.cell? (w7) ⟨xb, 3, none⟩ = some _ := (B6).cell 3
                      have u4 : World.cell? (w7) ⟨xb, 4, none⟩ = some _ := (B6).cell 4
                      have u5 : World.cell? (w7) ⟨xb, 5, none⟩ = some _ := (B6).cell 5
                      have u6 : World.cell? (w7) ⟨xb, 6, none⟩ = some _ := (B6).cell 6
                      have u7 : World.cell? (w7) ⟨xb, 7, none⟩ = some _ := (B6).cell 7
                      have u8 : World.cell? (w7) ⟨xb, 8, none⟩ = some _ := (B6).cell 8
                      have u9 : World.cell? (w7) ⟨xb, 9, none⟩ = some _ := (B6).cell 9
                      have u10 : World.cell? (w7) ⟨xb, 10, none⟩ = some _ := (B6).cell 10
                      have y0 : World.cell? (w7) ⟨fb, 0, none⟩ = some _ := (hS7h.out.blk).cell 0
                      have y1 : World.cell? (w7) ⟨fb, 1, none⟩ = some _ := (hS7h.out.blk).cell 1
                      have y2 : World.cell? (w7) ⟨fb, 2, none⟩ = some _ := (hS7h.out.blk).cell 2
                      have y3 : World.cell? (w7) ⟨fb, 3, none⟩ = some _ := (hS7h.out.blk).cell 3
                      have y4 : World.cell? (w7) ⟨fb, 4, none⟩ = some _ := (hS7h.out.blk).cell 4
                      have y5 : World.cell? (w7) ⟨fb, 5, none⟩ = some _ := (hS7h.out.blk).cell 5
                      have y6 : World.cell? (w7) ⟨fb, 6, none⟩ = some _ := (hS7h.out.blk).cell 6
                      have y7 : World.cell? (w7) ⟨fb, 7, none⟩ = some _ := (hS7h.out.blk).cell 7
                      have y8 : World.cell? (w7) ⟨fb, 8, none⟩ = some _ := (hS7h.out.blk).cell 8
                      have y9 : World.cell? (w7) ⟨fb, 9, none⟩ = some _ := (hS7h.out.blk).cell 9
                      have y10 : World.cell? (w7) ⟨fb, 10, none⟩ = some _ := (hS7h.out.blk).cell 10
                      go_wp2_with fail
                      go_at_call 17
                      refine Calls.mono (Smh.out) ?_
                      rintro e w8 ⟨rfl, t8⟩
                      have hS8 := Lib.hid (hS7h.out.turns t8)
                      clear u0 u1 u2 u3 u4 u5 u6 u7 u8 u9 u10 y0 y1 y2 y3 y4 y5 y6 y7 y8 y9 y10 Smh hS7h B6 t8
                      go_wp2_with fail
                      go_roundw
                      case rel => exact ⟨k + 1, n7, none, by omega, rfl, by go_num, by omega, by omega, .inl rfl, hS8.out⟩
                      case measure => simp [RowKit.intOf]; omega
                  · simp only [Option.isSome_some]
                    as_aux_lemma =>
                      have hSt := hSth.out
                      have Hh := Lib.hid (held_u m _ b n (some F) hSt.r (by omega))
                      clear hSt
                      go_wp2_with fail
                      go_at_call 12
                      refine Calls.mono (Hh.out) ?_
                      rintro e w6 ⟨s6, r6, rfl, tk6, hr6, t6⟩
                      have hS6 := hSth.out.left t6 hr6
                      obtain ⟨A5, c5, A6, c6, rfl, rfl⟩ := frc_form (g := heldF (some F)) tk6.tok
                      have ta6 := (Turns.refl [] w6).alloc (.cells (frc (heldF (some F)) (.slice A5 (heldF (some F)).tok.st.length c5) (.slice A6 (heldF (some F)).tok.rows.length c6)) 41)
                      have B6 := Blk.new w6 (frc (heldF (some F)) (.slice A5 (heldF (some F)).tok.st.length c5) (.slice A6 (heldF (some F)).tok.rows.length c6)) 41
                      have hS7 := hS6.turns ta6
                      have tk7 := tk6.far ta6 (by simp)
                      have Sm := rsame_is _ (heldF (some F)) F _ _ _ _ tk7.tok (hFh.out.turns hS7.t)
                      have nb := heldN_le (o := some F) hn0
                      rw [decide_eq_true (show heldF (some F) = F from rfl)] at Sm
                      have Smh := Lib.hid Sm
                      have hS7h := Lib.hid hS7
                      clear Sm hS7 tk7 ta6 hS6 t6 hr6 tk6 Hh hSth
                      unfold frv
                      unfold frv at Smh
                      generalize heldN (some F) n = n7 at *
                      generalize heldF (some F) = G at *
                      simp only [Option.isSome_some, Option.isSome_none]
                      go_upto_region 30 with fail
                      generalize w6.alloc (.cells (frc G (.slice A5 G.tok.st.length c5) (.slice A6 G.tok.rows.length c6)) 41) = w7 at *
                      generalize w6.heap.size = xb at *
                      have u0 : World.cell? (w7) ⟨xb, 0, none⟩ = some _ := (B6).cell 0
                      have u1 : World.cell? (w7) ⟨xb, 1, none⟩ = some _ := (B6).cell 1
                      have u2 : World.cell? (w7) ⟨xb, 2, none⟩ = some _ := (B6).cell 2
                      have u3 : World.cell? (w7) ⟨xb, 3, none⟩ = some _ := (B6).cell 3
                      have u4 : World.cell? (w7) ⟨xb, 4, none⟩ = some _ := (B6).cell 4
                      have u5 : World.cell? (w7) ⟨xb, 5, none⟩ = some _ := (B6).cell 5
                      have u6 : World.cell? (w7) ⟨xb, 6, none⟩ = some _ := (B6).cell 6
                      have u7 : World.cell? (w7) ⟨xb, 7, none⟩ = some _ := (B6).cell 7
                      have u8 : World.cell? (w7) ⟨xb, 8, none⟩ = some _ := (B6).cell 8
                      have u9 : World.cell? (w7) ⟨xb, 9, none⟩ = some _ := (B6).cell 9
                      have u10 : World.cell? (w7) ⟨xb, 10, none⟩ = some _ := (B6).cell 10
                      have y0 : World.cell? (w7) ⟨fb, 0, none⟩ = some _ := (hS7h.out.blk).cell 0
                      have y1 : World.cell? (w7) ⟨fb, 1, none⟩ = some _ := (hS7h.out.blk).cell 1
                      have y2 : World.cell? (w7) ⟨fb, 2, none⟩ = some _ := (hS7h.out.blk).cell 2
                      have y3 : World.cell? (w7) ⟨fb, 3, none⟩ = some _ := (hS7h.out.blk).cell 3
                      have y4 : World.cell? (w7) ⟨fb, 4, none⟩ = some _ := (hS7h.out.blk).cell 4
                      have y5 : World.cell? (w7) ⟨fb, 5, none⟩ = some _ := (hS7h.out.blk).cell 5
                      have y6 : World.cell? (w7) ⟨fb, 6, none⟩ = some _ := (hS7h.out.blk).cell 6
                      have y7 : World.cell? (w7) ⟨fb, 7, none⟩ = some _ := (hS7h.out.blk).cell 7
                      have y8 : World.cell? (w7) ⟨fb, 8, none⟩ = some _ := (hS7h.out.blk).cell 8
                      have y9 : World.cell? (w7) ⟨fb, 9, none⟩ = some _ := (hS7h.out.blk).cell 9
                      have y10 : World.cell? (w7) ⟨fb, 10, none⟩ = some _ := (hS7h.out.blk).cell 10
                      go_wp2_with fail
                      go_at_call 17
                      refine Calls.mono (Smh.out) ?_
                      rintro e w8 ⟨rfl, t8⟩
                      have hS8 := Lib.hid (hS7h.out.turns t8)
                      clear u0 u1 u2 u3 u4 u5 u6 u7 u8 u9 u10 y0 y1 y2 y3 y4 y5 y6 y7 y8 y9 y10 Smh hS7h B6 t8
                      go_wp2_with fail
                      go_roundw
                      case rel => exact ⟨k + 1, n7, some F, by omega, rfl, by go_num, by omega, by omega, .inr rfl, hS8.out⟩
                      case measure => simp [RowKit.intOf]; omega
          · obtain rfl : k = l.length := by omega
            have g1 : decide ((l.length : Int) < (l.length : Int)) = false := by simp
            have T3 := hS.t
            clear hS hlt hk
            go_wp2_with fail
            go_at_call 8
            refine Calls.mono (alive_is _) ?_
            rintro e wz ⟨rfl, tz⟩
            have hX := hXh.out _ (T3.trans tz)
            go_wp2_with fail
            exact hX
end Go.Proofs.Ytohokckpheljbaa.Go_
