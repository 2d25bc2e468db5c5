/- The document's relay: Held, Hold. -/
import Derived.Test.YtohokckpheljbaaGh
set_option linter.unusedVariables false
set_option linter.unusedSimpArgs false
set_option maxRecDepth 100000
namespace Go.Proofs.Ytohokckpheljbaa.Gi
open Go.RowKit Go.MapKept Go.Shelf Hm Hs Hf Hx Hy Hv Fa Fb Ff Fg Fi Fj Fq Fr_ Ga Gb Gc Gd Ge Gf Gg Gh
/-- the document's relay: its block, what it holds; the frame's rows were there at w0 -/
inductive IsDoc (m : Nat) (w0 w : World) (b : Nat) (n : Int) : Option Fr → Prop where
  | none (hm : b < m) (h : Blk w b #[.slice none 0 0, .int .i64 n] 30) : IsDoc m w0 w b n none
  | some (hm : b < m) (f : Fr) (fb : Nat) (sv rv : Value) (h : Blk w b #[.slice (some ⟨fb, 0, Option.none⟩) 1 1, .int .i64 n] 30) (hfb : m ≤ fb) (hB : Blk w fb (frc f sv rv) 41) (ht : TokR w0 f.tok sv rv) : IsDoc m w0 w b n (some f)
theorem IsDoc.far {F : List Nat} {m : Nat} {w0 w w' : World} {b : Nat} {n : Int} {o : Option Fr} (h : IsDoc m w0 w b n o) (t : Turns F w w') (hF : ∀ k ∈ F, k < m) (hb : b ∉ F) : IsDoc m w0 w' b n o := by
  cases h with
  | none hm h => exact .none hm (h.turns t hb)
  | some hm f fb sv rv h hfb hB ht => exact .some hm f fb sv rv (h.turns t (by assumption)) hfb (hB.turns t (fun hk => by have := hF _ hk; omega)) ht
theorem IsDoc.turns {m : Nat} {w0 w w' : World} {b : Nat} {n : Int} {o : Option Fr} (h : IsDoc m w0 w b n o) (t : Turns [] w w') : IsDoc m w0 w' b n o := h.far t (by simp) (by simp)
theorem IsDoc.bm {m : Nat} {w0 w : World} {b : Nat} {n : Int} {o : Option Fr} (h : IsDoc m w0 w b n o) : b < m := by
  cases h with
  | none hm h => exact hm
  | some hm f fb sv rv h hfb hB ht => exact hm
theorem IsDoc.lt {m : Nat} {w0 w : World} {b : Nat} {n : Int} {o : Option Fr} (h : IsDoc m w0 w b n o) : b < w.heap.size := by
  cases h with
  | none hm h => exact h.lt
  | some hm f fb sv rv h hfb hB ht => exact h.lt
theorem IsDoc.let_go {m : Nat} {w0 w : World} {b : Nat} {n : Int} {o : Option Fr} (h : IsDoc m w0 w b n o) : w.frozen? ⟨b, 0, Option.none⟩ = false ∧ IsDoc m w0 (w.setCell ⟨b, 0, Option.none⟩ (.slice Option.none 0 0)) b n Option.none ∧ Turns [b] w (w.setCell ⟨b, 0, Option.none⟩ (.slice Option.none 0 0)) ∧ ∃ v, w.cell? ⟨b, 0, Option.none⟩ = Option.some v := by
  obtain ⟨v, hB⟩ : ∃ v, Blk w b #[v, .int .i64 n] 30 := by
    cases h with
    | none hm h => exact ⟨_, h⟩
    | some hm f fb sv rv h hfb hB ht => exact ⟨_, h⟩
  exact ⟨hB.frozen 0, .none h.bm (hB.set 0 _), (Turns.refl [b] w).setCell (p := ⟨b, 0, Option.none⟩) (by simp) _, v, hB.cell 0⟩
theorem IsDoc.cnt {m : Nat} {w0 w : World} {b : Nat} {n : Int} {o : Option Fr} (h : IsDoc m w0 w b n o) : w.cell? ⟨b, 1, Option.none⟩ = Option.some (.int .i64 n) := by
  cases h with
  | none hm h => exact h.cell 1
  | some hm f fb sv rv h hfb hB ht => exact h.cell 1
theorem dheld_none (m : Nat) (w0 w : World) (b : Nat) (n : Int) (h : IsDoc m w0 w b n none) : Calls Try.prog 35 #[.pointer (some ⟨b, 0, none⟩)] w fun e w' => e = .returned (.tuple #[frv Fr.zero (.slice none 0 0) (.slice none 0 0), .bool false]) ∧ Turns [] w w' := by
  have hc : w.cell? ⟨b, 0, none⟩ = some (.slice none 0 0) := by
    cases h with
    | none hm h => exact h.cell 0
  have T := (Turns.refl [] w).alloc (.cells zeroF 41)
  have hR := Blk.new w zeroF 41
  have c0 := T.old hc
  unfold frv Fr.zero Tok.zero
  clear h
  go_enter Try.func35, Try.ntmps35
  go_wp2_with fail
  refine bodyPost_ret (res_list (rs := [.cell 2 41, .tmp 3]) rfl (by simp) (.cell w.heap.size _ _ _ rfl hR Try.underlying41 rfl (by kernel_rfl) (.tmp .nil))) rfl ?_
  exact ⟨rfl, T⟩
set_option maxHeartbeats 1000000 in
theorem dheld_some (m : Nat) (w0 w : World) (b : Nat) (n s : Int) (f : Fr) (h : IsDoc m w0 w b n (some f)) (hT : Turns [] w0 w) (hb0 : w0.heap.size ≤ b) (hs : IntKind.i64.wrap (n + 1) = s) : Calls Try.prog 35 #[.pointer (some ⟨b, 0, none⟩)] w
    fun e w' => ∃ sv rv, e = .returned (.tuple #[frv f sv rv, .bool true]) ∧ TokR w' f.tok sv rv ∧ IsDoc m w0 w' b s (some f) ∧ Turns [b] w w' := by
  obtain ⟨fb, sv, rv, hB, hfb, hF, ht⟩ : ∃ fb sv rv, Blk w b #[.slice (some ⟨fb, 0, Option.none⟩) 1 1, .int .i64 n] 30 ∧ m ≤ fb ∧ Blk w fb (frc f sv rv) 41 ∧ TokR w0 f.tok sv rv := by
    cases h with
    | some hm f fb sv rv h hfb hB ht => exact ⟨fb, sv, rv, h, hfb, hB, ht⟩
  have hbm := h.bm
  obtain ⟨X, hX⟩ : ∃ X : Ending → World → Prop, X = fun e w' => ∃ sv rv, e = .returned (.tuple #[frv f sv rv, .bool true]) ∧ TokR w' f.tok sv rv ∧ IsDoc m w0 w' b s (some f) ∧ Turns [b] w w' := ⟨_, rfl⟩
  rw [← hX]
  have hXh : Hid (∀ w' sv rv, TokR w' f.tok sv rv → IsDoc m w0 w' b s (some f) → Turns [b] w w' → X (.returned (.tuple #[.agg (frc f sv rv), .bool true])) w') := Lib.hid (fun w' sv rv h1 h2 h3 => by rw [hX]; exact ⟨sv, rv, rfl, h1, h2, h3⟩)
  have hth := Lib.hid ht
  obtain ⟨A1, c1, rfl, _⟩ := rform ht.st
  obtain ⟨A3, c3, rfl, _⟩ := ht.rows.form
  have hfl := hF.lt
  have hne : fb ≠ b := by omega
  have hne2 : w.heap.size ≠ b := by have := hB.lt; omega
  have H : Sep [b] w [tBlk b #[.slice (some ⟨fb, 0, Option.none⟩) 1 1, .int .i64 n] 30] w := by simpa [fps, tBlk] using (Got.one (T := tBlk b #[.slice (some ⟨fb, 0, Option.none⟩) 1 1, .int .i64 n] 30) hB).sep
  have H1 := H.alloc zeroF 41
  have b0 : World.cell? (w.alloc (.cells zeroF 41)) ⟨b, 0, none⟩ = some _ := (H1.blk 1 rfl).cell 0
  have b1 : World.cell? (w.alloc (.cells zeroF 41)) ⟨b, 1, none⟩ = some _ := (H1.blk 1 rfl).cell 1
  have bf1 : World.frozen? (w.alloc (.cells zeroF 41)) ⟨b, 1, none⟩ = false := (H1.blk 1 rfl).frozen 1
  have H2 := H1.set 1 rfl 1 (.int .i64 s)
  have F2 := hF.turns H2.t (by simpa using hne)
  have T02 : Turns [] w0 _ := hT.then H2.t (by intro i hi; simp at hi; right; omega)
  have hH2 := Lib.hid H2
  have hF2 := Lib.hid F2
  have hT02 := Lib.hid T02
  clear h hB hF ht hT H H1 H2 hX F2 T02
  go_enter Try.func35, Try.ntmps35
  go_upto_region 4 with fail
  generalize (w.alloc (.cells zeroF 41)).setCell ⟨b, 1, none⟩ (.int .i64 s) = w2 at *
  clear b0 b1 bf1
  have H := hH2.out
  have b0 : World.cell? (w2) ⟨b, 0, none⟩ = some _ := (H.blk 1 rfl).cell 0
  have h0 : World.cell? (w2) ⟨fb, 0, none⟩ = some _ := (hF2.out).cell 0
  have h1 : World.cell? (w2) ⟨fb, 1, none⟩ = some _ := (hF2.out).cell 1
  have h2 : World.cell? (w2) ⟨fb, 2, none⟩ = some _ := (hF2.out).cell 2
  have h3 : World.cell? (w2) ⟨fb, 3, none⟩ = some _ := (hF2.out).cell 3
  have h4 : World.cell? (w2) ⟨fb, 4, none⟩ = some _ := (hF2.out).cell 4
  have h5 : World.cell? (w2) ⟨fb, 5, none⟩ = some _ := (hF2.out).cell 5
  have h6 : World.cell? (w2) ⟨fb, 6, none⟩ = some _ := (hF2.out).cell 6
  have h7 : World.cell? (w2) ⟨fb, 7, none⟩ = some _ := (hF2.out).cell 7
  have h8 : World.cell? (w2) ⟨fb, 8, none⟩ = some _ := (hF2.out).cell 8
  have h9 : World.cell? (w2) ⟨fb, 9, none⟩ = some _ := (hF2.out).cell 9
  have h10 : World.cell? (w2) ⟨fb, 10, none⟩ = some _ := (hF2.out).cell 10
  have z0 : World.cell? (w2) ⟨w.heap.size, 0, none⟩ = some _ := (H.blk 0 rfl).cell 0
  have zf0 : World.frozen? (w2) ⟨w.heap.size, 0, none⟩ = false := (H.blk 0 rfl).frozen 0
  have z1 : World.cell? (w2) ⟨w.heap.size, 1, none⟩ = some _ := (H.blk 0 rfl).cell 1
  have zf1 : World.frozen? (w2) ⟨w.heap.size, 1, none⟩ = false := (H.blk 0 rfl).frozen 1
  have z2 : World.cell? (w2) ⟨w.heap.size, 2, none⟩ = some _ := (H.blk 0 rfl).cell 2
  have zf2 : World.frozen? (w2) ⟨w.heap.size, 2, none⟩ = false := (H.blk 0 rfl).frozen 2
  have z3 : World.cell? (w2) ⟨w.heap.size, 3, none⟩ = some _ := (H.blk 0 rfl).cell 3
  have zf3 : World.frozen? (w2) ⟨w.heap.size, 3, none⟩ = false := (H.blk 0 rfl).frozen 3
  have z4 : World.cell? (w2) ⟨w.heap.size, 4, none⟩ = some _ := (H.blk 0 rfl).cell 4
  have zf4 : World.frozen? (w2) ⟨w.heap.size, 4, none⟩ = false := (H.blk 0 rfl).frozen 4
  have z5 : World.cell? (w2) ⟨w.heap.size, 5, none⟩ = some _ := (H.blk 0 rfl).cell 5
  have zf5 : World.frozen? (w2) ⟨w.heap.size, 5, none⟩ = false := (H.blk 0 rfl).frozen 5
  have z6 : World.cell? (w2) ⟨w.heap.size, 6, none⟩ = some _ := (H.blk 0 rfl).cell 6
  have zf6 : World.frozen? (w2) ⟨w.heap.size, 6, none⟩ = false := (H.blk 0 rfl).frozen 6
  have z7 : World.cell? (w2) ⟨w.heap.size, 7, none⟩ = some _ := (H.blk 0 rfl).cell 7
  have zf7 : World.frozen? (w2) ⟨w.heap.size, 7, none⟩ = false := (H.blk 0 rfl).frozen 7
  have z8 : World.cell? (w2) ⟨w.heap.size, 8, none⟩ = some _ := (H.blk 0 rfl).cell 8
  have zf8 : World.frozen? (w2) ⟨w.heap.size, 8, none⟩ = false := (H.blk 0 rfl).frozen 8
  have z9 : World.cell? (w2) ⟨w.heap.size, 9, none⟩ = some _ := (H.blk 0 rfl).cell 9
  have zf9 : World.frozen? (w2) ⟨w.heap.size, 9, none⟩ = false := (H.blk 0 rfl).frozen 9
  have z10 : World.cell? (w2) ⟨w.heap.size, 10, none⟩ = some _ := (H.blk 0 rfl).cell 10
  have zf10 : World.frozen? (w2) ⟨w.heap.size, 10, none⟩ = false := (H.blk 0 rfl).frozen 10
  have H6 := Hp.Sep.fill H 0 rfl [.int .i64 f.kind, .int .i64 f.frm, .int .i64 f.to, .int .i64 f.gen, .int .i64 f.hop, .int .u64 f.bits, .int .i64 f.tok.gen, .int .i64 f.tok.hop, .slice A1 f.tok.st.length c1, .int .i64 f.tok.start, .slice A3 f.tok.rows.length c3] rfl
  have hR := H6.blk 0 rfl
  have T6 := (Hp.blk_fill (H.blk 0 rfl) [.int .i64 f.kind, .int .i64 f.frm, .int .i64 f.to, .int .i64 f.gen, .int .i64 f.hop, .int .u64 f.bits, .int .i64 f.tok.gen, .int .i64 f.tok.hop, .slice A1 f.tok.st.length c1, .int .i64 f.tok.start, .slice A3 f.tok.rows.length c3] rfl).2
  have T06 := hT02.out.then T6 (by intro i hi; simp at hi; right; omega)
  have hX := hXh.out _ _ _ (hth.out.turns T06) (.some hbm f fb _ _ (H6.blk 1 rfl) hfb (hF2.out.turns T6 (by simp; omega)) hth.out) H6.t
  clear H H6 T6 T06 hXh hth hF2 hH2 hT02
  go_wp2_with fail
  refine bodyPost_ret (res_list (rs := [.cell 2 41, .tmp 3]) rfl (by simp) (.cell w.heap.size _ _ _ rfl hR Try.underlying41 rfl (by kernel_rfl) (.tmp .nil))) rfl ?_
  exact hX
set_option maxHeartbeats 4000000 in
theorem dhold_is (m : Nat) (w0 w : World) (b : Nat) (n : Int) (o : Option Fr) (f : Fr) (sv rv : Value) (h : IsDoc m w0 w b n o) (hmw : m ≤ w.heap.size) (ht0 : TokR w0 f.tok sv rv) (ht : TokR w f.tok sv rv) (k : Int) (o' : Option Fr) (hq : holdR o f = (k, o')) :
    Calls Try.prog 38 #[.pointer (some ⟨b, 0, none⟩), frv f sv rv] w fun e w' => e = .returned (.int .i64 k) ∧ IsDoc m w0 w' b n o' ∧ Turns [b] w w' := by
  have hblt := h.lt
  have hbm := h.bm
  have T0 := (Turns.refl [] w).alloc (.cells (frc f sv rv) 41)
  have R1 := Lib.hid (Fp.rright_is _ f sv rv (ht.turns T0))
  have B0 := Blk.new w (frc f sv rv) 41
  have ht0h := Lib.hid ht0
  obtain ⟨A1, c1, rfl, _⟩ := rform ht.st
  obtain ⟨A3, c3, rfl, _⟩ := ht.rows.form
  unfold frv
  unfold frv at R1
  have hh := Lib.hid h
  clear h ht ht0
  have x0 : World.cell? (w.alloc (.cells (frc f (.slice A1 f.tok.st.length c1) (.slice A3 f.tok.rows.length c3)) 41)) ⟨w.heap.size, 0, none⟩ = some _ := (B0).cell 0
  have x1 : World.cell? (w.alloc (.cells (frc f (.slice A1 f.tok.st.length c1) (.slice A3 f.tok.rows.length c3)) 41)) ⟨w.heap.size, 1, none⟩ = some _ := (B0).cell 1
  have x2 : World.cell? (w.alloc (.cells (frc f (.slice A1 f.tok.st.length c1) (.slice A3 f.tok.rows.length c3)) 41)) ⟨w.heap.size, 2, none⟩ = some _ := (B0).cell 2
  have x3 : World.cell? (w.alloc (.cells (frc f (.slice A1 f.tok.st.length c1) (.slice A3 f.tok.rows.length c3)) 41)) ⟨w.heap.size, 3, none⟩ = some _ := (B0).cell 3
  have x4 : World.cell? (w.alloc (.cells (frc f (.slice A1 f.tok.st.length c1) (.slice A3 f.tok.rows.length c3)) 41)) ⟨w.heap.size, 4, none⟩ = some _ := (B0).cell 4
  have x5 : World.cell? (w.alloc (.cells (frc f (.slice A1 f.tok.st.length c1) (.slice A3 f.tok.rows.length c3)) 41)) ⟨w.heap.size, 5, none⟩ = some _ := (B0).cell 5
  have x6 : World.cell? (w.alloc (.cells (frc f (.slice A1 f.tok.st.length c1) (.slice A3 f.tok.rows.length c3)) 41)) ⟨w.heap.size, 6, none⟩ = some _ := (B0).cell 6
  have x7 : World.cell? (w.alloc (.cells (frc f (.slice A1 f.tok.st.length c1) (.slice A3 f.tok.rows.length c3)) 41)) ⟨w.heap.size, 7, none⟩ = some _ := (B0).cell 7
  have x8 : World.cell? (w.alloc (.cells (frc f (.slice A1 f.tok.st.length c1) (.slice A3 f.tok.rows.length c3)) 41)) ⟨w.heap.size, 8, none⟩ = some _ := (B0).cell 8
  have x9 : World.cell? (w.alloc (.cells (frc f (.slice A1 f.tok.st.length c1) (.slice A3 f.tok.rows.length c3)) 41)) ⟨w.heap.size, 9, none⟩ = some _ := (B0).cell 9
  have x10 : World.cell? (w.alloc (.cells (frc f (.slice A1 f.tok.st.length c1) (.slice A3 f.tok.rows.length c3)) 41)) ⟨w.heap.size, 10, none⟩ = some _ := (B0).cell 10
  unfold holdR at hq
  cases hr : rightB f with
  | false =>
    rw [if_pos (.inl hr)] at hq
    simp only [Prod.mk.injEq] at hq
    obtain ⟨rfl, rfl⟩ := hq
    rw [hr] at R1
    clear hr
    go_enter Try.func38, Try.ntmps38
    go_wp2_with fail
    go_at_call 22
    refine Calls.mono (R1.out) ?_
    rintro e w2 ⟨rfl, t2⟩
    have T2 := T0.trans t2
    have hX := hh.out.turns T2
    go_wp2_with fail
    go_ret
    exact ⟨rfl, hX, T2.mono (by simp)⟩
  | true =>
    rw [hr] at R1
    by_cases hk : f.kind = 0
    · have g0 : (f.kind != 0) = false := by simp [hk]
      rw [if_neg (by rw [hr]; simp [hk])] at hq
      have hkh := Lib.hid hk
      clear hr hk
      go_enter Try.func38, Try.ntmps38
      go_wp2_with fail
      go_at_call 22
      refine Calls.mono (R1.out) ?_
      rintro e w2 ⟨rfl, t2⟩
      have T2 := T0.trans t2
      have B2 := B0.turns t2 (by simp)
      have h2 := hh.out.turns T2
      clear x0 x1 x2 x3 x4 x5 x6 x7 x8 x9 x10 hh
      have x0 : World.cell? (w2) ⟨w.heap.size, 0, none⟩ = some _ := (B2).cell 0
      cases h2 with
      | some hm g fb sv2 rv2 hB hfb hF hg =>
        simp only [Prod.mk.injEq] at hq
        obtain ⟨rfl, rfl⟩ := hq
        have b0 := hB.cell 0
        have hX : IsDoc m w0 w2 b n (some g) := .some hm g fb sv2 rv2 hB hfb hF hg
        go_wp2_with fail
        go_ret
        exact ⟨rfl, hX, T2.mono (by simp)⟩
      | none hm hB =>
        simp only [Prod.mk.injEq] at hq
        obtain ⟨rfl, rfl⟩ := hq
        have x1 : World.cell? (w2) ⟨w.heap.size, 1, none⟩ = some _ := (B2).cell 1
        have x2 : World.cell? (w2) ⟨w.heap.size, 2, none⟩ = some _ := (B2).cell 2
        have x3 : World.cell? (w2) ⟨w.heap.size, 3, none⟩ = some _ := (B2).cell 3
        have x4 : World.cell? (w2) ⟨w.heap.size, 4, none⟩ = some _ := (B2).cell 4
        have x5 : World.cell? (w2) ⟨w.heap.size, 5, none⟩ = some _ := (B2).cell 5
        have x6 : World.cell? (w2) ⟨w.heap.size, 6, none⟩ = some _ := (B2).cell 6
        have x7 : World.cell? (w2) ⟨w.heap.size, 7, none⟩ = some _ := (B2).cell 7
        have x8 : World.cell? (w2) ⟨w.heap.size, 8, none⟩ = some _ := (B2).cell 8
        have x9 : World.cell? (w2) ⟨w.heap.size, 9, none⟩ = some _ := (B2).cell 9
        have x10 : World.cell? (w2) ⟨w.heap.size, 10, none⟩ = some _ := (B2).cell 10
        have b0 := hB.cell 0
        have hB3 := hB.alloc (.cells (frc f (.slice A1 f.tok.st.length c1) (.slice A3 f.tok.rows.length c3)) 41)
        have bb0 := hB3.cell 0
        have bf0 := hB3.frozen 0
        have hs2 : w.heap.size < w2.heap.size := B2.lt
        have F3 := Blk.new w2 (frc f (.slice A1 f.tok.st.length c1) (.slice A3 f.tok.rows.length c3)) 41
        have hX : IsDoc m w0 ((w2.alloc (.cells (frc f (.slice A1 f.tok.st.length c1) (.slice A3 f.tok.rows.length c3)) 41)).setCell ⟨b, 0, none⟩ (.slice (some ⟨w2.heap.size, 0, none⟩) 1 1)) b n (some f) :=
          .some hbm f w2.heap.size _ _ (hB3.set 0 _) (by omega) (F3.far (by simp; omega) _) ht0h.out
        have hT := ((T2.mono (G := [b]) (by simp)).alloc (.cells (frc f (.slice A1 f.tok.st.length c1) (.slice A3 f.tok.rows.length c3)) 41)).setCell (p := ⟨b, 0, none⟩) (by simp) (.slice (some ⟨w2.heap.size, 0, none⟩) 1 1)
        clear B2 hB T2 T0 B0 hB3 F3
        go_wp2_with fail
        go_ret
        exact ⟨rfl, hX, hT⟩
    · have g0 : (f.kind != 0) = true := by simp [hk]
      rw [if_pos (.inr hk)] at hq
      simp only [Prod.mk.injEq] at hq
      obtain ⟨rfl, rfl⟩ := hq
      clear hr hk
      go_enter Try.func38, Try.ntmps38
      go_wp2_with fail
      go_at_call 22
      refine Calls.mono (R1.out) ?_
      rintro e w2 ⟨rfl, t2⟩
      have T2 := T0.trans t2
      have hX := hh.out.turns T2
      have y0 := (B0.turns t2 (by simp)).cell 0
      go_wp2_with fail
      go_ret
      exact ⟨rfl, hX, T2.mono (by simp)⟩
end Go.Proofs.Ytohokckpheljbaa.Gi
