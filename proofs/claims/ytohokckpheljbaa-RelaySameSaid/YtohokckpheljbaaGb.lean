/- The walks of package relay: Sent, Held, Hold. -/
import Derived.Test.YtohokckpheljbaaGa
import Derived.Deep.Cut
import Derived.Test.YtohokckpheljbaaHp
set_option linter.unusedVariables false
set_option linter.unusedSimpArgs false
set_option maxRecDepth 100000
namespace Go.Proofs.Ytohokckpheljbaa.Gb
open Go.RowKit Go.MapKept Go.Shelf Hm Hs Hf Hx Hy Hv Fa Fb Ff Fg Fi Fj Fq Fr_ Ga
def Fr.zero : Fr := ⟨0, 0, 0, 0, 0, 0, Tok.zero⟩
abbrev zeroF : Array Value := #[.int .i64 0, .int .i64 0, .int .i64 0, .int .i64 0, .int .i64 0, .int .u64 0, .int .i64 0, .int .i64 0, .slice none 0 0, .int .i64 0, .slice none 0 0]
/-- a frame that is held, in memory from m on -/
structure HeldAt (w : World) (m hb : Nat) (f : Fr) (sv rv : Value) : Prop where
  ne : m ≤ hb
  blk : Blk w hb (frc f sv rv) 41
  tok : TokFrom m w f.tok sv rv
  fits : fitsT f.tok
theorem HeldAt.far {F : List Nat} {w w' : World} {m hb : Nat} {f : Fr} {sv rv : Value} (h : HeldAt w m hb f sv rv) (t : Turns F w w') (hF : ∀ k ∈ F, k < m) : HeldAt w' m hb f sv rv :=
  ⟨h.ne, h.blk.turns t (fun hm => absurd (hF _ hm) (by have := h.ne; omega)), h.tok.far t hF, h.fits⟩
/-- a relay: its block, what it holds -/
inductive IsRelay (m : Nat) (w : World) (b : Nat) (cnt : Int) : Option Fr → Prop where
  | none (hm : b < m) (h : Blk w b #[.pointer none, .int .i64 cnt] 74) : IsRelay m w b cnt none
  | some (hm : b < m) (f : Fr) (hb : Nat) (sv rv : Value) (h : Blk w b #[.pointer (some ⟨hb, 0, Option.none⟩), .int .i64 cnt] 74) (hh : HeldAt w m hb f sv rv) : IsRelay m w b cnt (some f)
theorem IsRelay.far {F : List Nat} {m : Nat} {w w' : World} {b : Nat} {cnt : Int} {o : Option Fr} (h : IsRelay m w b cnt o) (t : Turns F w w') (hF : ∀ k ∈ F, k < m) (hb : b ∉ F) : IsRelay m w' b cnt o := by
  cases h with
  | none hm h => exact .none hm (h.turns t hb)
  | some hm f hb sv rv h hh => exact .some hm f hb sv rv (h.turns t (by assumption)) (hh.far t hF)
theorem IsRelay.turns {m : Nat} {w w' : World} {b : Nat} {cnt : Int} {o : Option Fr} (h : IsRelay m w b cnt o) (t : Turns [] w w') : IsRelay m w' b cnt o := h.far t (by simp) (by simp)
theorem IsRelay.lt {m : Nat} {w : World} {b : Nat} {cnt : Int} {o : Option Fr} (h : IsRelay m w b cnt o) : b < w.heap.size := by
  cases h with
  | none hm h => exact h.lt
  | some hm f hb sv rv h hh => exact h.lt
theorem IsRelay.bm {m : Nat} {w : World} {b : Nat} {cnt : Int} {o : Option Fr} (h : IsRelay m w b cnt o) : b < m := by
  cases h with
  | none hm h => exact hm
  | some hm f hb sv rv h hh => exact hm
theorem load_is (w : World) (b : Nat) (x : Int) (hc : w.cell? ⟨b, 1, none⟩ = some (.int .i64 x)) : Calls Try.prog 39 #[.pointer (some ⟨b, 1, none⟩)] w fun e w' => e = .returned (.int .i64 x) ∧ w' = w := by
  have hl := load_run hc
  go_enter Try.func39, Try.ntmps39
  go_wp2_with fail
  go_ret
  exact ⟨rfl, rfl⟩
theorem add_is (w : World) (b : Nat) (x s : Int) (hc : w.cell? ⟨b, 1, none⟩ = some (.int .i64 x)) (hz : w.frozen? ⟨b, 1, none⟩ = false) (hs : IntKind.i64.wrap (x + 1) = s) : Calls Try.prog 40 #[.pointer (some ⟨b, 1, none⟩), .int .i64 1] w fun e w' => e = .returned (.int .i64 s) ∧ w' = w.setCell ⟨b, 1, none⟩ (.int .i64 s) := by
  have hl := add_run hc hz hs
  go_enter Try.func40, Try.ntmps40
  go_wp2_with fail
  go_ret
  exact ⟨rfl, rfl⟩
theorem sent_nil (w : World) : Calls Try.prog 11 #[.pointer none] w fun e w' => e = .returned (.int .i64 0) ∧ Turns [] w w' := by
  go_enter Try.func11, Try.ntmps11
  go_wp2_with fail
  go_ret
  exact ⟨rfl, Turns.refl _ _⟩
theorem sent_is (m : Nat) (w : World) (b : Nat) (cnt : Int) (o : Option Fr) (h : IsRelay m w b cnt o) : Calls Try.prog 11 #[.pointer (some ⟨b, 0, none⟩)] w fun e w' => e = .returned (.int .i64 cnt) ∧ Turns [] w w' := by
  have hc : w.cell? ⟨b, 1, none⟩ = some (.int .i64 cnt) := by
    cases h with
    | none hm h => exact h.cell 1
    | some hm f hb sv rv h hh => exact h.cell 1
  have L := Lib.hid (load_is w b cnt hc)
  clear hc h
  go_enter Try.func11, Try.ntmps11
  go_wp2_with fail
  go_at_call 39
  refine Calls.mono (L.out) ?_
  rintro e w2 ⟨rfl, rfl⟩
  go_wp2_with fail
  go_ret
  exact ⟨rfl, Turns.refl _ _⟩
theorem held_nil (w : World) : Calls Try.prog 12 #[.pointer none] w fun e w' => e = .returned (.tuple #[frv Fr.zero (.slice none 0 0) (.slice none 0 0), .bool false]) ∧ Turns [] w w' := by
  have hR := Blk.new w zeroF 41
  have T := (Turns.refl [] w).alloc (.cells zeroF 41)
  unfold frv Fr.zero Tok.zero
  go_enter Try.func12, Try.ntmps12
  go_wp2_with fail
  refine bodyPost_ret (res_list (rs := [.cell 2 41, .tmp 3]) rfl (by simp) (.cell w.heap.size _ _ _ rfl hR Try.underlying41 rfl (by kernel_rfl) (.tmp .nil))) rfl ?_
  exact ⟨rfl, T⟩
theorem held_none (m : Nat) (w : World) (b : Nat) (cnt : Int) (h : IsRelay m w b cnt none) : Calls Try.prog 12 #[.pointer (some ⟨b, 0, none⟩)] w fun e w' => e = .returned (.tuple #[frv Fr.zero (.slice none 0 0) (.slice none 0 0), .bool false]) ∧ Turns [] w w' := by
  have hc : w.cell? ⟨b, 0, none⟩ = some (.pointer none) := by
    cases h with
    | none hm h => exact h.cell 0
  have T := (Turns.refl [] w).alloc (.cells zeroF 41)
  have hR := Blk.new w zeroF 41
  have c0 := T.old hc
  unfold frv Fr.zero Tok.zero
  clear h
  go_enter Try.func12, Try.ntmps12
  go_wp2_with fail
  refine bodyPost_ret (res_list (rs := [.cell 2 41, .tmp 3]) rfl (by simp) (.cell w.heap.size _ _ _ rfl hR Try.underlying41 rfl (by kernel_rfl) (.tmp .nil))) rfl ?_
  exact ⟨rfl, T⟩
set_option maxHeartbeats 1000000 in
theorem held_some (m : Nat) (w : World) (b : Nat) (cnt s : Int) (f : Fr) (h : IsRelay m w b cnt (some f)) (hs : IntKind.i64.wrap (cnt + 1) = s) : Calls Try.prog 12 #[.pointer (some ⟨b, 0, none⟩)] w
    fun e w' => ∃ sv rv, e = .returned (.tuple #[frv f sv rv, .bool true]) ∧ TokFrom w.heap.size w' f.tok sv rv ∧ IsRelay m w' b s (some f) ∧ Turns [b] w w' := by
  obtain ⟨hb, sv, rv, hB, hh⟩ : ∃ hb sv rv, Blk w b #[.pointer (some ⟨hb, 0, none⟩), .int .i64 cnt] 74 ∧ HeldAt w m hb f sv rv := by
    cases h with
    | some hm f hb sv rv h hh => exact ⟨hb, sv, rv, h, hh⟩
  have hbm := h.bm
  have H : Sep [b] w [tBlk b #[.pointer (some ⟨hb, 0, none⟩), .int .i64 cnt] 74] w := by simpa [fps, tBlk] using (Got.one (T := tBlk b #[.pointer (some ⟨hb, 0, none⟩), .int .i64 cnt] 74) hB).sep
  obtain ⟨X, hX⟩ : ∃ X : Ending → World → Prop, X = fun e w' => ∃ sv rv, e = .returned (.tuple #[frv f sv rv, .bool true]) ∧ TokFrom w.heap.size w' f.tok sv rv ∧ IsRelay m w' b s (some f) ∧ Turns [b] w w' := ⟨_, rfl⟩
  rw [← hX]
  have hXh : Hid (∀ w' sv rv, TokFrom w.heap.size w' f.tok sv rv → IsRelay m w' b s (some f) → Turns [b] w w' → X (.returned (.tuple #[.agg (frc f sv rv), .bool true])) w') := Lib.hid (fun w' sv rv h1 h2 h3 => by rw [hX]; exact ⟨sv, rv, rfl, h1, h2, h3⟩)
  have hhh := Lib.hid hh
  have Cl := Lib.hid (fun W (t : Turns [b] w W) => clone_is W f.tok sv rv (hh.far t (by simpa using hbm)).tok.tok hh.fits)
  obtain ⟨A1, c1, rfl, _⟩ := rform hh.tok.st
  obtain ⟨A3, c3, rfl, _⟩ := hh.tok.tok.rows.form
  have H1 := H.alloc zeroF 41
  have c0 : (w.alloc (.cells zeroF 41)).cell? ⟨b, 0, none⟩ = some _ := (H1.blk 1 rfl).cell 0
  have Ad := Lib.hid (add_is _ b cnt s ((H1.blk 1 rfl).cell 1) ((H1.blk 1 rfl).frozen 1) hs)
  have hHh := Lib.hid (H1.set 1 rfl 1 (.int .i64 s))
  clear h hB H hX hh H1 hs
  unfold tkv at Cl
  go_enter Try.func12, Try.ntmps12
  go_wp2_with fail
  go_at_call 40
  refine Calls.mono (Ad.out) ?_
  rintro e w2 ⟨rfl, rfl⟩
  have H := hHh.out
  generalize (w.alloc (.cells zeroF 41)).setCell ⟨b, 1, none⟩ (.int .i64 s) = w2 at *
  generalize w.heap.size = rb at *
  clear c0 Ad
  have b0 : World.cell? (w2) ⟨b, 0, none⟩ = some _ := (H.blk 1 rfl).cell 0
  have h0 : World.cell? (w2) ⟨hb, 0, none⟩ = some _ := ((hhh.out.far H.t (by simpa using hbm)).blk).cell 0
  have h1 : World.cell? (w2) ⟨hb, 1, none⟩ = some _ := ((hhh.out.far H.t (by simpa using hbm)).blk).cell 1
  have h2 : World.cell? (w2) ⟨hb, 2, none⟩ = some _ := ((hhh.out.far H.t (by simpa using hbm)).blk).cell 2
  have h3 : World.cell? (w2) ⟨hb, 3, none⟩ = some _ := ((hhh.out.far H.t (by simpa using hbm)).blk).cell 3
  have h4 : World.cell? (w2) ⟨hb, 4, none⟩ = some _ := ((hhh.out.far H.t (by simpa using hbm)).blk).cell 4
  have h5 : World.cell? (w2) ⟨hb, 5, none⟩ = some _ := ((hhh.out.far H.t (by simpa using hbm)).blk).cell 5
  have h6 : World.cell? (w2) ⟨hb, 6, none⟩ = some _ := ((hhh.out.far H.t (by simpa using hbm)).blk).cell 6
  have h7 : World.cell? (w2) ⟨hb, 7, none⟩ = some _ := ((hhh.out.far H.t (by simpa using hbm)).blk).cell 7
  have h8 : World.cell? (w2) ⟨hb, 8, none⟩ = some _ := ((hhh.out.far H.t (by simpa using hbm)).blk).cell 8
  have h9 : World.cell? (w2) ⟨hb, 9, none⟩ = some _ := ((hhh.out.far H.t (by simpa using hbm)).blk).cell 9
  have h10 : World.cell? (w2) ⟨hb, 10, none⟩ = some _ := ((hhh.out.far H.t (by simpa using hbm)).blk).cell 10
  have H2 := H.alloc (frc f (.slice A1 f.tok.st.length c1) (.slice A3 f.tok.rows.length c3)) 41
  have Cl2 := Lib.hid (Cl.out _ H2.t)
  have hH2 := Lib.hid H2
  clear H hHh Cl H2
  go_wp2_with fail
  go_at_call 33
  refine Calls.mono (Cl2.out) ?_
  rintro e w3 ⟨sv', rv', rfl, tk, t3⟩
  obtain ⟨A5, c5, rfl, _⟩ := rform tk.tok.st
  obtain ⟨A6, c6, rfl, _⟩ := tk.tok.rows.form
  have H := hH2.out.turns t3
  clear Cl2 h0 h1 h2 h3 h4 h5 h6 h7 h8 h9 h10 b0
  generalize w2.heap.size = xb at *
  have hn : xb + 1 ≤ (w2.alloc (.cells (frc f (.slice A1 f.tok.st.length c1) (.slice A3 f.tok.rows.length c3)) 41)).heap.size := by
    have := Blk.lt (hH2.out.blk 0 rfl)
    omega
  have hrn : rb < (w2.alloc (.cells (frc f (.slice A1 f.tok.st.length c1) (.slice A3 f.tok.rows.length c3)) 41)).heap.size := Blk.lt (hH2.out.blk 1 rfl)
  have tkh := Lib.hid tk
  clear tk hH2 t3
  have x6 : World.cell? (w3) ⟨xb, 6, none⟩ = some _ := (H.blk 0 rfl).cell 6
  have xf6 : World.frozen? (w3) ⟨xb, 6, none⟩ = false := (H.blk 0 rfl).frozen 6
  have x7 : World.cell? (w3) ⟨xb, 7, none⟩ = some _ := (H.blk 0 rfl).cell 7
  have xf7 : World.frozen? (w3) ⟨xb, 7, none⟩ = false := (H.blk 0 rfl).frozen 7
  have x8 : World.cell? (w3) ⟨xb, 8, none⟩ = some _ := (H.blk 0 rfl).cell 8
  have xf8 : World.frozen? (w3) ⟨xb, 8, none⟩ = false := (H.blk 0 rfl).frozen 8
  have x9 : World.cell? (w3) ⟨xb, 9, none⟩ = some _ := (H.blk 0 rfl).cell 9
  have xf9 : World.frozen? (w3) ⟨xb, 9, none⟩ = false := (H.blk 0 rfl).frozen 9
  have x10 : World.cell? (w3) ⟨xb, 10, none⟩ = some _ := (H.blk 0 rfl).cell 10
  have xf10 : World.frozen? (w3) ⟨xb, 10, none⟩ = false := (H.blk 0 rfl).frozen 10
  have H5 := ((((H.set 0 rfl 6 (.int .i64 f.tok.gen)).set 0 rfl 7 (.int .i64 f.tok.hop)).set 0 rfl 8 (.slice A5 f.tok.st.length c5)).set 0 rfl 9 (.int .i64 f.tok.start)).set 0 rfl 10 (.slice A6 f.tok.rows.length c6)
  have T5 := (((((Turns.refl [xb] w3).setCell (p := ⟨xb, 6, none⟩) (by simp) (.int .i64 f.tok.gen)).setCell (p := ⟨xb, 7, none⟩) (by simp) (.int .i64 f.tok.hop)).setCell (p := ⟨xb, 8, none⟩) (by simp) (.slice A5 f.tok.st.length c5)).setCell (p := ⟨xb, 9, none⟩) (by simp) (.int .i64 f.tok.start)).setCell (p := ⟨xb, 10, none⟩) (by simp) (.slice A6 f.tok.rows.length c6)
  have H5h := Lib.hid H5
  clear H H5
  go_upto_region 6 with fail
  have H := H5h.out
  clear H5h x6 x7 x8 x9 x10 xf6 xf7 xf8 xf9 xf10
  generalize ((((w3.setCell ⟨xb, 6, none⟩ (.int .i64 f.tok.gen)).setCell ⟨xb, 7, none⟩ (.int .i64 f.tok.hop)).setCell ⟨xb, 8, none⟩ (.slice A5 f.tok.st.length c5)).setCell ⟨xb, 9, none⟩ (.int .i64 f.tok.start)).setCell ⟨xb, 10, none⟩ (.slice A6 f.tok.rows.length c6) = w5 at *
  have H5 : Sep [b] w (tBlk xb (frc f (.slice A5 f.tok.st.length c5) (.slice A6 f.tok.rows.length c6)) 41 :: [tBlk rb zeroF 41, tBlk b #[.pointer (some ⟨hb, 0, none⟩), .int .i64 s] 74]) w5 := H
  have x0 : World.cell? (w5) ⟨xb, 0, none⟩ = some _ := (H5.blk 0 rfl).cell 0
  have x1 : World.cell? (w5) ⟨xb, 1, none⟩ = some _ := (H5.blk 0 rfl).cell 1
  have x2 : World.cell? (w5) ⟨xb, 2, none⟩ = some _ := (H5.blk 0 rfl).cell 2
  have x3 : World.cell? (w5) ⟨xb, 3, none⟩ = some _ := (H5.blk 0 rfl).cell 3
  have x4 : World.cell? (w5) ⟨xb, 4, none⟩ = some _ := (H5.blk 0 rfl).cell 4
  have x5 : World.cell? (w5) ⟨xb, 5, none⟩ = some _ := (H5.blk 0 rfl).cell 5
  have x6 : World.cell? (w5) ⟨xb, 6, none⟩ = some _ := (H5.blk 0 rfl).cell 6
  have x7 : World.cell? (w5) ⟨xb, 7, none⟩ = some _ := (H5.blk 0 rfl).cell 7
  have x8 : World.cell? (w5) ⟨xb, 8, none⟩ = some _ := (H5.blk 0 rfl).cell 8
  have x9 : World.cell? (w5) ⟨xb, 9, none⟩ = some _ := (H5.blk 0 rfl).cell 9
  have x10 : World.cell? (w5) ⟨xb, 10, none⟩ = some _ := (H5.blk 0 rfl).cell 10
  have z0 : World.cell? (w5) ⟨rb, 0, none⟩ = some _ := (H5.blk 1 rfl).cell 0
  have zf0 : World.frozen? (w5) ⟨rb, 0, none⟩ = false := (H5.blk 1 rfl).frozen 0
  have z1 : World.cell? (w5) ⟨rb, 1, none⟩ = some _ := (H5.blk 1 rfl).cell 1
  have zf1 : World.frozen? (w5) ⟨rb, 1, none⟩ = false := (H5.blk 1 rfl).frozen 1
  have z2 : World.cell? (w5) ⟨rb, 2, none⟩ = some _ := (H5.blk 1 rfl).cell 2
  have zf2 : World.frozen? (w5) ⟨rb, 2, none⟩ = false := (H5.blk 1 rfl).frozen 2
  have z3 : World.cell? (w5) ⟨rb, 3, none⟩ = some _ := (H5.blk 1 rfl).cell 3
  have zf3 : World.frozen? (w5) ⟨rb, 3, none⟩ = false := (H5.blk 1 rfl).frozen 3
  have z4 : World.cell? (w5) ⟨rb, 4, none⟩ = some _ := (H5.blk 1 rfl).cell 4
  have zf4 : World.frozen? (w5) ⟨rb, 4, none⟩ = false := (H5.blk 1 rfl).frozen 4
  have z5 : World.cell? (w5) ⟨rb, 5, none⟩ = some _ := (H5.blk 1 rfl).cell 5
  have zf5 : World.frozen? (w5) ⟨rb, 5, none⟩ = false := (H5.blk 1 rfl).frozen 5
  have z6 : World.cell? (w5) ⟨rb, 6, none⟩ = some _ := (H5.blk 1 rfl).cell 6
  have zf6 : World.frozen? (w5) ⟨rb, 6, none⟩ = false := (H5.blk 1 rfl).frozen 6
  have z7 : World.cell? (w5) ⟨rb, 7, none⟩ = some _ := (H5.blk 1 rfl).cell 7
  have zf7 : World.frozen? (w5) ⟨rb, 7, none⟩ = false := (H5.blk 1 rfl).frozen 7
  have z8 : World.cell? (w5) ⟨rb, 8, none⟩ = some _ := (H5.blk 1 rfl).cell 8
  have zf8 : World.frozen? (w5) ⟨rb, 8, none⟩ = false := (H5.blk 1 rfl).frozen 8
  have z9 : World.cell? (w5) ⟨rb, 9, none⟩ = some _ := (H5.blk 1 rfl).cell 9
  have zf9 : World.frozen? (w5) ⟨rb, 9, none⟩ = false := (H5.blk 1 rfl).frozen 9
  have z10 : World.cell? (w5) ⟨rb, 10, none⟩ = some _ := (H5.blk 1 rfl).cell 10
  have zf10 : World.frozen? (w5) ⟨rb, 10, none⟩ = false := (H5.blk 1 rfl).frozen 10
  have H6 := Hp.Sep.fill H5 1 rfl [.int .i64 f.kind, .int .i64 f.frm, .int .i64 f.to, .int .i64 f.gen, .int .i64 f.hop, .int .u64 f.bits, .int .i64 f.tok.gen, .int .i64 f.tok.hop, .slice A5 f.tok.st.length c5, .int .i64 f.tok.start, .slice A6 f.tok.rows.length c6] rfl
  have T6 := (Hp.blk_fill (H5.blk 1 rfl) [.int .i64 f.kind, .int .i64 f.frm, .int .i64 f.to, .int .i64 f.gen, .int .i64 f.hop, .int .u64 f.bits, .int .i64 f.tok.gen, .int .i64 f.tok.hop, .slice A5 f.tok.st.length c5, .int .i64 f.tok.start, .slice A6 f.tok.rows.length c6] rfl).2
  have hR := H6.blk 1 rfl
  have tk6 := (tkh.out.far T5 (by intro k hk; simp at hk; omega)).far T6 (by intro k hk; simp at hk; omega)
  have hT := H6.t
  have hBf := H6.blk 2 rfl
  have hX := hXh.out _ _ _ (tk6.mono (Nat.le_of_lt hrn)) (.some hbm f hb _ _ hBf (hhh.out.far hT (by simpa using hbm))) hT
  clear H H5 H6 T5 T6 tk6 hT hBf tkh hXh hhh
  go_wp2_with fail
  refine bodyPost_ret (res_list (rs := [.cell 2 41, .tmp 3]) rfl (by simp) (.cell rb _ _ _ rfl hR Try.underlying41 rfl (by kernel_rfl) (.tmp .nil))) rfl ?_
  exact hX
end Go.Proofs.Ytohokckpheljbaa.Gb
