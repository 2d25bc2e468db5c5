/- The ledger's Find; the document's at and Find. -/
import Derived.Test.YtphhfdlhkginkaaBb
set_option linter.unusedVariables false
set_option linter.unusedSimpArgs false
set_option maxRecDepth 100000
namespace Go.Proofs.Ytphhfdlhkginkaa.Bc
open Go.RowKit Go.MapKept Hm Hs Hf Hx Hy Hv Fa Ff Ba Bb
theorem row_form {w : World} {x : Rw} {r : Row} (h : RowIs w x r) : ∃ A c, x = ⟨r.key, r.avail, r.mark, .slice A r.out.length c⟩ ∧ RdS 2 w (.slice A r.out.length c) (lss r.out) := by
  obtain ⟨A, c, ho, _⟩ := ls_form h.out
  obtain ⟨k, a, m, o⟩ := x
  obtain ⟨h1, h2, h3, h4⟩ := h
  simp only at h1 h2 h3 h4 ho
  subst h1 h2 h3 ho
  exact ⟨A, c, rfl, h4⟩
/-- a row, rows, whatever becomes of the blocks G -/
def RowS (G : List Nat) (w : World) (x : Rw) (r : Row) : Prop := ∀ W, Turns G w W → RowIs W x r
def RTS (G : List Nat) (w : World) (v : Value) (R : List Row) : Prop := ∃ X : List Rw, ∀ W, Turns G w W → RdS 4 W v (X.map Rw.cells) ∧ RowsIs W X R
theorem RTS.rt {G : List Nat} {w : World} {v : Value} {R : List Row} (h : RTS G w v R) : RT w v R := by
  obtain ⟨X, hX⟩ := h
  exact ⟨X, hX w (Turns.refl _ _)⟩
theorem RTS.of {G : List Nat} {w0 w : World} {v : Value} {R : List Row} (h : RT w0 v R) (t : Turns [] w0 w) (hG : ∀ k ∈ G, w0.heap.size ≤ k) : RTS G w v R := by
  obtain ⟨X, h1, h2⟩ := h
  exact ⟨X, fun W k => by
    have T := t.then k (fun i hi => .inr (hG i hi))
    exact ⟨h1.mv (fun a u => T.old), h2.turns T⟩⟩
theorem RowS.of {G : List Nat} {w0 w : World} {x : Rw} {r : Row} (h : RowIs w0 x r) (t : Turns [] w0 w) (hG : ∀ k ∈ G, w0.heap.size ≤ k) : RowS G w x r := fun W k => h.turns (t.then k (fun i hi => .inr (hG i hi)))
theorem RTS.turns {G : List Nat} {w w' : World} {v : Value} {R : List Row} (h : RTS G w v R) (t : Turns [] w w') : RTS G w' v R := by
  obtain ⟨X, hX⟩ := h
  exact ⟨X, fun W k => hX W ((t.mono (by simp)).trans k)⟩
theorem RowS.turns {G : List Nat} {w w' : World} {x : Rw} {r : Row} (h : RowS G w x r) (t : Turns [] w w') : RowS G w' x r := fun W k => h W ((t.mono (by simp)).trans k)
/-- rows, whatever becomes of the blocks G -/
def RowsS (G : List Nat) (w : World) (X : List Rw) (R : List Row) : Prop := ∀ W, Turns G w W → RowsIs W X R
theorem RowsS.nil (G : List Nat) (w : World) : RowsS G w [] [] := fun W _ => RowsIs.nil W
theorem RowsS.snoc {G : List Nat} {w : World} {X : List Rw} {R : List Row} {x : Rw} {r : Row} (h : RowsS G w X R) (hx : RowS G w x r) : RowsS G w (X ++ [x]) (R ++ [r]) := fun W t => (h W t).snoc (hx W t)
theorem RowsS.rows {G : List Nat} {w : World} {X : List Rw} {R : List Row} (h : RowsS G w X R) : RowsIs w X R := h w (Turns.refl _ _)
theorem RTS.at_ {G : List Nat} {w : World} {v : Value} {R : List Row} (h : RTS G w v R) {j : Nat} {r : Row} (hr : R[j]? = some r) : ∃ ad c x, v = .slice (some ad) R.length c ∧ RowS G w x r ∧ RCells w ad (j * 4) x := by
  obtain ⟨X, hX⟩ := h
  obtain ⟨h1, h2⟩ := hX w (Turns.refl _ _)
  obtain ⟨x, hx, hxr⟩ := h2.at_ hr
  obtain ⟨ad, c, hv, _, hc⟩ := h1.at_ (j := j) (r := Rw.cells x) (by rw [List.getElem?_map, hx]; rfl)
  rw [List.length_map, h2.1] at hv
  have c0 := hc 0 _ rfl
  have c1 := hc 1 _ rfl
  have c2 := hc 2 _ rfl
  have c3 := hc 3 _ rfl
  rw [Nat.add_zero] at c0
  rw [add_field _ _ _ (by omega)] at c1 c2 c3
  exact ⟨ad, c, x, hv, fun W t => (hX W t).2.2 j x r hx hr, ⟨c0, c1, c2, c3⟩⟩
theorem RTS.more {G F : List Nat} {w0 w : World} {v : Value} {R : List Row} (h : RTS G w0 v R) (t : Turns [] w0 w) (hF : ∀ k ∈ F, w0.heap.size ≤ k) : RTS (F ++ G) w v R := by
  obtain ⟨X, hX⟩ := h
  exact ⟨X, fun W k => hX W ((t.mono (by simp)).then k (fun i hi => by
    rcases List.mem_append.1 hi with hi | hi
    · exact .inr (hF i hi)
    · exact .inl hi))⟩
theorem gl {z : Nat} {G F : List Nat} {w w' : World} (h1 : z < w'.heap.size) (t : Turns F w w') (hG : ∀ k ∈ G, k < w.heap.size) : ∀ k ∈ [z] ++ G, k < w'.heap.size := fun k hk => by
  rcases List.mem_append.1 hk with hk | hk
  · rw [List.mem_singleton.1 hk]; exact h1
  · exact Nat.lt_of_lt_of_le (hG k hk) t.size
theorem RTS.less {G F : List Nat} {w1 w2 : World} {v : Value} {R : List Row} (h : RTS (F ++ G) w1 v R) (t : Turns F w1 w2) : RTS G w2 v R := by
  obtain ⟨X, hX⟩ := h
  exact ⟨X, fun W k => hX W ((t.mono (fun i hi => List.mem_append_left _ hi)).trans (k.mono (fun i hi => List.mem_append_right _ hi)))⟩
theorem RowS.row {G : List Nat} {w : World} {x : Rw} {r : Row} (h : RowS G w x r) : RowIs w x r := h w (Turns.refl _ _)
set_option maxHeartbeats 4000000 in
theorem find_is (G : List Nat) (w0 w : World) (start key : Int) (v : Value) (R : List Row) (h : RTS G w0 v R) (t0 : Turns [] w0 w) : Calls Try.prog 11 #[.agg #[.int .i64 start, v], .int .i64 key] w fun e w' => ∃ x : Rw, e = .returned (.tuple #[x.v, .bool (isAt R key)]) ∧ RowS G w0 x (rwAt start R key) ∧ Turns [] w w' := by
  obtain ⟨A, c, rfl, hlc, hcm⟩ := h.rt.form
  have hh := Lib.hid h
  have t0h := Lib.hid t0
  have hA := Lib.hid (fun W (t : Turns [] w W) => at_is W start key (.slice A R.length c) R (h.rt.turns (t0.trans t)))
  have H := ((Sep.start w).alloc #[.int .i64 start, .slice A R.length c] 24).alloc #[.int .i64 0, .int .i64 0, .int .i64 0, .slice none 0 0] 38
  rw [World.size_alloc] at H
  have hpl := pl_le R key
  obtain ⟨X, hX⟩ : ∃ X : Ending → World → Prop, X = fun e w' => ∃ x : Rw, e = .returned (.tuple #[x.v, .bool (isAt R key)]) ∧ RowS G w0 x (rwAt start R key) ∧ Turns [] w w' := ⟨_, rfl⟩
  rw [← hX]
  have hXh : Hid (∀ w' x, RowS G w0 x (rwAt start R key) → Turns [] w w' → X (.returned (.tuple #[x.v, .bool (isAt R key)])) w') := Lib.hid (fun w' x h1 h2 => by rw [hX]; exact ⟨x, rfl, h1, h2⟩)
  have c0 : World.cell? ((w.alloc (.cells #[.int .i64 start, .slice A R.length c] 24)).alloc (.cells #[.int .i64 0, .int .i64 0, .int .i64 0, .slice none 0 0] 38)) ⟨w.heap.size, 0, none⟩ = some _ := (H.blk 1 rfl).cell 0
  have c1 : World.cell? ((w.alloc (.cells #[.int .i64 start, .slice A R.length c] 24)).alloc (.cells #[.int .i64 0, .int .i64 0, .int .i64 0, .slice none 0 0] 38)) ⟨w.heap.size, 1, none⟩ = some _ := (H.blk 1 rfl).cell 1
  have Hh := Lib.hid H
  clear h H hX t0
  cases hat : isAt R key with
  | true =>
    obtain ⟨r, hr, hrk⟩ := isAt_true hat
    subst hrk
    have hrow := rwAt_yes (start := start) hat hr
    obtain ⟨p, hp⟩ : ∃ p, pl R r.key = p := ⟨_, rfl⟩
    rw [hat, hp] at hA
    rw [hat, hrow] at hXh
    rw [hp] at hpl hr
    have hrh := Lib.hid hr
    have hplt : p < R.length := (List.getElem?_eq_some_iff.1 hr).1
    clear hat hr hp hrow
    go_enter Try.func11, Try.ntmps11
    go_wp2_with fail
    go_at_call 37
    refine Calls.mono (hA.out _ Hh.out.t) ?_
    rintro e w1 ⟨rfl, t1⟩
    have H := Hh.out.turns t1
    obtain ⟨ad, c', x, hv, hxr, LX⟩ := hh.out.at_ hrh.out
    injection hv with e1 e2 e3
    subst e1 e3
    obtain ⟨Ao, co, rfl, ho⟩ := row_form hxr.row
    obtain ⟨x0, x1, x2, x3⟩ := LX.turns (t0h.out.trans H.t)
    have d1 : World.cell? (w1) ⟨w.heap.size, 1, none⟩ = some _ := (H.blk 1 rfl).cell 1
    have z0 : World.cell? (w1) ⟨w.heap.size + 1, 0, none⟩ = some _ := (H.blk 0 rfl).cell 0
    have zf0 : World.frozen? (w1) ⟨w.heap.size + 1, 0, none⟩ = false := (H.blk 0 rfl).frozen 0
    have z1 : World.cell? (w1) ⟨w.heap.size + 1, 1, none⟩ = some _ := (H.blk 0 rfl).cell 1
    have zf1 : World.frozen? (w1) ⟨w.heap.size + 1, 1, none⟩ = false := (H.blk 0 rfl).frozen 1
    have z2 : World.cell? (w1) ⟨w.heap.size + 1, 2, none⟩ = some _ := (H.blk 0 rfl).cell 2
    have zf2 : World.frozen? (w1) ⟨w.heap.size + 1, 2, none⟩ = false := (H.blk 0 rfl).frozen 2
    have z3 : World.cell? (w1) ⟨w.heap.size + 1, 3, none⟩ = some _ := (H.blk 0 rfl).cell 3
    have zf3 : World.frozen? (w1) ⟨w.heap.size + 1, 3, none⟩ = false := (H.blk 0 rfl).frozen 3
    have H5 := (((H.set 0 rfl 0 (.int .i64 r.key)).set 0 rfl 1 (.int .i64 r.avail)).set 0 rfl 2 (.int .i64 r.mark)).set 0 rfl 3 (.slice Ao r.out.length co)
    have hR := H5.blk 0 rfl
    have hX := hXh.out _ ⟨r.key, r.avail, r.mark, .slice Ao r.out.length co⟩ hxr H5.t
    clear e2 Hh H H5 hxr hA ho LX hXh hh
    go_wp2_with fail
    refine bodyPost_ret (res_list (rs := [.cell 4 38, .tmp 5]) rfl (by simp) (.cell (w.heap.size + 1) _ _ _ rfl hR Try.underlying38 rfl (by kernel_rfl) (.tmp .nil))) rfl ?_
    exact hX
  | false =>
    have hrow := rwAt_no (start := start) hat
    rw [hat] at hA
    rw [hat, hrow] at hXh
    obtain ⟨p, hp⟩ : ∃ p, pl R key = p := ⟨_, rfl⟩
    rw [hp] at hA hpl
    clear hat hp hrow
    go_enter Try.func11, Try.ntmps11
    go_wp2_with fail
    go_at_call 37
    refine Calls.mono (hA.out _ Hh.out.t) ?_
    rintro e w1 ⟨rfl, t1⟩
    have H := Hh.out.turns t1
    have d0 : World.cell? (w1) ⟨w.heap.size, 0, none⟩ = some _ := (H.blk 1 rfl).cell 0
    have z0 : World.cell? (w1) ⟨w.heap.size + 1, 0, none⟩ = some _ := (H.blk 0 rfl).cell 0
    have zf0 : World.frozen? (w1) ⟨w.heap.size + 1, 0, none⟩ = false := (H.blk 0 rfl).frozen 0
    have z1 : World.cell? (w1) ⟨w.heap.size + 1, 1, none⟩ = some _ := (H.blk 0 rfl).cell 1
    have zf1 : World.frozen? (w1) ⟨w.heap.size + 1, 1, none⟩ = false := (H.blk 0 rfl).frozen 1
    have z2 : World.cell? (w1) ⟨w.heap.size + 1, 2, none⟩ = some _ := (H.blk 0 rfl).cell 2
    have zf2 : World.frozen? (w1) ⟨w.heap.size + 1, 2, none⟩ = false := (H.blk 0 rfl).frozen 2
    have z3 : World.cell? (w1) ⟨w.heap.size + 1, 3, none⟩ = some _ := (H.blk 0 rfl).cell 3
    have zf3 : World.frozen? (w1) ⟨w.heap.size + 1, 3, none⟩ = false := (H.blk 0 rfl).frozen 3
    have H5 := (((H.set 0 rfl 0 (.int .i64 key)).set 0 rfl 1 (.int .i64 0)).set 0 rfl 2 (.int .i64 start)).set 0 rfl 3 (.slice none 0 0)
    have hR := H5.blk 0 rfl
    have hX := hXh.out _ ⟨key, 0, start, .slice none 0 0⟩ (fun W _ => ⟨rfl, rfl, rfl, RdS.nil 2 _⟩) H5.t
    clear Hh H H5 hA
    go_wp2_with fail
    refine bodyPost_ret (res_list (rs := [.cell 4 38, .tmp 5]) rfl (by simp) (.cell (w.heap.size + 1) _ _ _ rfl hR Try.underlying38 rfl (by kernel_rfl) (.tmp .nil))) rfl ?_
    exact hX
end Go.Proofs.Ytphhfdlhkginkaa.Bc
