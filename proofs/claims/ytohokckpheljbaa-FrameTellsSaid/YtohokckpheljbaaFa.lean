/- Tables, tokens, frames: as data, as they lie in memory; frame's in, leases; the document's. -/
import Derived.Test.YtohokckpheljbaaProg
import Derived.Test.YtohokckpheljbaaHy
import Derived.Test.YtohokckpheljbaaHf
import Derived.Lib.Hide
import Derived.Lib.MinMax
import Derived.KernelRfl
import Derived.WalkSpells
import Derived.StillTailTactics
import Derived.BigQuiet
import Derived.Deep.QuietTactic
import Derived.WalkKit
import Derived.Lib.SliceRun
import Derived.Deep.LoopGhost
set_option linter.unusedVariables false
set_option linter.unusedSimpArgs false
set_option maxRecDepth 100000
namespace Go.Proofs.Ytohokckpheljbaa.Fa
open Go.RowKit Go.MapKept Hm Hs Hf Hx Hy Hv
/-- a row; a table; a token; a frame -/
structure Row where
  key : Int
  avail : Int
  mark : Int
  out : List (Int × Int)
deriving DecidableEq
structure Tok where
  gen : Int
  hop : Int
  st : List Int
  start : Int
  rows : List Row
deriving DecidableEq
structure Fr where
  kind : Int
  frm : Int
  to : Int
  gen : Int
  hop : Int
  bits : Int
  tok : Tok
deriving DecidableEq
/-- a row in memory: its leases' slice -/
structure Rw where
  key : Int
  avail : Int
  mark : Int
  out : Value
def Rw.cells (x : Rw) : List Value := [.int .i64 x.key, .int .i64 x.avail, .int .i64 x.mark, x.out]
def Rw.v (x : Rw) : Value := .agg #[.int .i64 x.key, .int .i64 x.avail, .int .i64 x.mark, x.out]
def lss (l : List (Int × Int)) : List (List Value) := l.map fun p => [.int .i64 p.1, .int .i64 p.2]
theorem lss_len (l : List (Int × Int)) : (lss l).length = l.length := by unfold lss; simp
theorem lss_append (l m : List (Int × Int)) : lss (l ++ m) = lss l ++ lss m := by unfold lss; simp
theorem lss_one (l : List (Int × Int)) : ∀ r ∈ lss l, ∀ u ∈ r, u.oneCell' = true := by
  intro r hr u hu
  obtain ⟨x, _, rfl⟩ := List.mem_map.1 hr
  simp at hu
  rcases hu with rfl | rfl <;> rfl
/-- it is that row -/
structure RowIs (w : World) (x : Rw) (r : Row) : Prop where
  key : x.key = r.key
  avail : x.avail = r.avail
  mark : x.mark = r.mark
  out : RdS 2 w x.out (lss r.out)
theorem RowIs.turns {w w' : World} {x : Rw} {r : Row} (h : RowIs w x r) (t : Turns [] w w') : RowIs w' x r := ⟨h.key, h.avail, h.mark, h.out.mv (fun a u => t.old)⟩
/-- these rows, each of which is that one -/
def RowsIs (w : World) (X : List Rw) (R : List Row) : Prop := X.length = R.length ∧ ∀ (j : Nat) (x : Rw) (r : Row), X[j]? = some x → R[j]? = some r → RowIs w x r
theorem RowsIs.turns {w w' : World} {X : List Rw} {R : List Row} (h : RowsIs w X R) (t : Turns [] w w') : RowsIs w' X R := ⟨h.1, fun j x r hx hr => (h.2 j x r hx hr).turns t⟩
theorem RowsIs.nil (w : World) : RowsIs w [] [] := ⟨rfl, fun j x r hx => by simp at hx⟩
theorem RowsIs.at_ {w : World} {X : List Rw} {R : List Row} (h : RowsIs w X R) {j : Nat} {r : Row} (hr : R[j]? = some r) : ∃ x, X[j]? = some x ∧ RowIs w x r := by
  have hj := (List.getElem?_eq_some_iff.1 hr).1
  obtain ⟨x, hx⟩ : ∃ x, X[j]? = some x := ⟨_, List.getElem?_eq_getElem (by rw [h.1]; exact hj)⟩
  exact ⟨x, hx, h.2 j x r hx hr⟩
theorem RowsIs.snoc {w : World} {X : List Rw} {R : List Row} {x : Rw} {r : Row} (h : RowsIs w X R) (hx : RowIs w x r) : RowsIs w (X ++ [x]) (R ++ [r]) := by
  refine ⟨by simp [h.1], fun j y s hy hs => ?_⟩
  by_cases hj : j < X.length
  · rw [List.getElem?_append_left hj] at hy
    rw [List.getElem?_append_left (by rw [← h.1]; exact hj)] at hs
    exact h.2 j y s hy hs
  · rw [List.getElem?_append_right (by omega)] at hy
    rw [List.getElem?_append_right (by rw [← h.1]; omega), ← h.1] at hs
    cases hk : j - X.length with
    | zero =>
      rw [hk] at hy hs
      simp at hy hs
      subst hy hs
      exact hx
    | succ m => rw [hk] at hy; simp at hy
/-- a table's rows, read -/
def RT (w : World) (v : Value) (R : List Row) : Prop := ∃ X : List Rw, RdS 4 w v (X.map Rw.cells) ∧ RowsIs w X R
theorem RT.turns {w w' : World} {v : Value} {R : List Row} (h : RT w v R) (t : Turns [] w w') : RT w' v R := by
  obtain ⟨X, h1, h2⟩ := h
  exact ⟨X, h1.mv (fun a u => t.old), h2.turns t⟩
theorem RT.nil (w : World) : RT w (.slice none 0 0) [] := ⟨[], RdS.nil 4 w, RowsIs.nil w⟩
theorem RT.form {w : World} {v : Value} {R : List Row} (h : RT w v R) : ∃ A c, v = .slice A R.length c ∧ R.length ≤ c ∧ c ≤ 9223372036854775807 := by
  obtain ⟨X, h1, h2⟩ := h
  obtain ⟨A, c, h3, h4, h5⟩ := h1.form
  rw [List.length_map, h2.1] at h3 h4
  exact ⟨A, c, h3, h4, h5⟩
/-- a row's cells in a slice -/
structure RCells (w : World) (ad : Addr) (m : Nat) (x : Rw) : Prop where
  k : w.cell? (ad.add m) = some (.int .i64 x.key)
  a : w.cell? ⟨(ad.add m).block, (ad.add m).off + 1, none⟩ = some (.int .i64 x.avail)
  mk_ : w.cell? ⟨(ad.add m).block, (ad.add m).off + 2, none⟩ = some (.int .i64 x.mark)
  o : w.cell? ⟨(ad.add m).block, (ad.add m).off + 3, none⟩ = some x.out
theorem RCells.turns {w w' : World} {ad : Addr} {m : Nat} {x : Rw} (h : RCells w ad m x) (t : Turns [] w w') : RCells w' ad m x := ⟨t.old h.k, t.old h.a, t.old h.mk_, t.old h.o⟩
theorem RT.at_ {w : World} {v : Value} {R : List Row} (h : RT w v R) {j : Nat} {r : Row} (hr : R[j]? = some r) : ∃ ad c x, v = .slice (some ad) R.length c ∧ RowIs w x r ∧ RCells w ad (j * 4) x := by
  obtain ⟨X, h1, h2⟩ := h
  obtain ⟨x, hx, hxr⟩ := h2.at_ hr
  obtain ⟨ad, c, hv, _, hc⟩ := h1.at_ (j := j) (r := Rw.cells x) (by rw [List.getElem?_map, hx]; rfl)
  rw [List.length_map, h2.1] at hv
  have c0 := hc 0 _ rfl
  have c1 := hc 1 _ rfl
  have c2 := hc 2 _ rfl
  have c3 := hc 3 _ rfl
  rw [Nat.add_zero] at c0
  rw [add_field _ _ _ (by omega)] at c1 c2 c3
  exact ⟨ad, c, x, hv, hxr, ⟨c0, c1, c2, c3⟩⟩
/-- a lease's cells in a slice -/
structure LsCells (w : World) (ad : Addr) (m : Nat) (p : Int × Int) : Prop where
  n : w.cell? (ad.add m) = some (.int .i64 p.1)
  a : w.cell? ⟨(ad.add m).block, (ad.add m).off + 1, none⟩ = some (.int .i64 p.2)
theorem LsCells.turns {w w' : World} {ad : Addr} {m : Nat} {x : Int × Int} (h : LsCells w ad m x) (t : Turns [] w w') : LsCells w' ad m x := ⟨t.old h.n, t.old h.a⟩
theorem ls_form {w : World} {v : Value} {l : List (Int × Int)} (h : RdS 2 w v (lss l)) : ∃ A c, v = .slice A l.length c ∧ l.length ≤ c ∧ c ≤ 9223372036854775807 := by
  obtain ⟨A, c, h1, h2, h3⟩ := h.form
  rw [lss_len] at h1 h2
  exact ⟨A, c, h1, h2, h3⟩
theorem ls_at {w : World} {v : Value} {l : List (Int × Int)} {j : Nat} {p : Int × Int} (h : RdS 2 w v (lss l)) (hj : l[j]? = some p) : ∃ ad c, v = .slice (some ad) l.length c ∧ LsCells w ad (j * 2) p := by
  obtain ⟨ad, c, hv, _, hc⟩ := h.at_ (j := j) (r := [.int .i64 p.1, .int .i64 p.2]) (by unfold lss; rw [List.getElem?_map, hj]; rfl)
  rw [lss_len] at hv
  have c0 := hc 0 _ rfl
  have c1 := hc 1 _ rfl
  rw [Nat.add_zero] at c0
  rw [add_field _ _ _ (by omega)] at c1
  exact ⟨ad, c, hv, ⟨c0, c1⟩⟩
theorem drop_cons {α : Type} {R : List α} {j : Nat} {x : α} (h : R[j]? = some x) : R.drop j = x :: R.drop (j + 1) := by
  obtain ⟨h1, rfl⟩ := List.getElem?_eq_some_iff.1 h
  exact List.drop_eq_getElem_cons h1
theorem take_next {α : Type} {l : List α} {j : Nat} {x : α} (hx : l[j]? = some x) : l.take (j + 1) = l.take j ++ [x] := by rw [List.take_add_one, hx]; rfl
/-- the one prev_ -/
def prev_ {α : Type} (l : List α) (k : Nat) : Option α := if k = 0 then none else l[k - 1]?
theorem prev_next {α : Type} {l : List α} {k : Nat} {x : α} (h : l[k]? = some x) : prev_ l (k + 1) = some x := by unfold prev_; rw [if_neg (by omega)]; exact h
def inB (x lo hi : Int) : Bool := decide (lo ≤ x) && decide (x ≤ hi)
theorem in_is (x lo hi : Int) (w : World) : Calls Try.prog 60 #[.int .i64 x, .int .i64 lo, .int .i64 hi] w fun e w' => e = .returned (.bool (inB x lo hi)) ∧ Turns [] w w' := by
  unfold inB
  by_cases h : lo ≤ x
  · have g1 : decide (x ≥ lo) = true := decide_eq_true h
    rw [decide_eq_true h, Bool.true_and]
    generalize hq : decide (x ≤ hi) = q
    clear h
    go_enter Try.func60, Try.ntmps60
    go_wp2_with fail
    go_ret
    exact ⟨rfl, Turns.refl _ _⟩
  · have g1 : decide (x ≥ lo) = false := decide_eq_false h
    rw [decide_eq_false h, Bool.false_and]
    clear h
    go_enter Try.func60, Try.ntmps60
    go_wp2_with fail
    go_ret
    exact ⟨rfl, Turns.refl _ _⟩
theorem rin_is (x lo hi : Int) (w : World) : Calls Try.prog 58 #[.int .i64 x, .int .i64 lo, .int .i64 hi] w fun e w' => e = .returned (.bool (inB x lo hi)) ∧ Turns [] w w' := by
  unfold inB
  by_cases h : lo ≤ x
  · have g1 : decide (x ≥ lo) = true := decide_eq_true h
    rw [decide_eq_true h, Bool.true_and]
    generalize hq : decide (x ≤ hi) = q
    clear h
    go_enter Try.func58, Try.ntmps58
    go_wp2_with fail
    go_ret
    exact ⟨rfl, Turns.refl _ _⟩
  · have g1 : decide (x ≥ lo) = false := decide_eq_false h
    rw [decide_eq_false h, Bool.false_and]
    clear h
    go_enter Try.func58, Try.ntmps58
    go_wp2_with fail
    go_ret
    exact ⟨rfl, Turns.refl _ _⟩
def keyB (k : Int) : Bool := decide (0 ≤ k ∧ k < 524288)
theorem kright_is (k : Int) (w : World) : Calls Try.prog 64 #[.int .i64 k] w fun e w' => e = .returned (.bool (keyB k)) ∧ Turns [] w w' := by
  unfold keyB
  by_cases h1 : k ≥ 0
  · have g1 := decide_eq_true h1
    by_cases h2 : k < 524288
    · have g2 := decide_eq_true h2
      rw [decide_eq_true (by omega : 0 ≤ k ∧ k < 524288)]
      go_enter Try.func64, Try.ntmps64
      go_wp2_with fail
      go_ret
      exact ⟨rfl, Turns.refl _ _⟩
    · have g2 := decide_eq_false h2
      rw [decide_eq_false (by omega : ¬ (0 ≤ k ∧ k < 524288))]
      go_enter Try.func64, Try.ntmps64
      go_wp2_with fail
      go_ret
      exact ⟨rfl, Turns.refl _ _⟩
  · have g1 := decide_eq_false h1
    rw [decide_eq_false (by omega : ¬ (0 ≤ k ∧ k < 524288))]
    go_enter Try.func64, Try.ntmps64
    go_wp2_with fail
    go_ret
    exact ⟨rfl, Turns.refl _ _⟩
theorem rkright_is (k : Int) (w : World) : Calls Try.prog 87 #[.int .i64 k] w fun e w' => e = .returned (.bool (keyB k)) ∧ Turns [] w w' := by
  unfold keyB
  by_cases h1 : k ≥ 0
  · have g1 := decide_eq_true h1
    by_cases h2 : k < 524288
    · have g2 := decide_eq_true h2
      rw [decide_eq_true (by omega : 0 ≤ k ∧ k < 524288)]
      go_enter Try.func87, Try.ntmps87
      go_wp2_with fail
      go_ret
      exact ⟨rfl, Turns.refl _ _⟩
    · have g2 := decide_eq_false h2
      rw [decide_eq_false (by omega : ¬ (0 ≤ k ∧ k < 524288))]
      go_enter Try.func87, Try.ntmps87
      go_wp2_with fail
      go_ret
      exact ⟨rfl, Turns.refl _ _⟩
  · have g1 := decide_eq_false h1
    rw [decide_eq_false (by omega : ¬ (0 ≤ k ∧ k < 524288))]
    go_enter Try.func87, Try.ntmps87
    go_wp2_with fail
    go_ret
    exact ⟨rfl, Turns.refl _ _⟩
/-- leases may be: each in its bounds, the nodes rising -/
def okLs : Option (Int × Int) → List (Int × Int) → Bool
  | _, [] => true
  | p, x :: r => inB x.1 0 63 && (inB x.2 1 2147483648 && ((match p with | none => true | some q => decide (q.1 < x.1)) && okLs (some x) r))
def lsB (l : List (Int × Int)) : Bool := okLs none l && decide ((l.length : Int) ≤ 64)
set_option maxHeartbeats 4000000 in
theorem leases_is (w : World) (v : Value) (l : List (Int × Int)) (h : RdS 2 w v (lss l)) : Calls Try.prog 65 #[v] w fun e w' => e = .returned (.bool (lsB l)) ∧ Turns [] w w' := by
  obtain ⟨A, c, rfl, hlc, hcm⟩ := ls_form h
  have hh := Lib.hid h
  unfold lsB
  obtain ⟨q, hq⟩ : ∃ q, okLs none l = q := ⟨_, rfl⟩
  rw [hq]
  have hqh := Lib.hid hq
  clear h hq
  go_enter Try.func65, Try.ntmps65
  go_wp2_with fail
  go_loopw [7] (fun v7 wr => ∃ (k : Nat), k ≤ l.length ∧ v7 = .int .i64 k ∧ okLs (prev_ l k) (l.drop k) = q ∧ Turns [] w wr) (fun v7 _ => l.length - (RowKit.intOf v7).toNat)
  case atStart => exact ⟨0, by omega, rfl, hqh.out, Turns.refl _ _⟩
  case round =>
    obtain ⟨k, hk, rfl, hpk, T⟩ := hrel
    by_cases hlt : k < l.length
    · have g1 : decide ((k : Int) < (l.length : Int)) = true := decide_eq_true (by omega)
      have g1b : decide (k < l.length) = true := decide_eq_true hlt
      obtain ⟨x, hx⟩ : ∃ x, l[k]? = some x := ⟨_, List.getElem?_eq_getElem hlt⟩
      obtain ⟨ad, c', hv, LX⟩ := ls_at hh.out hx
      injection hv with e1 e2 e3
      subst e1 e3
      obtain ⟨x0, x1⟩ := LX.turns T
      have hnx := prev_next hx
      rw [drop_cons hx] at hpk
      unfold okLs at hpk
      have I1 := Lib.hid (fun w => in_is x.1 0 63 w)
      have I2 := Lib.hid (fun w => in_is x.2 1 2147483648 w)
      have Ta := (T.alloc (.cells #[.int .i64 x.1, .int .i64 x.2] 83)).drew
      have B := (Blk.new wr #[.int .i64 x.1, .int .i64 x.2] 83).drew
      generalize hb1 : inB x.1 0 63 = b1 at *
      generalize hb2 : inB x.2 1 2147483648 = b2 at *
      clear hx e2 LX hb1 hb2
      cases b1 with
      | false =>
        simp only [Bool.false_and] at hpk
        subst hpk
        go_wp2_with fail
        clear x0 x1
        go_wp2_with fail
        refine wp_region_flo [(0, true), (1, true), (2, false), (3, true), (4, true), (5, true), (6, true), (7, false), (8, true), (9, true), (10, true), (11, true), (12, true), (13, true), (14, true), (15, true), (16, true), (17, true), (18, true), (19, true), (20, true), (21, true), (22, true), (23, true), (24, true)] (fun W => Turns [] (wr.alloc (.cells #[.int .i64 x.1, .int .i64 x.2] 83)).drew W) (by kernel_rfl) rfl (by kernel_rfl) (by intro c d v a w h; cases d <;> first | (simpa [Exit.then, Exit.inBlock, Act.put] using h) | exact h) (Turns.refl _ _) ?_
        generalize (wr.alloc (.cells #[.int .i64 x.1, .int .i64 x.2] 83)).drew = w1 at *
        have b0 : World.cell? (w1) ⟨wr.heap.size, 0, none⟩ = some _ := (B).cell 0
        have b1 : World.cell? (w1) ⟨wr.heap.size, 1, none⟩ = some _ := (B).cell 1
        refine flo_read _ rfl (fun K hK => ?_)
        go_simp
        first | (refine hK _ ?_) | (refine ⟨fun W hS => ?_, hK _ ?_⟩; · (have Y0 := hS.old b0; try go_simp))
        clear hK K
        refine flo_read _ rfl (fun K hK => ?_)
        go_simp
        first | (refine hK _ ?_) | (refine ⟨fun W hS => ?_, hK _ ?_⟩; · (have Y0 := hS.old b0; try go_simp))
        clear hK K
        refine flo_alone _ rfl ?_
        go_wp2_with fail
        go_at_call 60
        refine Calls.mono (I1.out _) ?_
        rintro e w2 ⟨rfl, t2⟩
        go_wp2_with fail
        refine ⟨fun W => Turns [] w2 W, fun W h => t2.trans h, Turns.refl _ _, ?_⟩
        have B2 := B.turns t2 (by simp)
        clear b0 b1
        have b0 : World.cell? (w2) ⟨wr.heap.size, 0, none⟩ = some _ := (B2).cell 0
        have b1 : World.cell? (w2) ⟨wr.heap.size, 1, none⟩ = some _ := (B2).cell 1
        refine flo_read _ rfl (fun K hK => ?_)
        go_simp
        first | (refine hK _ ?_) | (refine ⟨fun W hS => ?_, hK _ ?_⟩; · (have Y1 := hS.old b1; try go_simp))
        clear hK K
        refine flo_read _ rfl (fun K hK => ?_)
        go_simp
        first | (refine hK _ ?_) | (refine ⟨fun W hS => ?_, hK _ ?_⟩; · (have Y1 := hS.old b1; try go_simp))
        clear hK K
        refine flo_read _ rfl (fun K hK => ?_)
        go_simp
        first | (refine hK _ ?_) | (refine ⟨fun W hS => ?_, hK _ ?_⟩; · (have Y1 := hS.old b1; try go_simp))
        clear hK K
        refine flo_read _ rfl (fun K hK => ?_)
        go_simp
        first | (refine hK _ ?_) | (refine ⟨fun W hS => ?_, hK _ ?_⟩; · (have Y1 := hS.old b1; try go_simp))
        clear hK K
        refine flo_alone _ rfl ?_
        go_wp2_with fail
        refine ⟨fun W => Turns [] w2 W, fun W h => h, Turns.refl _ _, ?_⟩
        refine flo_read _ rfl (fun K hK => ?_)
        go_simp
        first | (refine hK _ ?_) | (refine ⟨fun W hS => ?_, hK _ ?_⟩; · (skip; try go_simp))
        clear hK K
        refine flo_read _ rfl (fun K hK => ?_)
        go_simp
        first | (refine hK _ ?_) | (refine ⟨fun W hS => ?_, hK _ ?_⟩; · (skip; try go_simp))
        clear hK K
        refine flo_read _ rfl (fun K hK => ?_)
        go_simp
        first | (refine hK _ ?_) | (refine ⟨fun W hS => ?_, hK _ ?_⟩; · (skip; try go_simp))
        clear hK K
        refine flo_read _ rfl (fun K hK => ?_)
        go_simp
        first | (refine hK _ ?_) | (refine ⟨fun W hS => ?_, hK _ ?_⟩; · (skip; try go_simp))
        clear hK K
        refine flo_read _ rfl (fun K hK => ?_)
        go_simp
        first | (refine hK _ ?_) | (refine ⟨fun W hS => ?_, hK _ ?_⟩; · (skip; try go_simp))
        clear hK K
        refine flo_read _ rfl (fun K hK => ?_)
        go_simp
        first | (refine hK _ ?_) | (refine ⟨fun W hS => ?_, hK _ ?_⟩; · (skip; try go_simp))
        clear hK K
        refine flo_read _ rfl (fun K hK => ?_)
        go_simp
        first | (refine hK _ ?_) | (refine ⟨fun W hS => ?_, hK _ ?_⟩; · (skip; try go_simp))
        clear hK K
        refine flo_read _ rfl (fun K hK => ?_)
        go_simp
        first | (refine hK _ ?_) | (refine ⟨fun W hS => ?_, hK _ ?_⟩; · (skip; try go_simp))
        clear hK K
        refine flo_read _ rfl (fun K hK => ?_)
        go_simp
        first | (refine hK _ ?_) | (refine ⟨fun W hS => ?_, hK _ ?_⟩; · (skip; try go_simp))
        clear hK K
        refine flo_read _ rfl (fun K hK => ?_)
        go_simp
        first | (refine hK _ ?_) | (refine ⟨fun W hS => ?_, hK _ ?_⟩; · (skip; try go_simp))
        clear hK K
        refine flo_read _ rfl (fun K hK => ?_)
        go_simp
        first | (refine hK _ ?_) | (refine ⟨fun W hS => ?_, hK _ ?_⟩; · (skip; try go_simp))
        clear hK K
        refine flo_read _ rfl (fun K hK => ?_)
        go_simp
        first | (refine hK _ ?_) | (refine ⟨fun W hS => ?_, hK _ ?_⟩; · (skip; try go_simp))
        clear hK K
        refine flo_read _ rfl (fun K hK => ?_)
        go_simp
        first | (refine hK _ ?_) | (refine ⟨fun W hS => ?_, hK _ ?_⟩; · (skip; try go_simp))
        clear hK K
        refine flo_read _ rfl (fun K hK => ?_)
        go_simp
        first | (refine hK _ ?_) | (refine ⟨fun W hS => ?_, hK _ ?_⟩; · (skip; try go_simp))
        clear hK K
        refine flo_read _ rfl (fun K hK => ?_)
        go_simp
        first | (refine hK _ ?_) | (refine ⟨fun W hS => ?_, hK _ ?_⟩; · (skip; try go_simp))
        clear hK K
        refine flo_read _ rfl (fun K hK => ?_)
        go_simp
        first | (refine hK _ ?_) | (refine ⟨fun W hS => ?_, hK _ ?_⟩; · (skip; try go_simp))
        clear hK K
        refine flo_read _ rfl (fun K hK => ?_)
        go_simp
        first | (refine hK _ ?_) | (refine ⟨fun W hS => ?_, hK _ ?_⟩; · (skip; try go_simp))
        clear hK K
        refine flo_end ?_
        go_wp2_with fail
        go_ret
        exact ⟨rfl, Ta.trans t2⟩
      | true =>
        simp only [Bool.true_and] at hpk
        cases b2 with
        | false =>
          simp only [Bool.false_and] at hpk
          subst hpk
          go_wp2_with fail
          clear x0 x1
          go_wp2_with fail
          refine wp_region_flo [(0, true), (1, true), (2, false), (3, true), (4, true), (5, true), (6, true), (7, false), (8, true), (9, true), (10, true), (11, true), (12, true), (13, true), (14, true), (15, true), (16, true), (17, true), (18, true), (19, true), (20, true), (21, true), (22, true), (23, true), (24, true)] (fun W => Turns [] (wr.alloc (.cells #[.int .i64 x.1, .int .i64 x.2] 83)).drew W) (by kernel_rfl) rfl (by kernel_rfl) (by intro c d v a w h; cases d <;> first | (simpa [Exit.then, Exit.inBlock, Act.put] using h) | exact h) (Turns.refl _ _) ?_
          generalize (wr.alloc (.cells #[.int .i64 x.1, .int .i64 x.2] 83)).drew = w1 at *
          have b0 : World.cell? (w1) ⟨wr.heap.size, 0, none⟩ = some _ := (B).cell 0
          have b1 : World.cell? (w1) ⟨wr.heap.size, 1, none⟩ = some _ := (B).cell 1
          refine flo_read _ rfl (fun K hK => ?_)
          go_simp
          first | (refine hK _ ?_) | (refine ⟨fun W hS => ?_, hK _ ?_⟩; · (have Y0 := hS.old b0; try go_simp))
          clear hK K
          refine flo_read _ rfl (fun K hK => ?_)
          go_simp
          first | (refine hK _ ?_) | (refine ⟨fun W hS => ?_, hK _ ?_⟩; · (have Y0 := hS.old b0; try go_simp))
          clear hK K
          refine flo_alone _ rfl ?_
          go_wp2_with fail
          go_at_call 60
          refine Calls.mono (I1.out _) ?_
          rintro e w2 ⟨rfl, t2⟩
          go_wp2_with fail
          refine ⟨fun W => Turns [] w2 W, fun W h => t2.trans h, Turns.refl _ _, ?_⟩
          have B2 := B.turns t2 (by simp)
          clear b0 b1
          have b0 : World.cell? (w2) ⟨wr.heap.size, 0, none⟩ = some _ := (B2).cell 0
          have b1 : World.cell? (w2) ⟨wr.heap.size, 1, none⟩ = some _ := (B2).cell 1
          refine flo_read _ rfl (fun K hK => ?_)
          go_simp
          first | (refine hK _ ?_) | (refine ⟨fun W hS => ?_, hK _ ?_⟩; · (have Y1 := hS.old b1; try go_simp))
          clear hK K
          refine flo_read _ rfl (fun K hK => ?_)
          go_simp
          first | (refine hK _ ?_) | (refine ⟨fun W hS => ?_, hK _ ?_⟩; · (have Y1 := hS.old b1; try go_simp))
          clear hK K
          refine flo_read _ rfl (fun K hK => ?_)
          go_simp
          first | (refine hK _ ?_) | (refine ⟨fun W hS => ?_, hK _ ?_⟩; · (have Y1 := hS.old b1; try go_simp))
          clear hK K
          refine flo_read _ rfl (fun K hK => ?_)
          go_simp
          first | (refine hK _ ?_) | (refine ⟨fun W hS => ?_, hK _ ?_⟩; · (have Y1 := hS.old b1; try go_simp))
          clear hK K
          refine flo_alone _ rfl ?_
          go_wp2_with fail
          go_at_call 60
          refine Calls.mono (I2.out _) ?_
          rintro e w3 ⟨rfl, t3⟩
          go_wp2_with fail
          refine ⟨fun W => Turns [] w3 W, fun W h => t3.trans h, Turns.refl _ _, ?_⟩
          have B3 := B2.turns t3 (by simp)
          have T3 := (Ta.trans t2).trans t3
          clear b0 b1
          have b0 : World.cell? (w3) ⟨wr.heap.size, 0, none⟩ = some _ := (B3).cell 0
          refine flo_read _ rfl (fun K hK => ?_)
          go_simp
          first | (refine hK _ ?_) | (refine ⟨fun W hS => ?_, hK _ ?_⟩; · (skip; try go_simp))
          clear hK K
          refine flo_read _ rfl (fun K hK => ?_)
          go_simp
          first | (refine hK _ ?_) | (refine ⟨fun W hS => ?_, hK _ ?_⟩; · (skip; try go_simp))
          clear hK K
          refine flo_read _ rfl (fun K hK => ?_)
          go_simp
          first | (refine hK _ ?_) | (refine ⟨fun W hS => ?_, hK _ ?_⟩; · (skip; try go_simp))
          clear hK K
          refine flo_read _ rfl (fun K hK => ?_)
          go_simp
          first | (refine hK _ ?_) | (refine ⟨fun W hS => ?_, hK _ ?_⟩; · (skip; try go_simp))
          clear hK K
          refine flo_read _ rfl (fun K hK => ?_)
          go_simp
          first | (refine hK _ ?_) | (refine ⟨fun W hS => ?_, hK _ ?_⟩; · (skip; try go_simp))
          clear hK K
          refine flo_read _ rfl (fun K hK => ?_)
          go_simp
          first | (refine hK _ ?_) | (refine ⟨fun W hS => ?_, hK _ ?_⟩; · (skip; try go_simp))
          clear hK K
          refine flo_read _ rfl (fun K hK => ?_)
          go_simp
          first | (refine hK _ ?_) | (refine ⟨fun W hS => ?_, hK _ ?_⟩; · (skip; try go_simp))
          clear hK K
          refine flo_read _ rfl (fun K hK => ?_)
          go_simp
          first | (refine hK _ ?_) | (refine ⟨fun W hS => ?_, hK _ ?_⟩; · (skip; try go_simp))
          clear hK K
          refine flo_read _ rfl (fun K hK => ?_)
          go_simp
          first | (refine hK _ ?_) | (refine ⟨fun W hS => ?_, hK _ ?_⟩; · (skip; try go_simp))
          clear hK K
          refine flo_read _ rfl (fun K hK => ?_)
          go_simp
          first | (refine hK _ ?_) | (refine ⟨fun W hS => ?_, hK _ ?_⟩; · (skip; try go_simp))
          clear hK K
          refine flo_read _ rfl (fun K hK => ?_)
          go_simp
          first | (refine hK _ ?_) | (refine ⟨fun W hS => ?_, hK _ ?_⟩; · (skip; try go_simp))
          clear hK K
          refine flo_read _ rfl (fun K hK => ?_)
          go_simp
          first | (refine hK _ ?_) | (refine ⟨fun W hS => ?_, hK _ ?_⟩; · (skip; try go_simp))
          clear hK K
          refine flo_read _ rfl (fun K hK => ?_)
          go_simp
          first | (refine hK _ ?_) | (refine ⟨fun W hS => ?_, hK _ ?_⟩; · (skip; try go_simp))
          clear hK K
          refine flo_read _ rfl (fun K hK => ?_)
          go_simp
          first | (refine hK _ ?_) | (refine ⟨fun W hS => ?_, hK _ ?_⟩; · (skip; try go_simp))
          clear hK K
          refine flo_read _ rfl (fun K hK => ?_)
          go_simp
          first | (refine hK _ ?_) | (refine ⟨fun W hS => ?_, hK _ ?_⟩; · (skip; try go_simp))
          clear hK K
          refine flo_read _ rfl (fun K hK => ?_)
          go_simp
          first | (refine hK _ ?_) | (refine ⟨fun W hS => ?_, hK _ ?_⟩; · (skip; try go_simp))
          clear hK K
          refine flo_read _ rfl (fun K hK => ?_)
          go_simp
          first | (refine hK _ ?_) | (refine ⟨fun W hS => ?_, hK _ ?_⟩; · (skip; try go_simp))
          clear hK K
          refine flo_end ?_
          go_wp2_with fail
          go_ret
          exact ⟨rfl, T3⟩
        | true =>
          simp only [Bool.true_and] at hpk
          by_cases hk0 : k = 0
          · have g2 : decide ((k : Int) > 0) = false := decide_eq_false (by omega)
            have g2b : decide (0 < k) = false := decide_eq_false (by omega)
            have ha : prev_ l k = none := by unfold prev_; rw [if_pos hk0]
            rw [ha] at hpk
            simp only [Bool.true_and] at hpk
            have hpkh := Lib.hid hpk
            have hnxh := Lib.hid hnx
            clear hpk hk0 ha hnx
            go_wp2_with fail
            clear x0 x1
            go_wp2_with fail
            refine wp_region_flo [(0, true), (1, true), (2, false), (3, true), (4, true), (5, true), (6, true), (7, false), (8, true), (9, true), (10, true), (11, true), (12, true), (13, true), (14, true), (15, true), (16, true), (17, true), (18, true), (19, true), (20, true), (21, true), (22, true), (23, true), (24, true)] (fun W => Turns [] (wr.alloc (.cells #[.int .i64 x.1, .int .i64 x.2] 83)).drew W) (by kernel_rfl) rfl (by kernel_rfl) (by intro c d v a w h; cases d <;> first | (simpa [Exit.then, Exit.inBlock, Act.put] using h) | exact h) (Turns.refl _ _) ?_
            generalize (wr.alloc (.cells #[.int .i64 x.1, .int .i64 x.2] 83)).drew = w1 at *
            have b0 : World.cell? (w1) ⟨wr.heap.size, 0, none⟩ = some _ := (B).cell 0
            have b1 : World.cell? (w1) ⟨wr.heap.size, 1, none⟩ = some _ := (B).cell 1
            refine flo_read _ rfl (fun K hK => ?_)
            go_simp
            first | (refine hK _ ?_) | (refine ⟨fun W hS => ?_, hK _ ?_⟩; · (have Y0 := hS.old b0; try go_simp))
            clear hK K
            refine flo_read _ rfl (fun K hK => ?_)
            go_simp
            first | (refine hK _ ?_) | (refine ⟨fun W hS => ?_, hK _ ?_⟩; · (have Y0 := hS.old b0; try go_simp))
            clear hK K
            refine flo_alone _ rfl ?_
            go_wp2_with fail
            go_at_call 60
            refine Calls.mono (I1.out _) ?_
            rintro e w2 ⟨rfl, t2⟩
            go_wp2_with fail
            refine ⟨fun W => Turns [] w2 W, fun W h => t2.trans h, Turns.refl _ _, ?_⟩
            have B2 := B.turns t2 (by simp)
            clear b0 b1
            have b0 : World.cell? (w2) ⟨wr.heap.size, 0, none⟩ = some _ := (B2).cell 0
            have b1 : World.cell? (w2) ⟨wr.heap.size, 1, none⟩ = some _ := (B2).cell 1
            refine flo_read _ rfl (fun K hK => ?_)
            go_simp
            first | (refine hK _ ?_) | (refine ⟨fun W hS => ?_, hK _ ?_⟩; · (have Y1 := hS.old b1; try go_simp))
            clear hK K
            refine flo_read _ rfl (fun K hK => ?_)
            go_simp
            first | (refine hK _ ?_) | (refine ⟨fun W hS => ?_, hK _ ?_⟩; · (have Y1 := hS.old b1; try go_simp))
            clear hK K
            refine flo_read _ rfl (fun K hK => ?_)
            go_simp
            first | (refine hK _ ?_) | (refine ⟨fun W hS => ?_, hK _ ?_⟩; · (have Y1 := hS.old b1; try go_simp))
            clear hK K
            refine flo_read _ rfl (fun K hK => ?_)
            go_simp
            first | (refine hK _ ?_) | (refine ⟨fun W hS => ?_, hK _ ?_⟩; · (have Y1 := hS.old b1; try go_simp))
            clear hK K
            refine flo_alone _ rfl ?_
            go_wp2_with fail
            go_at_call 60
            refine Calls.mono (I2.out _) ?_
            rintro e w3 ⟨rfl, t3⟩
            go_wp2_with fail
            refine ⟨fun W => Turns [] w3 W, fun W h => t3.trans h, Turns.refl _ _, ?_⟩
            have B3 := B2.turns t3 (by simp)
            have T3 := (Ta.trans t2).trans t3
            clear b0 b1
            have b0 : World.cell? (w3) ⟨wr.heap.size, 0, none⟩ = some _ := (B3).cell 0
            refine flo_read _ rfl (fun K hK => ?_)
            go_simp
            first | (refine hK _ ?_) | (refine ⟨fun W hS => ?_, hK _ ?_⟩; · (skip; try go_simp))
            clear hK K
            refine flo_read _ rfl (fun K hK => ?_)
            go_simp
            first | (refine hK _ ?_) | (refine ⟨fun W hS => ?_, hK _ ?_⟩; · (skip; try go_simp))
            clear hK K
            refine flo_read _ rfl (fun K hK => ?_)
            go_simp
            first | (refine hK _ ?_) | (refine ⟨fun W hS => ?_, hK _ ?_⟩; · (skip; try go_simp))
            clear hK K
            refine flo_read _ rfl (fun K hK => ?_)
            go_simp
            first | (refine hK _ ?_) | (refine ⟨fun W hS => ?_, hK _ ?_⟩; · (skip; try go_simp))
            clear hK K
            refine flo_read _ rfl (fun K hK => ?_)
            go_simp
            first | (refine hK _ ?_) | (refine ⟨fun W hS => ?_, hK _ ?_⟩; · (skip; try go_simp))
            clear hK K
            refine flo_read _ rfl (fun K hK => ?_)
            go_simp
            first | (refine hK _ ?_) | (refine ⟨fun W hS => ?_, hK _ ?_⟩; · (skip; try go_simp))
            clear hK K
            refine flo_read _ rfl (fun K hK => ?_)
            go_simp
            first | (refine hK _ ?_) | (refine ⟨fun W hS => ?_, hK _ ?_⟩; · (skip; try go_simp))
            clear hK K
            refine flo_read _ rfl (fun K hK => ?_)
            go_simp
            first | (refine hK _ ?_) | (refine ⟨fun W hS => ?_, hK _ ?_⟩; · (skip; try go_simp))
            clear hK K
            refine flo_read _ rfl (fun K hK => ?_)
            go_simp
            first | (refine hK _ ?_) | (refine ⟨fun W hS => ?_, hK _ ?_⟩; · (skip; try go_simp))
            clear hK K
            refine flo_read _ rfl (fun K hK => ?_)
            go_simp
            first | (refine hK _ ?_) | (refine ⟨fun W hS => ?_, hK _ ?_⟩; · (skip; try go_simp))
            clear hK K
            refine flo_read _ rfl (fun K hK => ?_)
            go_simp
            first | (refine hK _ ?_) | (refine ⟨fun W hS => ?_, hK _ ?_⟩; · (skip; try go_simp))
            clear hK K
            refine flo_read _ rfl (fun K hK => ?_)
            go_simp
            first | (refine hK _ ?_) | (refine ⟨fun W hS => ?_, hK _ ?_⟩; · (skip; try go_simp))
            clear hK K
            refine flo_read _ rfl (fun K hK => ?_)
            go_simp
            first | (refine hK _ ?_) | (refine ⟨fun W hS => ?_, hK _ ?_⟩; · (skip; try go_simp))
            clear hK K
            refine flo_read _ rfl (fun K hK => ?_)
            go_simp
            first | (refine hK _ ?_) | (refine ⟨fun W hS => ?_, hK _ ?_⟩; · (skip; try go_simp))
            clear hK K
            refine flo_read _ rfl (fun K hK => ?_)
            go_simp
            first | (refine hK _ ?_) | (refine ⟨fun W hS => ?_, hK _ ?_⟩; · (skip; try go_simp))
            clear hK K
            refine flo_read _ rfl (fun K hK => ?_)
            go_simp
            first | (refine hK _ ?_) | (refine ⟨fun W hS => ?_, hK _ ?_⟩; · (skip; try go_simp))
            clear hK K
            refine flo_read _ rfl (fun K hK => ?_)
            go_simp
            first | (refine hK _ ?_) | (refine ⟨fun W hS => ?_, hK _ ?_⟩; · (skip; try go_simp))
            clear hK K
            refine flo_end ?_
            go_wp2_with fail
            go_roundw
            case rel => exact ⟨k + 1, by omega, by go_num, by rw [hnxh.out]; exact hpkh.out, T3⟩
            case measure => simp [RowKit.intOf]; omega
          · have g2 : decide ((k : Int) > 0) = true := decide_eq_true (by omega)
            have g2b : decide (0 < k) = true := decide_eq_true (by omega)
            obtain ⟨j, hj⟩ : ∃ j, k = j + 1 := ⟨k - 1, by omega⟩
            obtain ⟨y, hy⟩ : ∃ y, l[j]? = some y := ⟨_, List.getElem?_eq_getElem (by omega)⟩
            have ha : prev_ l k = some y := by rw [hj]; exact prev_next hy
            rw [ha] at hpk
            simp only at hpk
            obtain ⟨ad2, c2', hv2, LY⟩ := ls_at hh.out hy
            injection hv2 with e4 e5 e6
            injection e4 with e4
            subst e4 e6
            have hyc := Lib.hid LY.n
            have w1_ : IntKind.i64.wrap ((k : Int) - 1) = (j : Int) := by rw [IntWalk.i64_in _ (by omega)]; omega
            have w2_ : (k : Int) - 1 = (j : Int) := by omega
            have w3_ : IntKind.i64.wrap (j : Int) = (j : Int) := IntWalk.i64_in _ (by omega)
            have hjl : j < l.length := by omega
            have hnxh := Lib.hid hnx
            have hkj := Lib.hid hj
            by_cases hr : y.1 < x.1
            · have g3 : decide (x.1 ≤ y.1) = false := decide_eq_false (by omega)
              rw [decide_eq_true hr, Bool.true_and] at hpk
              have hpkh := Lib.hid hpk
              clear hpk hk0 ha hnx hr LY hy e5 hj
              go_wp2_with fail
              clear x0 x1
              go_wp2_with fail
              refine wp_region_flo [(0, true), (1, true), (2, false), (3, true), (4, true), (5, true), (6, true), (7, false), (8, true), (9, true), (10, true), (11, true), (12, true), (13, true), (14, true), (15, true), (16, true), (17, true), (18, true), (19, true), (20, true), (21, true), (22, true), (23, true), (24, true)] (fun W => Turns [] (wr.alloc (.cells #[.int .i64 x.1, .int .i64 x.2] 83)).drew W) (by kernel_rfl) rfl (by kernel_rfl) (by intro c d v a w h; cases d <;> first | (simpa [Exit.then, Exit.inBlock, Act.put] using h) | exact h) (Turns.refl _ _) ?_
              generalize (wr.alloc (.cells #[.int .i64 x.1, .int .i64 x.2] 83)).drew = w1 at *
              have b0 : World.cell? (w1) ⟨wr.heap.size, 0, none⟩ = some _ := (B).cell 0
              have b1 : World.cell? (w1) ⟨wr.heap.size, 1, none⟩ = some _ := (B).cell 1
              refine flo_read _ rfl (fun K hK => ?_)
              go_simp
              first | (refine hK _ ?_) | (refine ⟨fun W hS => ?_, hK _ ?_⟩; · (have Y0 := hS.old b0; try go_simp))
              clear hK K
              refine flo_read _ rfl (fun K hK => ?_)
              go_simp
              first | (refine hK _ ?_) | (refine ⟨fun W hS => ?_, hK _ ?_⟩; · (have Y0 := hS.old b0; try go_simp))
              clear hK K
              refine flo_alone _ rfl ?_
              go_wp2_with fail
              go_at_call 60
              refine Calls.mono (I1.out _) ?_
              rintro e w2 ⟨rfl, t2⟩
              go_wp2_with fail
              refine ⟨fun W => Turns [] w2 W, fun W h => t2.trans h, Turns.refl _ _, ?_⟩
              have B2 := B.turns t2 (by simp)
              clear b0 b1
              have b0 : World.cell? (w2) ⟨wr.heap.size, 0, none⟩ = some _ := (B2).cell 0
              have b1 : World.cell? (w2) ⟨wr.heap.size, 1, none⟩ = some _ := (B2).cell 1
              refine flo_read _ rfl (fun K hK => ?_)
              go_simp
              first | (refine hK _ ?_) | (refine ⟨fun W hS => ?_, hK _ ?_⟩; · (have Y1 := hS.old b1; try go_simp))
              clear hK K
              refine flo_read _ rfl (fun K hK => ?_)
              go_simp
              first | (refine hK _ ?_) | (refine ⟨fun W hS => ?_, hK _ ?_⟩; · (have Y1 := hS.old b1; try go_simp))
              clear hK K
              refine flo_read _ rfl (fun K hK => ?_)
              go_simp
              first | (refine hK _ ?_) | (refine ⟨fun W hS => ?_, hK _ ?_⟩; · (have Y1 := hS.old b1; try go_simp))
              clear hK K
              refine flo_read _ rfl (fun K hK => ?_)
              go_simp
              first | (refine hK _ ?_) | (refine ⟨fun W hS => ?_, hK _ ?_⟩; · (have Y1 := hS.old b1; try go_simp))
              clear hK K
              refine flo_alone _ rfl ?_
              go_wp2_with fail
              go_at_call 60
              refine Calls.mono (I2.out _) ?_
              rintro e w3 ⟨rfl, t3⟩
              go_wp2_with fail
              refine ⟨fun W => Turns [] w3 W, fun W h => t3.trans h, Turns.refl _ _, ?_⟩
              have B3 := B2.turns t3 (by simp)
              have T3 := (Ta.trans t2).trans t3
              clear b0 b1
              have b0 : World.cell? (w3) ⟨wr.heap.size, 0, none⟩ = some _ := (B3).cell 0
              have z0 := T3.old hyc.out
              refine flo_read _ rfl (fun K hK => ?_)
              go_simp
              first | (refine hK _ ?_) | (refine ⟨fun W hS => ?_, hK _ ?_⟩; · (have Y0 := hS.old b0; have Z0 := hS.old z0; try go_simp))
              clear hK K
              refine flo_read _ rfl (fun K hK => ?_)
              go_simp
              first | (refine hK _ ?_) | (refine ⟨fun W hS => ?_, hK _ ?_⟩; · (have Y0 := hS.old b0; have Z0 := hS.old z0; try go_simp))
              clear hK K
              refine flo_read _ rfl (fun K hK => ?_)
              go_simp
              first | (refine hK _ ?_) | (refine ⟨fun W hS => ?_, hK _ ?_⟩; · (have Y0 := hS.old b0; have Z0 := hS.old z0; try go_simp))
              clear hK K
              refine flo_read _ rfl (fun K hK => ?_)
              go_simp
              first | (refine hK _ ?_) | (refine ⟨fun W hS => ?_, hK _ ?_⟩; · (have Y0 := hS.old b0; have Z0 := hS.old z0; try go_simp))
              clear hK K
              refine flo_read _ rfl (fun K hK => ?_)
              go_simp
              first | (refine hK _ ?_) | (refine ⟨fun W hS => ?_, hK _ ?_⟩; · (have Y0 := hS.old b0; have Z0 := hS.old z0; try go_simp))
              clear hK K
              refine flo_read _ rfl (fun K hK => ?_)
              go_simp
              first | (refine hK _ ?_) | (refine ⟨fun W hS => ?_, hK _ ?_⟩; · (have Y0 := hS.old b0; have Z0 := hS.old z0; try go_simp))
              clear hK K
              refine flo_read _ rfl (fun K hK => ?_)
              go_simp
              first | (refine hK _ ?_) | (refine ⟨fun W hS => ?_, hK _ ?_⟩; · (have Y0 := hS.old b0; have Z0 := hS.old z0; try go_simp))
              clear hK K
              refine flo_read _ rfl (fun K hK => ?_)
              go_simp
              first | (refine hK _ ?_) | (refine ⟨fun W hS => ?_, hK _ ?_⟩; · (have Y0 := hS.old b0; have Z0 := hS.old z0; try go_simp))
              clear hK K
              refine flo_read _ rfl (fun K hK => ?_)
              go_simp
              first | (refine hK _ ?_) | (refine ⟨fun W hS => ?_, hK _ ?_⟩; · (have Y0 := hS.old b0; have Z0 := hS.old z0; try go_simp))
              clear hK K
              refine flo_read _ rfl (fun K hK => ?_)
              go_simp
              first | (refine hK _ ?_) | (refine ⟨fun W hS => ?_, hK _ ?_⟩; · (have Y0 := hS.old b0; have Z0 := hS.old z0; try go_simp))
              clear hK K
              refine flo_read _ rfl (fun K hK => ?_)
              go_simp
              first | (refine hK _ ?_) | (refine ⟨fun W hS => ?_, hK _ ?_⟩; · (have Y0 := hS.old b0; have Z0 := hS.old z0; try go_simp))
              clear hK K
              refine flo_read _ rfl (fun K hK => ?_)
              go_simp
              first | (refine hK _ ?_) | (refine ⟨fun W hS => ?_, hK _ ?_⟩; · (have Y0 := hS.old b0; have Z0 := hS.old z0; try go_simp))
              clear hK K
              refine flo_read _ rfl (fun K hK => ?_)
              go_simp
              first | (refine hK _ ?_) | (refine ⟨fun W hS => ?_, hK _ ?_⟩; · (have Y0 := hS.old b0; have Z0 := hS.old z0; try go_simp))
              clear hK K
              refine flo_read _ rfl (fun K hK => ?_)
              go_simp
              first | (refine hK _ ?_) | (refine ⟨fun W hS => ?_, hK _ ?_⟩; · (have Y0 := hS.old b0; have Z0 := hS.old z0; try go_simp))
              clear hK K
              refine flo_read _ rfl (fun K hK => ?_)
              go_simp
              first | (refine hK _ ?_) | (refine ⟨fun W hS => ?_, hK _ ?_⟩; · (have Y0 := hS.old b0; have Z0 := hS.old z0; try go_simp))
              clear hK K
              refine flo_read _ rfl (fun K hK => ?_)
              go_simp
              first | (refine hK _ ?_) | (refine ⟨fun W hS => ?_, hK _ ?_⟩; · (have Y0 := hS.old b0; have Z0 := hS.old z0; try go_simp))
              clear hK K
              refine flo_read _ rfl (fun K hK => ?_)
              go_simp
              first | (refine hK _ ?_) | (refine ⟨fun W hS => ?_, hK _ ?_⟩; · (have Y0 := hS.old b0; have Z0 := hS.old z0; try go_simp))
              clear hK K
              refine flo_end ?_
              go_wp2_with fail
              go_roundw
              case rel => exact ⟨k + 1, by omega, by go_num, by rw [hnxh.out]; exact hpkh.out, T3⟩
              case measure => simp [RowKit.intOf]; omega
            · have g3 : decide (x.1 ≤ y.1) = true := decide_eq_true (by omega)
              rw [decide_eq_false hr, Bool.false_and] at hpk
              subst hpk
              clear hk0 ha hnx hr LY hy e5 hj
              go_wp2_with fail
              clear x0 x1
              go_wp2_with fail
              refine wp_region_flo [(0, true), (1, true), (2, false), (3, true), (4, true), (5, true), (6, true), (7, false), (8, true), (9, true), (10, true), (11, true), (12, true), (13, true), (14, true), (15, true), (16, true), (17, true), (18, true), (19, true), (20, true), (21, true), (22, true), (23, true), (24, true)] (fun W => Turns [] (wr.alloc (.cells #[.int .i64 x.1, .int .i64 x.2] 83)).drew W) (by kernel_rfl) rfl (by kernel_rfl) (by intro c d v a w h; cases d <;> first | (simpa [Exit.then, Exit.inBlock, Act.put] using h) | exact h) (Turns.refl _ _) ?_
              generalize (wr.alloc (.cells #[.int .i64 x.1, .int .i64 x.2] 83)).drew = w1 at *
              have b0 : World.cell? (w1) ⟨wr.heap.size, 0, none⟩ = some _ := (B).cell 0
              have b1 : World.cell? (w1) ⟨wr.heap.size, 1, none⟩ = some _ := (B).cell 1
              refine flo_read _ rfl (fun K hK => ?_)
              go_simp
              first | (refine hK _ ?_) | (refine ⟨fun W hS => ?_, hK _ ?_⟩; · (have Y0 := hS.old b0; try go_simp))
              clear hK K
              refine flo_read _ rfl (fun K hK => ?_)
              go_simp
              first | (refine hK _ ?_) | (refine ⟨fun W hS => ?_, hK _ ?_⟩; · (have Y0 := hS.old b0; try go_simp))
              clear hK K
              refine flo_alone _ rfl ?_
              go_wp2_with fail
              go_at_call 60
              refine Calls.mono (I1.out _) ?_
              rintro e w2 ⟨rfl, t2⟩
              go_wp2_with fail
              refine ⟨fun W => Turns [] w2 W, fun W h => t2.trans h, Turns.refl _ _, ?_⟩
              have B2 := B.turns t2 (by simp)
              clear b0 b1
              have b0 : World.cell? (w2) ⟨wr.heap.size, 0, none⟩ = some _ := (B2).cell 0
              have b1 : World.cell? (w2) ⟨wr.heap.size, 1, none⟩ = some _ := (B2).cell 1
              refine flo_read _ rfl (fun K hK => ?_)
              go_simp
              first | (refine hK _ ?_) | (refine ⟨fun W hS => ?_, hK _ ?_⟩; · (have Y1 := hS.old b1; try go_simp))
              clear hK K
              refine flo_read _ rfl (fun K hK => ?_)
              go_simp
              first | (refine hK _ ?_) | (refine ⟨fun W hS => ?_, hK _ ?_⟩; · (have Y1 := hS.old b1; try go_simp))
              clear hK K
              refine flo_read _ rfl (fun K hK => ?_)
              go_simp
              first | (refine hK _ ?_) | (refine ⟨fun W hS => ?_, hK _ ?_⟩; · (have Y1 := hS.old b1; try go_simp))
              clear hK K
              refine flo_read _ rfl (fun K hK => ?_)
              go_simp
              first | (refine hK _ ?_) | (refine ⟨fun W hS => ?_, hK _ ?_⟩; · (have Y1 := hS.old b1; try go_simp))
              clear hK K
              refine flo_alone _ rfl ?_
              go_wp2_with fail
              go_at_call 60
              refine Calls.mono (I2.out _) ?_
              rintro e w3 ⟨rfl, t3⟩
              go_wp2_with fail
              refine ⟨fun W => Turns [] w3 W, fun W h => t3.trans h, Turns.refl _ _, ?_⟩
              have B3 := B2.turns t3 (by simp)
              have T3 := (Ta.trans t2).trans t3
              clear b0 b1
              have b0 : World.cell? (w3) ⟨wr.heap.size, 0, none⟩ = some _ := (B3).cell 0
              have z0 := T3.old hyc.out
              refine flo_read _ rfl (fun K hK => ?_)
              go_simp
              first | (refine hK _ ?_) | (refine ⟨fun W hS => ?_, hK _ ?_⟩; · (have Y0 := hS.old b0; have Z0 := hS.old z0; try go_simp))
              clear hK K
              refine flo_read _ rfl (fun K hK => ?_)
              go_simp
              first | (refine hK _ ?_) | (refine ⟨fun W hS => ?_, hK _ ?_⟩; · (have Y0 := hS.old b0; have Z0 := hS.old z0; try go_simp))
              clear hK K
              refine flo_read _ rfl (fun K hK => ?_)
              go_simp
              first | (refine hK _ ?_) | (refine ⟨fun W hS => ?_, hK _ ?_⟩; · (have Y0 := hS.old b0; have Z0 := hS.old z0; try go_simp))
              clear hK K
              refine flo_read _ rfl (fun K hK => ?_)
              go_simp
              first | (refine hK _ ?_) | (refine ⟨fun W hS => ?_, hK _ ?_⟩; · (have Y0 := hS.old b0; have Z0 := hS.old z0; try go_simp))
              clear hK K
              refine flo_read _ rfl (fun K hK => ?_)
              go_simp
              first | (refine hK _ ?_) | (refine ⟨fun W hS => ?_, hK _ ?_⟩; · (have Y0 := hS.old b0; have Z0 := hS.old z0; try go_simp))
              clear hK K
              refine flo_read _ rfl (fun K hK => ?_)
              go_simp
              first | (refine hK _ ?_) | (refine ⟨fun W hS => ?_, hK _ ?_⟩; · (have Y0 := hS.old b0; have Z0 := hS.old z0; try go_simp))
              clear hK K
              refine flo_read _ rfl (fun K hK => ?_)
              go_simp
              first | (refine hK _ ?_) | (refine ⟨fun W hS => ?_, hK _ ?_⟩; · (have Y0 := hS.old b0; have Z0 := hS.old z0; try go_simp))
              clear hK K
              refine flo_read _ rfl (fun K hK => ?_)
              go_simp
              first | (refine hK _ ?_) | (refine ⟨fun W hS => ?_, hK _ ?_⟩; · (have Y0 := hS.old b0; have Z0 := hS.old z0; try go_simp))
              clear hK K
              refine flo_read _ rfl (fun K hK => ?_)
              go_simp
              first | (refine hK _ ?_) | (refine ⟨fun W hS => ?_, hK _ ?_⟩; · (have Y0 := hS.old b0; have Z0 := hS.old z0; try go_simp))
              clear hK K
              refine flo_read _ rfl (fun K hK => ?_)
              go_simp
              first | (refine hK _ ?_) | (refine ⟨fun W hS => ?_, hK _ ?_⟩; · (have Y0 := hS.old b0; have Z0 := hS.old z0; try go_simp))
              clear hK K
              refine flo_read _ rfl (fun K hK => ?_)
              go_simp
              first | (refine hK _ ?_) | (refine ⟨fun W hS => ?_, hK _ ?_⟩; · (have Y0 := hS.old b0; have Z0 := hS.old z0; try go_simp))
              clear hK K
              refine flo_read _ rfl (fun K hK => ?_)
              go_simp
              first | (refine hK _ ?_) | (refine ⟨fun W hS => ?_, hK _ ?_⟩; · (have Y0 := hS.old b0; have Z0 := hS.old z0; try go_simp))
              clear hK K
              refine flo_read _ rfl (fun K hK => ?_)
              go_simp
              first | (refine hK _ ?_) | (refine ⟨fun W hS => ?_, hK _ ?_⟩; · (have Y0 := hS.old b0; have Z0 := hS.old z0; try go_simp))
              clear hK K
              refine flo_read _ rfl (fun K hK => ?_)
              go_simp
              first | (refine hK _ ?_) | (refine ⟨fun W hS => ?_, hK _ ?_⟩; · (have Y0 := hS.old b0; have Z0 := hS.old z0; try go_simp))
              clear hK K
              refine flo_read _ rfl (fun K hK => ?_)
              go_simp
              first | (refine hK _ ?_) | (refine ⟨fun W hS => ?_, hK _ ?_⟩; · (have Y0 := hS.old b0; have Z0 := hS.old z0; try go_simp))
              clear hK K
              refine flo_read _ rfl (fun K hK => ?_)
              go_simp
              first | (refine hK _ ?_) | (refine ⟨fun W hS => ?_, hK _ ?_⟩; · (have Y0 := hS.old b0; have Z0 := hS.old z0; try go_simp))
              clear hK K
              refine flo_read _ rfl (fun K hK => ?_)
              go_simp
              first | (refine hK _ ?_) | (refine ⟨fun W hS => ?_, hK _ ?_⟩; · (have Y0 := hS.old b0; have Z0 := hS.old z0; try go_simp))
              clear hK K
              refine flo_end ?_
              go_wp2_with fail
              go_ret
              exact ⟨rfl, T3⟩
    · obtain rfl : k = l.length := by omega
      have g1 : decide ((l.length : Int) < (l.length : Int)) = false := by simp
      rw [List.drop_length] at hpk
      unfold okLs at hpk
      subst hpk
      go_wp2_with fail
      go_ret
      exact ⟨rfl, T⟩
end Go.Proofs.Ytohokckpheljbaa.Fa
