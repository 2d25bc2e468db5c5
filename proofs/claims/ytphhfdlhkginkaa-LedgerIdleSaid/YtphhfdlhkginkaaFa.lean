/- Tables, tokens, frames: as data, as they lie in memory; frame's in, leases; the document's. -/
import Derived.Test.YtphhfdlhkginkaaProg
import Derived.Test.YtphhfdlhkginkaaWg
import Derived.Lib.Hide
import Derived.Lib.MinMax
import Derived.KernelRfl
import Derived.WalkSpells
import Derived.StillTailTactics
import Derived.BigQuiet
import Derived.Deep.QuietTactic
import Derived.WalkKit
import Derived.Lib.SliceRun
import Derived.Deep.LoopGhost
set_option linter.unusedVariables false
set_option linter.unusedSimpArgs false
set_option maxRecDepth 100000
namespace Go.Proofs.Ytphhfdlhkginkaa.Fa
open Go.RowKit Go.MapKept Hm Hs Hf Hx Hy Hv
/-- a row; a table; a token; a frame -/
structure Row where
  key : Int
  avail : Int
  mark : Int
  out : List (Int × Int)
deriving DecidableEq
structure Tok where
  gen : Int
  hop : Int
  st : List Int
  start : Int
  rows : List Row
deriving DecidableEq
structure Fr where
  kind : Int
  frm : Int
  dst : Int
  gen : Int
  hop : Int
  bits : Int
  tok : Tok
deriving DecidableEq
/-- a row in memory: its leases' slice -/
structure Rw where
  key : Int
  avail : Int
  mark : Int
  out : Value
def Rw.cells (x : Rw) : List Value := [.int .i64 x.key, .int .i64 x.avail, .int .i64 x.mark, x.out]
def Rw.v (x : Rw) : Value := .agg #[.int .i64 x.key, .int .i64 x.avail, .int .i64 x.mark, x.out]
def lss (l : List (Int × Int)) : List (List Value) := l.map fun p => [.int .i64 p.1, .int .i64 p.2]
theorem lss_len (l : List (Int × Int)) : (lss l).length = l.length := by unfold lss; simp
theorem lss_append (l m : List (Int × Int)) : lss (l ++ m) = lss l ++ lss m := by unfold lss; simp
theorem lss_one (l : List (Int × Int)) : ∀ r ∈ lss l, ∀ u ∈ r, u.oneCell' = true := by
  intro r hr u hu
  obtain ⟨x, _, rfl⟩ := List.mem_map.1 hr
  simp at hu
  rcases hu with rfl | rfl <;> rfl
/-- it is that row -/
structure RowIs (w : World) (x : Rw) (r : Row) : Prop where
  key : x.key = r.key
  avail : x.avail = r.avail
  mark : x.mark = r.mark
  out : RdS 2 w x.out (lss r.out)
theorem RowIs.turns {w w' : World} {x : Rw} {r : Row} (h : RowIs w x r) (t : Turns [] w w') : RowIs w' x r := ⟨h.key, h.avail, h.mark, h.out.mv (fun a u => t.old)⟩
/-- these rows, each of which is that one -/
def RowsIs (w : World) (X : List Rw) (R : List Row) : Prop := X.length = R.length ∧ ∀ (j : Nat) (x : Rw) (r : Row), X[j]? = some x → R[j]? = some r → RowIs w x r
theorem RowsIs.turns {w w' : World} {X : List Rw} {R : List Row} (h : RowsIs w X R) (t : Turns [] w w') : RowsIs w' X R := ⟨h.1, fun j x r hx hr => (h.2 j x r hx hr).turns t⟩
theorem RowsIs.nil (w : World) : RowsIs w [] [] := ⟨rfl, fun j x r hx => by simp at hx⟩
theorem RowsIs.at_ {w : World} {X : List Rw} {R : List Row} (h : RowsIs w X R) {j : Nat} {r : Row} (hr : R[j]? = some r) : ∃ x, X[j]? = some x ∧ RowIs w x r := by
  have hj := (List.getElem?_eq_some_iff.1 hr).1
  obtain ⟨x, hx⟩ : ∃ x, X[j]? = some x := ⟨_, List.getElem?_eq_getElem (by rw [h.1]; exact hj)⟩
  exact ⟨x, hx, h.2 j x r hx hr⟩
theorem RowsIs.snoc {w : World} {X : List Rw} {R : List Row} {x : Rw} {r : Row} (h : RowsIs w X R) (hx : RowIs w x r) : RowsIs w (X ++ [x]) (R ++ [r]) := by
  refine ⟨by simp [h.1], fun j y s hy hs => ?_⟩
  by_cases hj : j < X.length
  · rw [List.getElem?_append_left hj] at hy
    rw [List.getElem?_append_left (by rw [← h.1]; exact hj)] at hs
    exact h.2 j y s hy hs
  · rw [List.getElem?_append_right (by omega)] at hy
    rw [List.getElem?_append_right (by rw [← h.1]; omega), ← h.1] at hs
    cases hk : j - X.length with
    | zero =>
      rw [hk] at hy hs
      simp at hy hs
      subst hy hs
      exact hx
    | succ m => rw [hk] at hy; simp at hy
/-- a table's rows, read -/
def RT (w : World) (v : Value) (R : List Row) : Prop := ∃ X : List Rw, RdS 4 w v (X.map Rw.cells) ∧ RowsIs w X R
theorem RT.turns {w w' : World} {v : Value} {R : List Row} (h : RT w v R) (t : Turns [] w w') : RT w' v R := by
  obtain ⟨X, h1, h2⟩ := h
  exact ⟨X, h1.mv (fun a u => t.old), h2.turns t⟩
theorem RT.nil (w : World) : RT w (.slice none 0 0) [] := ⟨[], RdS.nil 4 w, RowsIs.nil w⟩
theorem RT.form {w : World} {v : Value} {R : List Row} (h : RT w v R) : ∃ A c, v = .slice A R.length c ∧ R.length ≤ c ∧ c ≤ 9223372036854775807 := by
  obtain ⟨X, h1, h2⟩ := h
  obtain ⟨A, c, h3, h4, h5⟩ := h1.form
  rw [List.length_map, h2.1] at h3 h4
  exact ⟨A, c, h3, h4, h5⟩
/-- a row's cells in a slice -/
structure RCells (w : World) (ad : Addr) (m : Nat) (x : Rw) : Prop where
  k : w.cell? (ad.add m) = some (.int .i64 x.key)
  a : w.cell? ⟨(ad.add m).block, (ad.add m).off + 1, none⟩ = some (.int .i64 x.avail)
  mk_ : w.cell? ⟨(ad.add m).block, (ad.add m).off + 2, none⟩ = some (.int .i64 x.mark)
  o : w.cell? ⟨(ad.add m).block, (ad.add m).off + 3, none⟩ = some x.out
theorem RCells.turns {w w' : World} {ad : Addr} {m : Nat} {x : Rw} (h : RCells w ad m x) (t : Turns [] w w') : RCells w' ad m x := ⟨t.old h.k, t.old h.a, t.old h.mk_, t.old h.o⟩
theorem RT.at_ {w : World} {v : Value} {R : List Row} (h : RT w v R) {j : Nat} {r : Row} (hr : R[j]? = some r) : ∃ ad c x, v = .slice (some ad) R.length c ∧ RowIs w x r ∧ RCells w ad (j * 4) x := by
  obtain ⟨X, h1, h2⟩ := h
  obtain ⟨x, hx, hxr⟩ := h2.at_ hr
  obtain ⟨ad, c, hv, _, hc⟩ := h1.at_ (j := j) (r := Rw.cells x) (by rw [List.getElem?_map, hx]; rfl)
  rw [List.length_map, h2.1] at hv
  have c0 := hc 0 _ rfl
  have c1 := hc 1 _ rfl
  have c2 := hc 2 _ rfl
  have c3 := hc 3 _ rfl
  rw [Nat.add_zero] at c0
  rw [add_field _ _ _ (by omega)] at c1 c2 c3
  exact ⟨ad, c, x, hv, hxr, ⟨c0, c1, c2, c3⟩⟩
/-- a lease's cells in a slice -/
structure LsCells (w : World) (ad : Addr) (m : Nat) (p : Int × Int) : Prop where
  n : w.cell? (ad.add m) = some (.int .i64 p.1)
  a : w.cell? ⟨(ad.add m).block, (ad.add m).off + 1, none⟩ = some (.int .i64 p.2)
theorem LsCells.turns {w w' : World} {ad : Addr} {m : Nat} {x : Int × Int} (h : LsCells w ad m x) (t : Turns [] w w') : LsCells w' ad m x := ⟨t.old h.n, t.old h.a⟩
theorem ls_form {w : World} {v : Value} {l : List (Int × Int)} (h : RdS 2 w v (lss l)) : ∃ A c, v = .slice A l.length c ∧ l.length ≤ c ∧ c ≤ 9223372036854775807 := by
  obtain ⟨A, c, h1, h2, h3⟩ := h.form
  rw [lss_len] at h1 h2
  exact ⟨A, c, h1, h2, h3⟩
theorem ls_at {w : World} {v : Value} {l : List (Int × Int)} {j : Nat} {p : Int × Int} (h : RdS 2 w v (lss l)) (hj : l[j]? = some p) : ∃ ad c, v = .slice (some ad) l.length c ∧ LsCells w ad (j * 2) p := by
  obtain ⟨ad, c, hv, _, hc⟩ := h.at_ (j := j) (r := [.int .i64 p.1, .int .i64 p.2]) (by unfold lss; rw [List.getElem?_map, hj]; rfl)
  rw [lss_len] at hv
  have c0 := hc 0 _ rfl
  have c1 := hc 1 _ rfl
  rw [Nat.add_zero] at c0
  rw [add_field _ _ _ (by omega)] at c1
  exact ⟨ad, c, hv, ⟨c0, c1⟩⟩
theorem drop_cons {α : Type} {R : List α} {j : Nat} {x : α} (h : R[j]? = some x) : R.drop j = x :: R.drop (j + 1) := by
  obtain ⟨h1, rfl⟩ := List.getElem?_eq_some_iff.1 h
  exact List.drop_eq_getElem_cons h1
theorem take_next {α : Type} {l : List α} {j : Nat} {x : α} (hx : l[j]? = some x) : l.take (j + 1) = l.take j ++ [x] := by rw [List.take_add_one, hx]; rfl
/-- the one prev_ -/
def prev_ {α : Type} (l : List α) (k : Nat) : Option α := if k = 0 then none else l[k - 1]?
theorem prev_next {α : Type} {l : List α} {k : Nat} {x : α} (h : l[k]? = some x) : prev_ l (k + 1) = some x := by unfold prev_; rw [if_neg (by omega)]; exact h
def inB (x lo hi : Int) : Bool := decide (lo ≤ x) && decide (x ≤ hi)
theorem rin_is (x lo hi : Int) (w : World) : Calls Try.prog 50 #[.int .i64 x, .int .i64 lo, .int .i64 hi] w fun e w' => e = .returned (.bool (inB x lo hi)) ∧ Turns [] w w' := by
  unfold inB
  by_cases h : lo ≤ x
  · have g1 : decide (x ≥ lo) = true := decide_eq_true h
    rw [decide_eq_true h, Bool.true_and]
    generalize hq : decide (x ≤ hi) = q
    clear h
    go_enter Try.func50, Try.ntmps50
    go_wp2_with fail
    go_ret
    exact ⟨rfl, Turns.refl _ _⟩
  · have g1 : decide (x ≥ lo) = false := decide_eq_false h
    rw [decide_eq_false h, Bool.false_and]
    clear h
    go_enter Try.func50, Try.ntmps50
    go_wp2_with fail
    go_ret
    exact ⟨rfl, Turns.refl _ _⟩
def keyB (k : Int) : Bool := decide (0 ≤ k ∧ k < 524288)
theorem kright_is (k : Int) (w : World) : Calls Try.prog 68 #[.int .i64 k] w fun e w' => e = .returned (.bool (keyB k)) ∧ Turns [] w w' := by
  unfold keyB
  by_cases h1 : k ≥ 0
  · have g1 := decide_eq_true h1
    by_cases h2 : k < 524288
    · have g2 := decide_eq_true h2
      rw [decide_eq_true (by omega : 0 ≤ k ∧ k < 524288)]
      go_enter Try.func68, Try.ntmps68
      go_wp2_with fail
      go_ret
      exact ⟨rfl, Turns.refl _ _⟩
    · have g2 := decide_eq_false h2
      rw [decide_eq_false (by omega : ¬ (0 ≤ k ∧ k < 524288))]
      go_enter Try.func68, Try.ntmps68
      go_wp2_with fail
      go_ret
      exact ⟨rfl, Turns.refl _ _⟩
  · have g1 := decide_eq_false h1
    rw [decide_eq_false (by omega : ¬ (0 ≤ k ∧ k < 524288))]
    go_enter Try.func68, Try.ntmps68
    go_wp2_with fail
    go_ret
    exact ⟨rfl, Turns.refl _ _⟩
theorem rkright_is (k : Int) (w : World) : Calls Try.prog 49 #[.int .i64 k] w fun e w' => e = .returned (.bool (keyB k)) ∧ Turns [] w w' := by
  unfold keyB
  by_cases h1 : k ≥ 0
  · have g1 := decide_eq_true h1
    by_cases h2 : k < 524288
    · have g2 := decide_eq_true h2
      rw [decide_eq_true (by omega : 0 ≤ k ∧ k < 524288)]
      go_enter Try.func49, Try.ntmps49
      go_wp2_with fail
      go_ret
      exact ⟨rfl, Turns.refl _ _⟩
    · have g2 := decide_eq_false h2
      rw [decide_eq_false (by omega : ¬ (0 ≤ k ∧ k < 524288))]
      go_enter Try.func49, Try.ntmps49
      go_wp2_with fail
      go_ret
      exact ⟨rfl, Turns.refl _ _⟩
  · have g1 := decide_eq_false h1
    rw [decide_eq_false (by omega : ¬ (0 ≤ k ∧ k < 524288))]
    go_enter Try.func49, Try.ntmps49
    go_wp2_with fail
    go_ret
    exact ⟨rfl, Turns.refl _ _⟩
/-- leases may be: each in its bounds, the nodes rising -/
def okLs : Option (Int × Int) → List (Int × Int) → Bool
  | _, [] => true
  | p, x :: r => inB x.1 0 63 && (inB x.2 1 2147483648 && ((match p with | none => true | some q => decide (q.1 < x.1)) && okLs (some x) r))
def lsB (l : List (Int × Int)) : Bool := okLs none l && decide ((l.length : Int) ≤ 64)
end Go.Proofs.Ytphhfdlhkginkaa.Fa
