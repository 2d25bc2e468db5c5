/- The document's at and Find. -/
import Derived.Test.YtphhfdlhkginkaaBc
set_option linter.unusedVariables false
set_option linter.unusedSimpArgs false
set_option maxRecDepth 100000
namespace Go.Proofs.Ytphhfdlhkginkaa.Bd
open Go.RowKit Go.MapKept Hm Hs Hf Hx Hy Hv Fa Ff Ba Bb Bc
def ixD (R : List Row) (key : Int) : Int := if isAt R key then (pl R key : Int) else -1
theorem ix_yes {R : List Row} (h : Rise R) {k : Nat} {r : Row} (hr : R[k]? = some r) : ixD R r.key = k := by
  obtain ⟨h1, h2⟩ := rise_pl h hr
  unfold ixD; rw [h1, h2]; rfl
theorem ix_no {R : List Row} {key : Int} (h : ∀ (j : Nat) (r : Row), R[j]? = some r → r.key ≠ key) : ixD R key = -1 := by
  cases hk : isAt R key with
  | false => unfold ixD; rw [hk]; rfl
  | true =>
    obtain ⟨r, hr, he⟩ := isAt_true hk
    exact absurd he (h _ r hr)
set_option maxHeartbeats 4000000 in
theorem rat_is (w : World) (start key : Int) (v : Value) (R : List Row) (h : RT w v R) (hri : Rise R) : Calls Try.prog 38 #[.agg #[.int .i64 start, v], .int .i64 key] w fun e w' => e = .returned (.int .i64 (ixD R key)) ∧ Turns [] w w' := by
  obtain ⟨A, c, rfl, hlc, hcm⟩ := h.form
  have hh := Lib.hid h
  have hrih := Lib.hid hri
  obtain ⟨p, hp⟩ : ∃ p, ixD R key = p := ⟨_, rfl⟩
  rw [hp]
  have hph := Lib.hid hp
  have B0 := Blk.new w #[.int .i64 start, .slice A R.length c] 24
  have T0 := (Turns.refl [] w).alloc (.cells #[.int .i64 start, .slice A R.length c] 24)
  have t1 : World.cell? (w.alloc (.cells #[.int .i64 start, .slice A R.length c] 24)) ⟨w.heap.size, 1, none⟩ = some _ := (B0).cell 1
  clear h hp B0 hri
  have hr0 := Lib.hid (hh.out.turns T0)
  generalize hw0 : w.alloc (.cells #[.int .i64 start, .slice A R.length c] 24) = w0 at *
  go_enter Try.func38, Try.ntmps38
  go_wp2_with fail
  try rw [hw0]
  clear hw0
  go_loopw [5] (fun v5 wr => ∃ (k : Nat), k ≤ R.length ∧ v5 = .int .i64 k ∧ wr = w0 ∧ ∀ (j : Nat) (r : Row), j < k → R[j]? = some r → r.key ≠ key) (fun v5 _ => R.length - (RowKit.intOf v5).toNat)
  case atStart => exact ⟨0, by omega, rfl, rfl, fun j r hj => by omega⟩
  case round =>
    obtain ⟨k, hk, rfl, rfl, hno⟩ := hrel
    have hnoh := Lib.hid hno
    clear hno
    by_cases hlt : k < R.length
    · obtain ⟨r, hr⟩ : ∃ r, R[k]? = some r := ⟨_, List.getElem?_eq_getElem hlt⟩
      obtain ⟨ad, c', x, hv, hxr, LX⟩ := hr0.out.at_ hr
      injection hv with e1 e2 e3
      subst e1 e3
      have x0 := LX.k
      rw [hxr.key] at x0
      have g1 : decide ((k : Int) < (R.length : Int)) = true := decide_eq_true (by omega)
      have g1b : decide (k < R.length) = true := decide_eq_true hlt
      have hrh := Lib.hid hr
      clear e2 hxr LX hr
      by_cases he : r.key = key
      · subst he
        have g2 : (r.key == r.key) = true := by simp
        have hX : p = (k : Int) := by rw [← hph.out]; exact ix_yes hrih.out hrh.out
        subst hX
        go_wp2_with fail
        go_ret
        exact ⟨rfl, T0⟩
      · have g2 : (r.key == key) = false := by simpa using he
        have hne := Lib.hid he
        clear he
        go_wp2_with fail
        go_roundw
        case rel => exact ⟨k + 1, by omega, by go_num, by first | rfl | trivial, fun j s hj hs => by
          rcases Nat.lt_or_ge j k with h1 | h1
          · exact hnoh.out j s h1 hs
          · obtain rfl : j = k := by omega
            have := Option.some.inj (hrh.out.symm.trans hs)
            subst this
            exact hne.out⟩
        case measure => simp [RowKit.intOf]; omega
    · obtain rfl : k = R.length := by omega
      have g1 : decide ((R.length : Int) < (R.length : Int)) = false := by simp
      have hX : p = -1 := by rw [← hph.out]; exact ix_no fun j r hr => hnoh.out j r (List.getElem?_eq_some_iff.1 hr).1 hr
      subst hX
      go_wp2_with fail
      go_ret
      exact ⟨rfl, T0⟩
set_option maxHeartbeats 4000000 in
theorem rfind_is (G : List Nat) (w0 w : World) (start key : Int) (v : Value) (R : List Row) (h : RTS G w0 v R) (t0 : Turns [] w0 w) (hri : Rise R) : Calls Try.prog 12 #[.agg #[.int .i64 start, v], .int .i64 key] w fun e w' => ∃ x : Rw, e = .returned (.tuple #[x.v, .bool (isAt R key)]) ∧ RowS G w0 x (rwAt start R key) ∧ Turns [] w w' := by
  obtain ⟨A, c, rfl, hlc, hcm⟩ := h.rt.form
  have hh := Lib.hid h
  have t0h := Lib.hid t0
  have hA := Lib.hid (fun W (t : Turns [] w W) => rat_is W start key (.slice A R.length c) R (h.rt.turns (t0.trans t)) hri)
  have H := ((Sep.start w).alloc #[.int .i64 start, .slice A R.length c] 24).alloc #[.int .i64 0, .int .i64 0, .int .i64 0, .slice none 0 0] 38
  rw [World.size_alloc] at H
  have hpl := pl_le R key
  obtain ⟨X, hX⟩ : ∃ X : Ending → World → Prop, X = fun e w' => ∃ x : Rw, e = .returned (.tuple #[x.v, .bool (isAt R key)]) ∧ RowS G w0 x (rwAt start R key) ∧ Turns [] w w' := ⟨_, rfl⟩
  rw [← hX]
  have hXh : Hid (∀ w' x, RowS G w0 x (rwAt start R key) → Turns [] w w' → X (.returned (.tuple #[x.v, .bool (isAt R key)])) w') := Lib.hid (fun w' x h1 h2 => by rw [hX]; exact ⟨x, rfl, h1, h2⟩)
  have Hh := Lib.hid H
  clear h H hX t0
  cases hat : isAt R key with
  | true =>
    obtain ⟨r, hr, hrk⟩ := isAt_true hat
    subst hrk
    have hrow := rwAt_yes (start := start) hat hr
    obtain ⟨p, hp⟩ : ∃ p, pl R r.key = p := ⟨_, rfl⟩
    unfold ixD at hA
    rw [hat, hp] at hA
    simp only [if_true] at hA
    rw [hat, hrow] at hXh
    rw [hp] at hpl hr
    have hrh := Lib.hid hr
    have hplt : p < R.length := (List.getElem?_eq_some_iff.1 hr).1
    clear hat hr hp hrow
    have g1 : decide ((p : Int) < 0) = false := by simp
    have c0 : World.cell? ((w.alloc (.cells #[.int .i64 start, .slice A R.length c] 24)).alloc (.cells #[.int .i64 0, .int .i64 0, .int .i64 0, .slice none 0 0] 38)) ⟨w.heap.size, 0, none⟩ = some _ := (Hh.out.blk 1 rfl).cell 0
    have c1 : World.cell? ((w.alloc (.cells #[.int .i64 start, .slice A R.length c] 24)).alloc (.cells #[.int .i64 0, .int .i64 0, .int .i64 0, .slice none 0 0] 38)) ⟨w.heap.size, 1, none⟩ = some _ := (Hh.out.blk 1 rfl).cell 1
    go_enter Try.func12, Try.ntmps12
    go_wp2_with fail
    go_at_call 38
    refine Calls.mono (hA.out _ Hh.out.t) ?_
    rintro e w1 ⟨rfl, t1⟩
    have H := Hh.out.turns t1
    obtain ⟨ad, c', x, hv, hxr, LX⟩ := hh.out.at_ hrh.out
    injection hv with e1 e2 e3
    subst e1 e3
    obtain ⟨Ao, co, rfl, ho⟩ := row_form hxr.row
    obtain ⟨x0, x1, x2, x3⟩ := LX.turns (t0h.out.trans H.t)
    have d1 : World.cell? (w1) ⟨w.heap.size, 1, none⟩ = some _ := (H.blk 1 rfl).cell 1
    have z0 : World.cell? (w1) ⟨w.heap.size + 1, 0, none⟩ = some _ := (H.blk 0 rfl).cell 0
    have zf0 : World.frozen? (w1) ⟨w.heap.size + 1, 0, none⟩ = false := (H.blk 0 rfl).frozen 0
    have z1 : World.cell? (w1) ⟨w.heap.size + 1, 1, none⟩ = some _ := (H.blk 0 rfl).cell 1
    have zf1 : World.frozen? (w1) ⟨w.heap.size + 1, 1, none⟩ = false := (H.blk 0 rfl).frozen 1
    have z2 : World.cell? (w1) ⟨w.heap.size + 1, 2, none⟩ = some _ := (H.blk 0 rfl).cell 2
    have zf2 : World.frozen? (w1) ⟨w.heap.size + 1, 2, none⟩ = false := (H.blk 0 rfl).frozen 2
    have z3 : World.cell? (w1) ⟨w.heap.size + 1, 3, none⟩ = some _ := (H.blk 0 rfl).cell 3
    have zf3 : World.frozen? (w1) ⟨w.heap.size + 1, 3, none⟩ = false := (H.blk 0 rfl).frozen 3
    have H5 := (((H.set 0 rfl 0 (.int .i64 r.key)).set 0 rfl 1 (.int .i64 r.avail)).set 0 rfl 2 (.int .i64 r.mark)).set 0 rfl 3 (.slice Ao r.out.length co)
    have hR := H5.blk 0 rfl
    have hX := hXh.out _ ⟨r.key, r.avail, r.mark, .slice Ao r.out.length co⟩ hxr H5.t
    clear e2 Hh H H5 hxr hA ho LX hXh hh
    go_wp2_with fail
    refine bodyPost_ret (res_list (rs := [.cell 4 38, .tmp 5]) rfl (by simp) (.cell (w.heap.size + 1) _ _ _ rfl hR Try.underlying38 rfl (by kernel_rfl) (.tmp .nil))) rfl ?_
    exact hX
  | false =>
    have hrow := rwAt_no (start := start) hat
    unfold ixD at hA
    rw [hat] at hA
    simp only [Bool.false_eq_true, if_false] at hA
    rw [hat, hrow] at hXh
    clear hat hrow hpl
    have g1 : decide ((-1 : Int) < 0) = true := by decide
    have c0 : World.cell? ((w.alloc (.cells #[.int .i64 start, .slice A R.length c] 24)).alloc (.cells #[.int .i64 0, .int .i64 0, .int .i64 0, .slice none 0 0] 38)) ⟨w.heap.size, 0, none⟩ = some _ := (Hh.out.blk 1 rfl).cell 0
    have c1 : World.cell? ((w.alloc (.cells #[.int .i64 start, .slice A R.length c] 24)).alloc (.cells #[.int .i64 0, .int .i64 0, .int .i64 0, .slice none 0 0] 38)) ⟨w.heap.size, 1, none⟩ = some _ := (Hh.out.blk 1 rfl).cell 1
    go_enter Try.func12, Try.ntmps12
    go_wp2_with fail
    go_at_call 38
    refine Calls.mono (hA.out _ Hh.out.t) ?_
    rintro e w1 ⟨rfl, t1⟩
    have H := Hh.out.turns t1
    have d0 : World.cell? (w1) ⟨w.heap.size, 0, none⟩ = some _ := (H.blk 1 rfl).cell 0
    have z0 : World.cell? (w1) ⟨w.heap.size + 1, 0, none⟩ = some _ := (H.blk 0 rfl).cell 0
    have zf0 : World.frozen? (w1) ⟨w.heap.size + 1, 0, none⟩ = false := (H.blk 0 rfl).frozen 0
    have z1 : World.cell? (w1) ⟨w.heap.size + 1, 1, none⟩ = some _ := (H.blk 0 rfl).cell 1
    have zf1 : World.frozen? (w1) ⟨w.heap.size + 1, 1, none⟩ = false := (H.blk 0 rfl).frozen 1
    have z2 : World.cell? (w1) ⟨w.heap.size + 1, 2, none⟩ = some _ := (H.blk 0 rfl).cell 2
    have zf2 : World.frozen? (w1) ⟨w.heap.size + 1, 2, none⟩ = false := (H.blk 0 rfl).frozen 2
    have z3 : World.cell? (w1) ⟨w.heap.size + 1, 3, none⟩ = some _ := (H.blk 0 rfl).cell 3
    have zf3 : World.frozen? (w1) ⟨w.heap.size + 1, 3, none⟩ = false := (H.blk 0 rfl).frozen 3
    have H5 := (((H.set 0 rfl 0 (.int .i64 key)).set 0 rfl 1 (.int .i64 0)).set 0 rfl 2 (.int .i64 start)).set 0 rfl 3 (.slice none 0 0)
    have hR := H5.blk 0 rfl
    have hX := hXh.out _ ⟨key, 0, start, .slice none 0 0⟩ (fun W _ => ⟨rfl, rfl, rfl, RdS.nil 2 _⟩) H5.t
    clear Hh H H5 hA
    go_wp2_with fail
    refine bodyPost_ret (res_list (rs := [.cell 4 38, .tmp 5]) rfl (by simp) (.cell (w.heap.size + 1) _ _ _ rfl hR Try.underlying38 rfl (by kernel_rfl) (.tmp .nil))) rfl ?_
    exact hX
end Go.Proofs.Ytphhfdlhkginkaa.Bd
