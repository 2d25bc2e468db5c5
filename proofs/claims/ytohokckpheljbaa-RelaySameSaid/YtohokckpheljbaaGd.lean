/- The walks of package token: At, Newer; of package relay: release. -/
import Derived.Test.YtohokckpheljbaaGc
set_option linter.unusedVariables false
set_option linter.unusedSimpArgs false
set_option maxRecDepth 100000
namespace Go.Proofs.Ytohokckpheljbaa.Gd
open Go.RowKit Go.MapKept Go.Shelf Hm Hs Hf Hx Hy Hv Fa Fb Ff Fg Fi Fj Fq Fr_ Ga Gb Gc
theorem at_is (w : World) (t : Tok) (sv rv : Value) (h : TokR w t sv rv) : Calls Try.prog 42 #[tkv t sv rv] w fun e w' => e = .returned (.agg #[.int .i64 t.gen, .int .i64 t.hop]) ∧ Turns [] w w' := by
  have hR := Blk.new (w.alloc (.cells #[.int .i64 t.gen, .int .i64 t.hop, sv, .int .i64 t.start, rv] 39)) #[.int .i64 t.gen, .int .i64 t.hop] 52
  have T := ((Turns.refl [] w).alloc (.cells #[.int .i64 t.gen, .int .i64 t.hop, sv, .int .i64 t.start, rv] 39)).alloc (.cells #[.int .i64 t.gen, .int .i64 t.hop] 52)
  rw [World.size_alloc] at hR
  obtain ⟨A1, c1, rfl, _⟩ := rform h.st
  obtain ⟨A3, c3, rfl, _⟩ := h.rows.form
  unfold tkv
  clear h
  go_enter Try.func42, Try.ntmps42
  go_wp2_with fail
  refine bodyPost_ret (res_one rfl (.cell (w.heap.size + 1) _ _ _ rfl hR Try.underlying52 rfl (by kernel_rfl) .nil)) rfl ?_
  exact ⟨rfl, T⟩
/-- is a place newer than another one? -/
def newerB (g h g2 h2 : Int) : Bool := if g = g2 then decide (h > h2) else decide (g > g2)
theorem newer_is (w : World) (g h g2 h2 : Int) : Calls Try.prog 43 #[.agg #[.int .i64 g, .int .i64 h], .agg #[.int .i64 g2, .int .i64 h2]] w fun e w' => e = .returned (.bool (newerB g h g2 h2)) ∧ Turns [] w w' := by
  have T := ((Turns.refl [] w).alloc (.cells #[.int .i64 g, .int .i64 h] 52)).alloc (.cells #[.int .i64 g2, .int .i64 h2] 52)
  unfold newerB
  by_cases e : g = g2
  · have g1 : (g == g2) = true := by simpa using e
    rw [if_pos e]
    generalize hq : decide (h > h2) = q
    clear e
    go_enter Try.func43, Try.ntmps43
    go_wp2_with fail
    go_ret
    exact ⟨rfl, T⟩
  · have g1 : (g == g2) = false := by simpa using e
    rw [if_neg e]
    generalize hq : decide (g > g2) = q
    clear e
    go_enter Try.func43, Try.ntmps43
    go_wp2_with fail
    go_ret
    exact ⟨rfl, T⟩
def relO (o : Option Fr) (is : Bool) : Option Fr := if is then none else o
theorem release_is (m : Nat) (w : World) (b : Nat) (cnt : Int) (o : Option Fr) (is : Bool) (h : IsRelay m w b cnt o) : Calls Try.prog 41 #[.pointer (some ⟨b, 0, none⟩), .bool is] w fun e w' => e = .returned (.bool is) ∧ IsRelay m w' b cnt (relO o is) ∧ Turns [b] w w' := by
  unfold relO
  cases is with
  | false =>
    have hX : IsRelay m w b cnt o := h
    clear h
    go_enter Try.func41, Try.ntmps41
    go_wp2_with fail
    go_ret
    exact ⟨rfl, hX, Turns.refl _ _⟩
  | true =>
    have hB : ∃ p, Blk w b #[.pointer p, .int .i64 cnt] 74 := by
      cases h with
      | none hm h => exact ⟨_, h⟩
      | some hm f hb sv rv h hh => exact ⟨_, h⟩
    obtain ⟨p, hB⟩ := hB
    have b0 : World.cell? (w) ⟨b, 0, none⟩ = some _ := (hB).cell 0
    have bf0 : World.frozen? (w) ⟨b, 0, none⟩ = false := (hB).frozen 0
    have hX : IsRelay m (w.setCell ⟨b, 0, none⟩ (.pointer none)) b cnt none := .none h.bm (hB.set 0 (.pointer none))
    have T := (Turns.refl [b] w).setCell (p := ⟨b, 0, none⟩) (by simp) (.pointer none)
    clear h hB
    go_enter Try.func41, Try.ntmps41
    go_wp2_with fail
    go_ret
    exact ⟨rfl, hX, T⟩
end Go.Proofs.Ytohokckpheljbaa.Gd
