/- Are two lists the same: slices.Equal of numbers, of leases; frame.sameRow, SameTable, SameToken. -/
import Derived.Test.YtphhfdlhkginkaaFa
set_option linter.unusedVariables false
set_option linter.unusedSimpArgs false
set_option maxRecDepth 100000
namespace Go.Proofs.Ytphhfdlhkginkaa.Ff
open Go.RowKit Go.MapKept Hm Hs Hf Hx Hy Hv Fa
theorem ne_at {α : Type} {l m : List α} {k : Nat} {x y : α} (hx : l[k]? = some x) (hy : m[k]? = some y) (h : x ≠ y) : l ≠ m := by
  rintro rfl
  exact h (Option.some.inj (hx.symm.trans hy))
theorem eq_next {α : Type} {l m : List α} {k : Nat} {x : α} (h : l.take k = m.take k) (hx : l[k]? = some x) (hy : m[k]? = some x) : l.take (k + 1) = m.take (k + 1) := by rw [Fa.take_next hx, Fa.take_next hy, h]
theorem ne_len {α : Type} {l m : List α} (h : l.length ≠ m.length) : l ≠ m := by rintro rfl; exact h rfl
theorem eq_full {α : Type} {l m : List α} (h : l.take l.length = m.take l.length) (hl : l.length = m.length) : l = m := by
  rw [List.take_length, hl, List.take_length] at h
  exact h
theorem icell {w : World} {v : Value} {l : List Int} {j : Nat} {x : Int} (h : RdS 1 w v (ins l)) (hj : l[j]? = some x) : ∃ ad c, v = .slice (some ad) l.length c ∧ w.cell? (ad.add j) = some (.int .i64 x) := by
  obtain ⟨ad, c, hv, _, hc⟩ := h.at_ (j := j) (r := [.int .i64 x]) (by unfold ins; rw [List.getElem?_map, hj]; rfl)
  rw [ins_len] at hv
  have := hc 0 _ rfl
  rw [Nat.mul_one, Nat.add_zero] at this
  exact ⟨ad, c, hv, this⟩
theorem rform {w : World} {v : Value} {l : List Int} (h : RdS 1 w v (ins l)) : ∃ A c, v = .slice A l.length c ∧ l.length ≤ c ∧ c ≤ 9223372036854775807 := by
  obtain ⟨A, c, h1, h2, h3⟩ := h.form
  rw [ins_len] at h1 h2
  exact ⟨A, c, h1, h2, h3⟩
theorem rsameI_is (w : World) (v u : Value) (l m : List Int) (hv : RdS 1 w v (ins l)) (hu : RdS 1 w u (ins m)) : Calls Try.prog 16 #[v, u] w fun e w' => e = .returned (.bool (decide (l = m))) ∧ Turns [] w w' := by
  have hv0 := Lib.hid hv
  have hu0 := Lib.hid hu
  obtain ⟨A, c, rfl, hc, hcm⟩ := rform hv
  obtain ⟨B, c2, rfl, hc2, hcm2⟩ := rform hu
  clear hv hu
  by_cases hlen : l.length = m.length
  · have g0 : ((l.length : Int) != (m.length : Int)) = false := by simp [hlen]
    have hl2 := Lib.hid hlen
    clear hlen
    go_enter Try.func16, Try.ntmps16
    go_wp2_with fail
    go_loopw [5] (fun v13 wr => ∃ (k : Nat), k ≤ l.length ∧ v13 = .int .i64 k ∧ l.take k = m.take k ∧ Turns [] w wr) (fun v13 _ => l.length - (RowKit.intOf v13).toNat)
    case atStart => exact ⟨0, Nat.zero_le _, rfl, rfl, Turns.refl _ _⟩
    case round =>
      obtain ⟨k, hk, rfl, htk, T⟩ := hrel
      by_cases hlt : k < l.length
      · have g1 : decide ((k : Int) < (l.length : Int)) = true := decide_eq_true (by omega)
        have g1b : decide (k < l.length) = true := decide_eq_true hlt
        have hlt2 : k < m.length := by rw [← hl2.out]; exact hlt
        obtain ⟨x, hx⟩ : ∃ x, l[k]? = some x := ⟨_, List.getElem?_eq_getElem hlt⟩
        obtain ⟨y, hy⟩ : ∃ y, m[k]? = some y := ⟨_, List.getElem?_eq_getElem hlt2⟩
        obtain ⟨ad, c', hv, i0⟩ := icell hv0.out hx
        obtain ⟨ad2, c2', hv2, j0⟩ := icell hu0.out hy
        injection hv with e1 e2 e3
        injection hv2 with e4 e5 e6
        subst e1 e3 e4 e6
        replace i0 := T.old i0
        replace j0 := T.old j0
        have htkh := Lib.hid htk
        have hxh := Lib.hid hx
        have hyh := Lib.hid hy
        clear htk hx hy
        by_cases hxy : x = y
        · subst hxy
          go_wp2_with fail
          go_quiet (fail)
          go_wp2_with fail
          go_roundw
          case rel => exact ⟨k + 1, by omega, by go_num, eq_next htkh.out hxh.out hyh.out, T.drewN _⟩
          case measure => simp [RowKit.intOf]; omega
        · have g2 : (x != y) = true := by simpa using hxy
          have hne := decide_eq_false (ne_at hxh.out hyh.out hxy)
          clear hxy
          go_wp2_with fail
          go_quiet (fail)
          have T2 := T.drewN nq
          generalize wr.drewN nq = wq at *
          go_wp2_with fail
          go_ret
          exact ⟨by rw [hne]; rfl, T2⟩
      · obtain rfl : k = l.length := by omega
        have g1 : decide ((l.length : Int) < (l.length : Int)) = false := by simp
        have heq := decide_eq_true (eq_full htk hl2.out)
        clear htk
        go_wp2_with fail
        go_ret
        exact ⟨by rw [heq]; rfl, T⟩
  · have g0 : ((l.length : Int) != (m.length : Int)) = true := by simp; omega
    have hne := decide_eq_false (ne_len hlen)
    clear hlen
    go_enter Try.func16, Try.ntmps16
    go_wp2_with fail
    go_ret
    exact ⟨by rw [hne]; rfl, Turns.refl _ _⟩
/-- two rows, field by field -/
def sameB (r s : Row) : Bool := (r.key == s.key) && ((r.avail == s.avail) && ((r.mark == s.mark) && decide (r.out = s.out)))
theorem sameB_eq (r s : Row) : sameB r s = decide (r = s) := by
  obtain ⟨a, b, c, d⟩ := r
  obtain ⟨a', b', c', d'⟩ := s
  unfold sameB
  by_cases h1 : a = a' <;> by_cases h2 : b = b' <;> by_cases h3 : c = c' <;> by_cases h4 : d = d' <;> simp [h1, h2, h3, h4]
end Go.Proofs.Ytphhfdlhkginkaa.Ff
