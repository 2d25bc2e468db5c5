/- Words of this work: a whole block filled, cell by cell. No program in sight. -/
import Derived.Test.YtohokckpheljbaaHz
set_option linter.unusedVariables false
set_option linter.unusedSimpArgs false
namespace Go.Proofs.Ytohokckpheljbaa.Hp
open Go.RowKit Hm Hs Hx Hy Hz
theorem fill_from {b : Nat} {t : TypeId} : ∀ (vs pre rest : List Value) (w : World), Blk w b (pre ++ rest).toArray t → vs.length = rest.length → Blk (w.setCells b pre.length vs) b (pre ++ vs).toArray t ∧ Turns [b] w (w.setCells b pre.length vs)
  | [], pre, rest, w, h, hl => by
    obtain rfl : rest = [] := List.eq_nil_of_length_eq_zero hl.symm
    exact ⟨h, Turns.refl _ _⟩
  | v :: vs, pre, [], w, h, hl => by cases hl
  | v :: vs, pre, r :: rest, w, h, hl => by
    have h1 := h.set pre.length v
    have e : (pre ++ r :: rest).toArray.setIfInBounds pre.length v = ((pre ++ [v]) ++ rest).toArray := by simp
    rw [e] at h1
    have hl2 : (pre ++ [v]).length = pre.length + 1 := by simp
    obtain ⟨k1, k2⟩ := fill_from vs (pre ++ [v]) rest _ h1 (by simpa using hl)
    rw [hl2] at k1 k2
    have e2 : (pre ++ [v]) ++ vs = pre ++ v :: vs := by simp
    rw [e2] at k1
    exact ⟨k1, ((Turns.refl [b] w).setCell (by simp) v).trans k2⟩
theorem blk_fill {w : World} {b : Nat} {cs : Array Value} {t : TypeId} (h : Blk w b cs t) (vs : List Value) (hl : vs.length = cs.size) : Blk (w.setCells b 0 vs) b vs.toArray t ∧ Turns [b] w (w.setCells b 0 vs) := by
  have := fill_from vs [] cs.toList w (by simpa using h) (by simpa using hl)
  simpa using this
/-- the i-th thing is a block, and is filled -/
theorem Sep.fill {F : List Nat} {w0 w : World} {l : List Th} (h : Sep F w0 l w) (i : Nat) {b : Nat} {cs : Array Value} {t : TypeId} (hi : l[i]? = some (tBlk b cs t)) (vs : List Value) (hl : vs.length = cs.size) : Sep F w0 (l.set i (tBlk b vs.toArray t)) (w.setCells b 0 vs) :=
  have k := blk_fill (h.blk i hi) vs hl
  h.step i hi (by simpa [tBlk] using k.2) k.1 (fun q hq => .inl hq)
end Go.Proofs.Ytohokckpheljbaa.Hp
