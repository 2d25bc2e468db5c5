/- slices of int: IndexFunc, ContainsFunc with a predicate that turns nothing; Clone. -/
import Derived.Test.YtphhfdlhkginkaaFa
import Derived.Test.YtphhfdlhkginkaaWg
import Derived.Shelf.Abstract
set_option linter.unusedVariables false
set_option linter.unusedSimpArgs false
set_option maxRecDepth 100000
namespace Go.Proofs.Ytphhfdlhkginkaa.Ft
open Go.RowKit Go.MapKept Go.Shelf Hm Hs Hg Hv Hx Hy
/-- where the first one is that p holds of -/
def ixFrom (p : Int → Bool) : List Int → Nat → Int
  | [], _ => -1
  | x :: r, j => if p x then (j : Int) else ixFrom p r (j + 1)
theorem ixFrom_is (p : Int → Bool) : ∀ (R : List Int) (j : Nat), (ixFrom p R j = -1 ∧ ∀ x ∈ R, p x = false) ∨ ∃ (i : Nat) (x : Int), R[i]? = some x ∧ p x = true ∧ (∀ k, k < i → ∀ y, R[k]? = some y → p y = false) ∧ ixFrom p R j = ((j + i : Nat) : Int)
  | [], j => .inl ⟨rfl, by simp⟩
  | x :: r, j => by
    unfold ixFrom
    cases h : p x with
    | true => exact .inr ⟨0, x, rfl, h, fun k hk => by omega, by simp⟩
    | false =>
      rcases ixFrom_is p r (j + 1) with ⟨h1, h2⟩ | ⟨i, y, h1, h2, h3, h4⟩
      · refine .inl ⟨by simpa using h1, fun y hy => ?_⟩
        rcases List.mem_cons.1 hy with rfl | hy
        · exact h
        · exact h2 y hy
      · refine .inr ⟨i + 1, y, by simpa using h1, h2, fun k hk z hz => ?_, ?_⟩
        · cases k with
          | zero => simp at hz; subst hz; exact h
          | succ k => exact h3 k (by omega) z (by simpa using hz)
        · simp only [Bool.false_eq_true, if_false]
          rw [h4]
          congr 1
          omega
theorem drop_cons {R : List Int} {j : Nat} {x : Int} (h : R[j]? = some x) : R.drop j = x :: R.drop (j + 1) := by
  obtain ⟨h1, rfl⟩ := List.getElem?_eq_some_iff.1 h
  exact List.drop_eq_getElem_cons h1
/-- the list, while it is gone through: q are kept ahead, j have been seen -/
structure Mid (p : Int → Bool) (l C : List Int) (q j : Nat) : Prop where
  len : C.length = l.length
  kept : C.take q = (l.take j).filter (fun x => !p x)
  rest : C.drop j = l.drop j
  le : q < j
  ln : q = ((l.take j).filter (fun x => !p x)).length
theorem Mid.at_ {p : Int → Bool} {l C : List Int} {q j : Nat} (h : Mid p l C q j) {x : Int} (hx : l[j]? = some x) : C[j]? = some x := by
  have := congrArg (fun l => l[0]?) h.rest
  simpa [List.getElem?_drop, hx] using this
theorem take_next {l : List Int} {j : Nat} {x : Int} (hx : l[j]? = some x) : l.take (j + 1) = l.take j ++ [x] := by rw [List.take_add_one, hx]; rfl
theorem Mid.skip {p : Int → Bool} {l C : List Int} {q j : Nat} (h : Mid p l C q j) {x : Int} (hx : l[j]? = some x) (hp : p x = true) : Mid p l C q (j + 1) := by
  have e : (l.take (j + 1)).filter (fun x => !p x) = (l.take j).filter (fun x => !p x) := by rw [take_next hx, List.filter_append]; simp [hp]
  refine ⟨h.len, by rw [e]; exact h.kept, ?_, by have := h.le; omega, by rw [e]; exact h.ln⟩
  have := congrArg (List.drop 1) h.rest
  simpa [List.drop_drop] using this
theorem Mid.keep {p : Int → Bool} {l C : List Int} {q j : Nat} (h : Mid p l C q j) {x : Int} (hx : l[j]? = some x) (hp : p x = false) : Mid p l (C.set q x) (q + 1) (j + 1) := by
  have hj := (List.getElem?_eq_some_iff.1 hx).1
  have hle := h.le
  have hlen := h.len
  have e : (l.take (j + 1)).filter (fun x => !p x) = (l.take j).filter (fun x => !p x) ++ [x] := by rw [take_next hx, List.filter_append]; simp [hp]
  refine ⟨by rw [List.length_set]; exact h.len, ?_, ?_, by omega, ?_⟩
  · rw [e, ← h.kept, List.take_add_one, List.getElem?_set_self (by omega), List.take_set_of_le (Nat.le_refl _)]
    rfl
  · rw [List.drop_set_of_lt (by omega)]
    have := congrArg (List.drop 1) h.rest
    simpa [List.drop_drop] using this
  · rw [e, List.length_append, ← h.ln]
    rfl
theorem Mid.done {p : Int → Bool} {l C : List Int} {q : Nat} (h : Mid p l C q l.length) : C.take q = l.filter (fun x => !p x) ∧ q = (l.filter (fun x => !p x)).length := by
  have h1 := h.kept
  have h2 := h.ln
  rw [List.take_length] at h1 h2
  exact ⟨h1, h2⟩
theorem Mid.start {p : Int → Bool} {l : List Int} {i : Nat} {x : Int} (hx : l[i]? = some x) (hp : p x = true) (hb : ∀ k, k < i → ∀ y, l[k]? = some y → p y = false) : Mid p l l i (i + 1) := by
  have hi := (List.getElem?_eq_some_iff.1 hx).1
  have e0 : (l.take i).filter (fun x => !p x) = l.take i := List.filter_eq_self.2 (fun y hy => by
    obtain ⟨k, hk⟩ := List.getElem?_of_mem hy
    rw [List.getElem?_take] at hk
    split at hk
    · rename_i hki
      rw [hb k hki y hk]; rfl
    · cases hk)
  have e : (l.take (i + 1)).filter (fun x => !p x) = l.take i := by rw [take_next hx, List.filter_append, e0]; simp [hp]
  exact ⟨rfl, by rw [e], rfl, by omega, by rw [e, List.length_take]; omega⟩
theorem icell {w : World} {v : Value} {l : List Int} {j : Nat} {x : Int} (h : RdS 1 w v (ins l)) (hj : l[j]? = some x) : ∃ ad c, v = .slice (some ad) l.length c ∧ w.cell? (ad.add j) = some (.int .i64 x) := by
  obtain ⟨ad, c, hv, _, hc⟩ := h.at_ (j := j) (r := [.int .i64 x]) (by unfold ins; rw [List.getElem?_map, hj]; rfl)
  rw [ins_len] at hv
  have := hc 0 _ rfl
  rw [Nat.mul_one, Nat.add_zero] at this
  exact ⟨ad, c, hv, this⟩
theorem ix_any (p : Int → Bool) (l : List Int) : decide (ixFrom p l 0 ≥ 0) = l.any p := by
  rcases ixFrom_is p l 0 with ⟨h1, h2⟩ | ⟨i, x, h1, h2, h3, h4⟩
  · rw [h1, show l.any p = false from List.any_eq_false.2 (fun x hx => by rw [h2 x hx]; simp)]; rfl
  · rw [h4, show l.any p = true from List.any_eq_true.2 ⟨x, List.mem_of_getElem? h1, h2⟩]; simp
theorem infoI : (Try.prog.info? 3).map (fun i => (i.zero, i.size, i.bytes)) = some (some (.int .i64 0), 1, 8) := by kernel_rfl
end Go.Proofs.Ytphhfdlhkginkaa.Ft
