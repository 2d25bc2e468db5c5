/- Words of this work: a store into an element of a slice of one's own. No program in sight. -/
import Derived.Test.YtohokckpheljbaaHx
set_option linter.unusedVariables false
set_option linter.unusedSimpArgs false
namespace Go.Proofs.Ytohokckpheljbaa.Hy
open Go.RowKit Hm Hs Hx
theorem flatten_set {sz : Nat} : ∀ {rows : List (List Value)}, (∀ r ∈ rows, r.length = sz) → ∀ {j : Nat} {r : List Value}, rows[j]? = some r → ∀ {i : Nat}, i < sz → ∀ u : Value, (rows.set j (r.set i u)).flatten = rows.flatten.set (j * sz + i) u
  | [], _, j, r, hj, _, _, _ => by simp at hj
  | q :: rs, h, 0, r, hj, i, hi, u => by
    simp only [List.getElem?_cons_zero, Option.some.injEq] at hj
    subst hj
    have hq := h q (by simp)
    rw [List.set_cons_zero, List.flatten_cons, List.flatten_cons, Nat.zero_mul, Nat.zero_add, List.set_append_left _ _ (by omega)]
  | q :: rs, h, j + 1, r, hj, i, hi, u => by
    have hq := h q (by simp)
    have hj' : rs[j]? = some r := by simpa using hj
    rw [List.set_cons_succ, List.flatten_cons, List.flatten_cons, List.set_append_right _ _ (by rw [hq, Nat.succ_mul]; omega), hq, Nat.succ_mul, show j * sz + sz + i - sz = j * sz + i from by omega]
    rw [flatten_set (fun x hx => h x (by simp [hx])) hj' hi u]
theorem OwnS.setAt {e : TypeId} {sz : Nat} {w : World} {v : Value} {rows : List (List Value)} (h : OwnS e sz w v rows) {j : Nat} {r : List Value} (hj : rows[j]? = some r) :
    ∃ ad c, v = .slice (some ad) rows.length c ∧ (∀ i u, r[i]? = some u → w.cell? (ad.add (j * sz + i)) = some u) ∧ ∀ i, i < sz → ∀ a : Addr, a = ad.add (j * sz + i) → w.frozen? a = false ∧ ∀ u, OwnS e sz (w.setCell a u) v (rows.set j (r.set i u)) ∧ Turns v.ownBlock.toList w (w.setCell a u) := by
  obtain ⟨ad, c, hv, _, hc⟩ := h.reads.at_ hj
  obtain ⟨⟨h1, h2⟩, h3⟩ := h
  refine ⟨ad, c, hv, hc, fun i hi a ha => ?_⟩
  have hjl := (List.getElem?_eq_some_iff.1 hj).1
  rcases h2 with ⟨rfl, h0⟩ | ⟨g, cap, cur, rfl, hg, hh, hl, hm, hs, ht⟩
  · omega
  · injection hv with e1 e2 e3
    injection e1 with e1
    subst e1
    rw [add_zero_] at ha
    subst ha
    refine ⟨by simp [World.frozen?, hh], fun u => ⟨⟨⟨?_, .inr ⟨g, cap, cur.setIfInBounds (j * sz + i) u, by rw [List.length_set], hg, ?_, by rw [List.length_set]; exact hl, hm, by simpa using hs, ?_⟩⟩, ?_⟩, ?_⟩⟩
    · rw [flatten_set h3 hj hi u, List.length_set, List.length_set, h1]
    · simp [World.setCell, Array.getElem?_modify, hh]
    · rw [flatten_set h3 hj hi u, List.length_set, Array.toList_setIfInBounds, List.take_set, ht]
    · intro r' hr'
      rcases List.mem_or_eq_of_mem_set hr' with hr' | rfl
      · exact h3 r' hr'
      · rw [List.length_set]; exact h3 r (List.mem_of_getElem? hj)
    · exact (Turns.refl _ _).setCell (by simp [Value.ownBlock]) u
theorem own_nil_lit (w : World) (e : TypeId) (sz : Nat) : OwnS e sz (w.alloc (.cells #[] e)) (.slice (some ⟨w.heap.size, 0, none⟩) 0 0) [] := ⟨World.ownsRow_lit w #[] 0 (Nat.zero_le _) (by decide) (by simp), by simp⟩
/-- an element of the i-th thing is stored -/
theorem Sep.setAt {F : List Nat} {w0 w : World} {l : List Th} (H : Sep F w0 l w) (n : Nat) {e : TypeId} {sz : Nat} {v : Value} {rows : List (List Value)} (hn : l[n]? = some (tOwn e sz v rows)) {j : Nat} {r : List Value} (hj : rows[j]? = some r) :
    ∃ ad c, v = .slice (some ad) rows.length c ∧ (∀ i u, r[i]? = some u → w.cell? (ad.add (j * sz + i)) = some u) ∧ ∀ i, i < sz → ∀ a : Addr, a = ad.add (j * sz + i) → w.frozen? a = false ∧ ∀ u, Sep F w0 (l.set n (tOwn e sz v (rows.set j (r.set i u)))) (w.setCell a u) := by
  obtain ⟨ad, c, hv, hc, hs⟩ := OwnS.setAt (H.own n hn) hj
  refine ⟨ad, c, hv, hc, fun i hi a ha => ?_⟩
  obtain ⟨h1, h2⟩ := hs i hi a ha
  exact ⟨h1, fun u => H.slice n hn (h2 u).1 (h2 u).2 (.inl rfl)⟩
end Go.Proofs.Ytohokckpheljbaa.Hy
