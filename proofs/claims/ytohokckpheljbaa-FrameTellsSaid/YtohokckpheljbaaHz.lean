/- Words of this work: clear(s[q:]) upon a slice of one's own, which is cut to s[:q]. No program in sight. -/
import Derived.Test.YtohokckpheljbaaHy
import Derived.Lib.SliceRun
set_option linter.unusedVariables false
set_option linter.unusedSimpArgs false
namespace Go.Proofs.Ytohokckpheljbaa.Hz
open Go.RowKit Hm Hs Hx Hy
theorem setCells_own {b : Nat} {e : TypeId} {fr : Nat × Nat} : ∀ (vs : List Value) (o : Nat) (w : World) (cur : Array Value), w.heap[b]? = some (.cells cur e fr) → ∃ cur', (w.setCells b o vs).heap[b]? = some (.cells cur' e fr) ∧ cur'.size = cur.size ∧ (∀ k, k < o → cur'[k]? = cur[k]?) ∧ Turns [b] w (w.setCells b o vs)
  | [], o, w, cur, h => ⟨cur, h, rfl, fun _ _ => rfl, Turns.refl _ _⟩
  | v :: r, o, w, cur, h => by
    have h1 : (w.setCell ⟨b, o, none⟩ v).heap[b]? = some (.cells (cur.setIfInBounds o v) e fr) := by simp [World.setCell, Array.getElem?_modify, h]
    obtain ⟨cur', h2, h3, h4, h5⟩ := setCells_own r (o + 1) (w.setCell ⟨b, o, none⟩ v) _ h1
    refine ⟨cur', h2, by rw [h3]; simp, fun k hk => ?_, ((Turns.refl [b] w).setCell (by simp) v).trans h5⟩
    rw [h4 k (by omega), Array.getElem?_setIfInBounds, if_neg (by omega)]
theorem flatten_take {sz : Nat} : ∀ (rows : List (List Value)) (q : Nat), (∀ r ∈ rows, r.length = sz) → (rows.take q).flatten = rows.flatten.take (q * sz)
  | [], q, _ => by simp
  | r :: rs, 0, _ => by simp
  | r :: rs, q + 1, h => by
    have hr := h r (by simp)
    rw [List.take_succ_cons, List.flatten_cons, List.flatten_cons, flatten_take rs q (fun x hx => h x (by simp [hx])), Nat.succ_mul, List.take_append]
    rw [hr, show q * sz + sz - sz = q * sz from by omega, List.take_of_length_le (l := r) (by omega)]
section
variable {P : Program} {w : World} {ops : Array Oper} {rest : List Oper} {o : Oper} {a : Act} {Q : Exit → Act → World → Prop}
theorem run_clear_tail {e t : TypeId} {sz : Nat} {ad : Addr} {N c : Nat} {rows : List (List Value)} (h : OwnS e sz w (.slice (some ad) N c) rows) (ty : TypeId) (ht : P.underlying t = some (.slice e)) (z : Value) (hz : (zeroValue e).run P w = .ok z w) (hzs : z.cells.size = sz) (hz1 : ∀ u ∈ z.cells, u.oneCell' = true) (hsz : 0 < sz) (q : Nat) (hq : q < N) :
    ∃ w', (Builtin.clear_ #[t] ty #[.slice (some (ad.add (q * sz))) (N - q) (c - q)]).run P w = .ok (.tuple #[]) w' ∧ OwnS e sz w' (.slice (some ad) q c) (rows.take q) ∧ Turns [ad.block] w w' := by
  obtain ⟨⟨h1, h2⟩, h3⟩ := h
  rcases h2 with ⟨hv, _⟩ | ⟨g, cap, cur, hv, hg, hh, hl, hm, hs, htk⟩
  · cases hv
  · injection hv with e1 e2 e3
    injection e1 with e1
    subst e1 e2 e3
    rw [add_zero_]
    obtain ⟨k, hk⟩ : ∃ k, rows.length - q = k + 1 := ⟨rows.length - q - 1, by omega⟩
    have hzl : ∀ u ∈ (Builtin.zeroCells z.cells (rows.length - q)).toList, u.oneCell' = true := fun u hu => by
      unfold Builtin.zeroCells at hu
      rw [Array.toList_map] at hu
      obtain ⟨i, _, rfl⟩ := List.mem_map.1 hu
      have hlt : i % z.cells.size < z.cells.size := Nat.mod_lt _ (by omega)
      rw [getElem!_pos z.cells (i % z.cells.size) hlt]
      exact hz1 _ (Array.getElem_mem hlt)
    have hln : (Builtin.zeroCells z.cells (rows.length - q)).toList.length = (rows.length - q) * sz := by
      rw [Array.length_toList, size_zeroCells, hzs]
    have hmul : (rows.length - q) * sz + q * sz = rows.length * sz := by rw [← Nat.add_mul]; congr 1; omega
    have hmul2 : rows.length * sz ≤ c * sz := Nat.mul_le_mul_right _ hl
    generalize hvs : (Builtin.zeroCells z.cells (rows.length - q)).toList = vs at *
    have hst := run_storeCells_cells (P := P) g (q * sz) vs 0 w (fun j hj => by
        simp only [World.cell?, hh, Option.isSome_none, Bool.false_eq_true, if_false, Nat.add_zero]
        rw [Array.getElem?_eq_getElem (by omega)]
        rfl) (fun j hj => by simp [World.frozen?, hh]) hzl
    simp only [Nat.add_zero] at hst
    obtain ⟨cur', k1, k2, k3, k4⟩ := setCells_own vs (q * sz) w cur hh
    refine ⟨w.setCells g (q * sz) vs, ?_, ⟨⟨?_, .inr ⟨g, c, cur', ?_, hg, k1, ?_, hm, by rw [k2, hs], ?_⟩⟩, fun r hr => h3 r (List.mem_of_mem_take hr)⟩, k4⟩
    · rw [hk] at hvs ⊢
      simp [Builtin.clear_, run_underlying ht, hz, hvs, hst, Result.andThen]
    · have : (rows.take q).length = q := by rw [List.length_take]; omega
      rw [flatten_len (fun r hr => h3 r (List.mem_of_mem_take hr))]
    · rw [List.length_take, Nat.min_eq_left (by omega)]
    · rw [List.length_take]; omega
    · rw [List.length_take, Nat.min_eq_left (by omega), flatten_take rows q h3, ← htk, List.take_take]
      have hmq : q * sz ≤ rows.length * sz := Nat.mul_le_mul_right _ (by omega)
      rw [Nat.min_eq_left hmq]
      refine List.ext_getElem? (fun i => ?_)
      rw [List.getElem?_take, List.getElem?_take]
      split
      · rename_i hi
        have := k3 i hi
        simpa using this
      · rfl
theorem wp_clear_tail {e t : TypeId} {sz : Nat} {ad : Addr} {N c : Nat} {rows : List (List Value)} (h : OwnS e sz w (.slice (some ad) N c) rows) (hgd : o.guard = none) (s : Operand) (ho : o.op = .call { callee := .builtin .clear, args := #[s], argTypes := #[t] }) (ht : P.underlying t = some (.slice e)) (z : Value) (hz : (zeroValue e).run P w = .ok z w) (hzs : z.cells.size = sz) (hz1 : ∀ u ∈ z.cells, u.oneCell' = true) (hsz : 0 < sz) (q : Nat) (hq : q < N)
    (hs : a.eval s = .slice (some (ad.add (q * sz))) (N - q) (c - q))
    (hK : ∀ w', OwnS e sz w' (.slice (some ad) q c) (rows.take q) → Turns [ad.block] w w' → wpList P ops Q rest (a.put o.dst (.tuple #[])) w') : wpList P ops Q (o :: rest) a w := by
  refine wpList_plain hgd fun K' hK' => ?_
  obtain ⟨w', hrun, r1, r2⟩ := run_clear_tail h o.type ht z hz hzs hz1 hsz q hq
  unfold Oper.wp
  simp [execOp, ho, resolve, invoke, builtin, hs, hrun, Result.andThen]
  exact hK' _ _ (hK w' r1 r2)
end
end Go.Proofs.Ytohokckpheljbaa.Hz
