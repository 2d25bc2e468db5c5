/- Words of this work: a map filled by inserts in whatever order. No program in sight. -/
import Derived.Test.YtohokckpheljbaaHm
set_option linter.unusedVariables false
set_option linter.unusedSimpArgs false
namespace Go.Proofs.Ytohokckpheljbaa.Hq
open Go.RowKit Hm
section
variable {P : Program} {w : World} {b : Nat} {l : List (Int × Value)} {ops : Array Oper} {rest : List Oper} {o : Oper} {a : Act} {Q : Exit → Act → World → Prop}
theorem wp_insert (h : IMap w b l) (hg : o.guard = none) (m x y : Operand) (t kt et : TypeId) (hop : o.op = Op.insert t m x y)
    (ht : P.underlying t = some (.map kt et)) (hk : P.underlying kt = some (.int .i64))
    (hm : a.eval m = .map (some b)) (k : Int) (hx : a.eval x = .int .i64 k) (v : Value) (hy : a.eval y = v)
    (hK : ∀ w', IMap w' b (put_ l k v) → Turns [b] w w' → wpList P ops Q rest (a.put o.dst undef) w') :
    wpList P ops Q (o :: rest) a w := by
  refine wpList_plain hg fun K' hK' => ?_
  obtain ⟨w', hrun, r1, r2⟩ := run_update h ht hk k v
  unfold Oper.wp
  simp [execOp, hop, hm, hx, hy, hrun, Result.andThen]
  exact hK' _ _ (hK w' r1 r2)
end
theorem put_fresh {l : List (Int × Value)} {k : Int} {v : Value} (h : ∀ p ∈ l, p.1 ≠ k) : put_ l k v = l ++ [(k, v)] := by
  unfold put_
  rw [if_neg]
  intro hc
  obtain ⟨p, hp, he⟩ := List.any_eq_true.1 hc
  exact h p hp (by simpa using he)
theorem once_perm {l m : List (Int × Value)} (h : l.Perm m) (ho : Once m) : Once l := by
  unfold Once at *
  exact ((h.map (·.1)).nodup_iff).2 ho
theorem at_perm {l m : List (Int × Value)} (h : l.Perm m) (ho : Once m) (k : Int) : at_ l k = at_ m k := by
  have hl := once_perm h ho
  by_cases hk : ∃ p ∈ m, p.1 = k
  · obtain ⟨p, hp, rfl⟩ := hk
    rw [at_some ho (k := p.1) (v := p.2) hp, at_some hl (k := p.1) (v := p.2) (h.mem_iff.2 hp)]
  · rw [at_none (fun p hp e => hk ⟨p, hp, e⟩), at_none (fun p hp e => hk ⟨p, h.mem_iff.1 hp, e⟩)]
/-- of the inserts g those of rem are left; nothing else has turned since w0 -/
structure Fill (w0 : World) (m : Nat) (pr : Nat → Int × Value) (g rem : List Nat) (w : World) : Prop where
  sub : ∀ i ∈ rem, i ∈ g
  nd : rem.Nodup
  map : ∃ l, IMap w m l ∧ (l ++ rem.map pr).Perm (g.map pr)
  t : Turns [] w0 w
theorem Fill.start {w0 w : World} {m : Nat} {pr : Nat → Int × Value} {g : List Nat} (hm : IMap w m []) (hg : g.Nodup) (t : Turns [] w0 w) : Fill w0 m pr g g w := ⟨fun i hi => hi, hg, ⟨[], hm, by simp⟩, t⟩
theorem Fill.step {w0 w w' : World} {m : Nat} {pr : Nat → Int × Value} {g rem : List Nat} {l : List (Int × Value)} (h : Fill w0 m pr g rem w) (hl : IMap w m l) (hp : (l ++ rem.map pr).Perm (g.map pr)) (ho : Once (g.map pr)) (hm : w0.heap.size ≤ m) {i : Nat} (hi : i ∈ rem) (k : Int) (v : Value) (hpr : pr i = (k, v)) (h1 : IMap w' m (put_ l k v)) (h2 : Turns [m] w w') : Fill w0 m pr g (rem.erase i) w' := by
  have hO : Once (l ++ rem.map pr) := once_perm hp ho
  unfold Once at hO
  rw [List.map_append, List.nodup_append] at hO
  have hne : ∀ p ∈ l, p.1 ≠ k := fun p hp' e => hO.2.2 p.1 (List.mem_map.2 ⟨p, hp', rfl⟩) k (List.mem_map.2 ⟨pr i, List.mem_map.2 ⟨i, hi, rfl⟩, by rw [hpr]⟩) e
  rw [put_fresh hne] at h1
  refine ⟨fun j hj => h.sub j (List.mem_of_mem_erase hj), h.nd.erase i, ⟨l ++ [(k, v)], h1, ?_⟩, h.t.then h2 (by simpa using hm)⟩
  have e1 : (rem.map pr).Perm ((k, v) :: (rem.erase i).map pr) := by
    have := (List.perm_cons_erase hi).map pr
    rw [List.map_cons, hpr] at this
    exact this
  refine List.Perm.trans ?_ hp
  rw [List.append_assoc]
  exact List.Perm.append_left l e1.symm
theorem Fill.done {w0 w : World} {m : Nat} {pr : Nat → Int × Value} {g : List Nat} (h : Fill w0 m pr g [] w) (ho : Once (g.map pr)) : ∃ l, IMap w m l ∧ ∀ k, at_ l k = at_ (g.map pr) k := by
  obtain ⟨l, h1, h2⟩ := h.map
  simp only [List.map_nil, List.append_nil] at h2
  exact ⟨l, h1, fun k => at_perm h2 ho k⟩
end Go.Proofs.Ytohokckpheljbaa.Hq
