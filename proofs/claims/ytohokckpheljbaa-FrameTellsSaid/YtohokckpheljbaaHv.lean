/- Words of this work: results that lie in memory (a struct's named result), alone or beside others. No program in sight. -/
import Derived.Test.YtohokckpheljbaaHs
import Derived.Tactics
import Derived.Laws.Rows
set_option linter.unusedVariables false
set_option linter.unusedSimpArgs false
namespace Go.Proofs.Ytohokckpheljbaa.Hv
open Go.RowKit Hm Hs
inductive Res (P : Program) (tmps : Array Value) (w : World) : List ResultVar → List Value → Prop where
  | nil : Res P tmps w [] []
  | tmp {u : Tmp} {rs : List ResultVar} {vs : List Value} (h : Res P tmps w rs vs) : Res P tmps w (.tmp u :: rs) (tmps.getD u undef :: vs)
  | cell {p : Tmp} {ty : TypeId} {rs : List ResultVar} {vs : List Value} (g : Nat) (t : TypeId) (cs : Array Value) (d : TypeDesc)
      (hp : tmps.getD p undef = .pointer (some ⟨g, 0, none⟩)) (hg : Blk w g cs t)
      (hu : P.underlying ty = some d) (hd : (match d with | .struct _ | .array _ _ => true | _ => false) = true) (hi : (P.info? ty).map (·.size) = some cs.size)
      (h : Res P tmps w rs vs) : Res P tmps w (.cell p ty :: rs) (.agg cs :: vs)
section
variable {P : Program} {tmps : Array Value} {w : World}
theorem res_run {rs : List ResultVar} {vs : List Value} (hv : Res P tmps w rs vs) (f : ResultVar → Sem Value) (hf : ∀ u, f (.tmp u) = pure (tmps.getD u undef)) (hc : ∀ a t, f (.cell a t) = (do loadVar t (← asAddr (tmps.getD a undef)))) :
    (rs.mapM f).run P w = .ok vs w := by
  induction hv with
  | nil => simp
  | tmp h ih => simp [List.mapM_cons, hf, ih]
  | cell g t cs d hp hg hu hd hi h ih =>
    rw [List.mapM_cons, hc, hp]
    simp [asAddr, run_loadVar_row w g t _ cs (0, 0) d hg hu hd hi, ih]
/-- two results or more, or none -/
theorem res_list {fn : Func} {rs : List ResultVar} {vs : List Value} (h : fn.results = rs.toArray) (hl : vs.length ≠ 1) (hv : Res P tmps w rs vs) : (results fn tmps).run P w = .ok (.tuple vs.toArray) w := by
  unfold results
  rw [h, List.mapM_toArray]
  simp only [Sem.run_bind, Sem.run_map]
  rw [res_run hv]
  · simp [hl]
  · intro u; rfl
  · intro a t; rfl
theorem res_one {fn : Func} {r : ResultVar} {v : Value} (h : fn.results = #[r]) (hv : Res P tmps w [r] [v]) : (results fn tmps).run P w = .ok v w := by
  unfold results
  rw [show fn.results = [r].toArray from h, List.mapM_toArray]
  simp only [Sem.run_bind, Sem.run_map]
  rw [res_run hv]
  · simp
  · intro u; rfl
  · intro a t; rfl
end
/-- a block's cells, read as a slice of rows -/
theorem RdS.of_cells {w : World} {b sz : Nat} {rows : List (List Value)} {t : TypeId} {cs : Array Value} {fr : Nat × Nat} (h : w.heap[b]? = some (.cells cs t fr)) (hx : cs.toList = rows.flatten) (hl : ∀ r ∈ rows, r.length = sz)
    (c : Nat) (hc : rows.length ≤ c) (hm : c ≤ 9223372036854775807) : RdS sz w (.slice (some ⟨b, 0, Option.none⟩) rows.length c) rows :=
  ⟨some ⟨b, 0, Option.none⟩, c, rfl, hc, hm, by simp, ⟨by omega, fun _ => ⟨_, rfl, fun j r hj => ⟨hl r (List.mem_of_getElem? hj), fun i u hu => by
    rw [add_zero_]
    simp only [World.cell?, h, Option.isSome_none, Bool.false_eq_true, if_false]
    rw [← Array.getElem?_toList, hx]
    exact flatten_at hl hj hu⟩⟩⟩, hl⟩
end Go.Proofs.Ytohokckpheljbaa.Hv
