/- Words of this work: one argument, as a row is handed it, opened. No program in sight. -/
import Derived.Test.YtohokckpheljbaaHn
set_option linter.unusedVariables false
set_option linter.unusedSimpArgs false
namespace Go.Proofs.Ytohokckpheljbaa.Ha
open Go.RowKit Go.Deep Go.ChangeShapes Go.WideShapes Hm Ho Hs Hn
section
variable {P : Program} {t : TypeId} {W : World} {base : Nat} {v : Value} {H : Type} {enc : TypeId × Value → H} {d : DataW H} {p : List MemPlace}
theorem arg_int {k : IntKind} (ht : P.underlying t = some (.int k)) (hC : P.cellsOf t = 1) (h : DataW.Trod enc P W 0 (fun _ => true) true t v d p) (o : Value.okWide P W .any base t v) : ∃ n, v = .int k n ∧ (Lit.int k n).wf = true := by
  obtain ⟨n, rfl⟩ := okWide_int ht o
  obtain ⟨f, g⟩ := h
  obtain ⟨v', r, e, ⟨m, rfl, hw⟩, hs⟩ := (open_arg (w := W) (nInt ht hC) g).out
  simp [Value.cells] at e
  exact ⟨m, by rw [e.1], hw⟩
theorem arg_bool (ht : P.underlying t = some .bool) (o : Value.okWide P W .any base t v) : ∃ b, v = .bool b := okWide_bool ht o
theorem arg_str (ht : P.underlying t = some .string) (hC : P.cellsOf t = 1) (h : DataW.Trod enc P W 0 (fun _ => true) true t v d p) (o : Value.okWide P W .any base t v) : ∃ s : ByteArray, v = .string s ∧ s.size ≤ maxLen := by
  obtain ⟨n, rfl⟩ := okWide_string ht o
  obtain ⟨f, g⟩ := h
  obtain ⟨v', r, e, ⟨m, rfl, hw⟩, hs⟩ := (open_arg (w := W) (nStr ht hC) g).out
  simp [Value.cells] at e
  exact ⟨m, by rw [e.1], hw⟩
theorem arg_slice {e : TypeId} {ks : List Kd} (ht : P.underlying t = some (.slice e)) (he : Nest P e ks) (hC : P.cellsOf t = 1) (h : DataW.Trod enc P W 0 (fun _ => true) true t v d p) (o : Value.okWide P W .any base t v) : kSlice ks W v := by
  obtain ⟨a0, len, cap, rfl⟩ := okWide_slice ht o
  obtain ⟨f, g⟩ := h
  obtain ⟨v', r, e, hk, hs⟩ := (open_arg (w := W) (nSlice ht he hC) g).out
  simp [Value.cells] at e
  rw [e.1]
  exact hk
theorem arg_struct {fs : Array Field} {ks : List Kd} (ht : P.underlying t = some (.struct fs)) (hN : Nest P t ks) (h : DataW.Trod enc P W 0 (fun _ => true) true t v d p) (o : Value.okWide P W .any base t v) : ∃ cs : List Value, v = .agg cs.toArray ∧ Kds W ks cs := by
  obtain ⟨cs, rfl, _⟩ := okWide_struct ht o
  obtain ⟨f, g⟩ := h
  obtain ⟨l⟩ := cs
  exact ⟨l, rfl, open_arg (w := W) hN g⟩
theorem arg_array {n : Nat} {e : TypeId} {ks : List Kd} (ht : P.underlying t = some (.array n e)) (hN : Nest P t ks) (h : DataW.Trod enc P W 0 (fun _ => true) true t v d p) (o : Value.okWide P W .any base t v) : ∃ cs : List Value, v = .agg cs.toArray ∧ Kds W ks cs := by
  obtain ⟨cs, rfl, _⟩ := okWide_array ht o
  obtain ⟨f, g⟩ := h
  obtain ⟨l⟩ := cs
  exact ⟨l, rfl, open_arg (w := W) hN g⟩
end
end Go.Proofs.Ytohokckpheljbaa.Ha
