/- Words of this work: arguments opened to cells: whole numbers, bools, strings, structs and arrays of these, slices of all. No program in sight. -/
import Derived.Test.YtohokckpheljbaaHm
import Derived.Deep.Slices
import Derived.ChangeArms
import Derived.OpenShut
import Derived.ProofKit
set_option linter.unusedVariables false
set_option linter.unusedSimpArgs false
namespace Go.Proofs.Ytohokckpheljbaa.Ho
open Go.RowKit Go.Deep Go.ChangeShapes Go.WideShapes Hm

/-- One cell's kind. -/
inductive Sc where
  | int (k : IntKind)
  | bool
  | str
def Sc.ok : Sc → Value → Prop
  | .int k, v => ∃ n, v = .int k n ∧ (Lit.int k n).wf = true
  | .bool, v => ∃ b, v = .bool b
  | .str, v => ∃ s : ByteArray, v = .string s ∧ s.size ≤ maxLen
inductive Oks : List Sc → List Value → Prop
  | nil : Oks [] []
  | cons {k : Sc} {ks : List Sc} {v : Value} {vs : List Value} (h : k.ok v) (hs : Oks ks vs) : Oks (k :: ks) (v :: vs)
theorem Oks.len {ks : List Sc} {vs : List Value} (h : Oks ks vs) : vs.length = ks.length := by induction h <;> simp [*]
theorem Oks.append {ks ks' : List Sc} {vs vs' : List Value} (h : Oks ks vs) (h' : Oks ks' vs') : Oks (ks ++ ks') (vs ++ vs') := by
  induction h with
  | nil => exact h'
  | cons h _ ih => exact .cons h ih
theorem Oks.int {k : IntKind} {ks : List Sc} {vs : List Value} (h : Oks (.int k :: ks) vs) : ∃ n r, vs = .int k n :: r ∧ (Lit.int k n).wf = true ∧ Oks ks r := by
  cases h with
  | cons h hs =>
    obtain ⟨n, rfl, hw⟩ := h
    exact ⟨n, _, rfl, hw, hs⟩
theorem Oks.bool {ks : List Sc} {vs : List Value} (h : Oks (.bool :: ks) vs) : ∃ n r, vs = .bool n :: r ∧ Oks ks r := by
  cases h with
  | cons h hs =>
    obtain ⟨n, rfl⟩ := h
    exact ⟨n, _, rfl, hs⟩
theorem Oks.none {vs : List Value} (h : Oks [] vs) : vs = [] := by cases h; rfl
/-- A type whose cells are of the kinds ks, whatever it is that is read. -/
def Flat (P : Program) (t : TypeId) (ks : List Sc) : Prop :=
  P.cellsOf t = ks.length ∧ ∀ {H : Type} (enc : TypeId × Value → H) (w : World) (base : Nat) (sp : Nat → Bool) (held : Bool) (fuel : Nat) (cs : List Value) (y : DataW H × List MemPlace), DataW.trod enc P w base sp held fuel t cs = some y → Oks ks cs
section
variable {P : Program} {t : TypeId}
theorem flat_int {k : IntKind} (ht : P.underlying t = some (.int k)) (hC : P.cellsOf t = 1) : Flat P t [.int k] :=
  ⟨hC, fun enc w base sp held fuel cs y h => by
    obtain ⟨n, rfl, _, hw⟩ := DataW.trod_int ht h
    exact .cons ⟨n, rfl, hw⟩ .nil⟩
theorem flat_bool (ht : P.underlying t = some .bool) (hC : P.cellsOf t = 1) : Flat P t [.bool] :=
  ⟨hC, fun enc w base sp held fuel cs y h => by
    obtain ⟨b, rfl, _⟩ := DataW.trod_bool ht h
    exact .cons ⟨b, rfl⟩ .nil⟩
theorem flat_str (ht : P.underlying t = some .string) (hC : P.cellsOf t = 1) : Flat P t [.str] :=
  ⟨hC, fun enc w base sp held fuel cs y h => by
    obtain ⟨s, rfl, _, hs⟩ := DataW.trod_string ht h
    exact .cons ⟨s, rfl, hs⟩ .nil⟩
/-- Fields one behind the other. -/
inductive Fields (P : Program) : Nat → List Field → List Sc → Prop
  | nil (off : Nat) : Fields P off [] []
  | cons {off : Nat} {f : Field} {fs : List Field} {ks rest : List Sc} (ho : f.offset = off) (hf : Flat P f.type ks) (hs : Fields P (off + ks.length) fs rest) : Fields P off (f :: fs) (ks ++ rest)
theorem fields_oks {H : Type} {enc : TypeId × Value → H} {w : World} {base : Nat} {sp : Nat → Bool} {held : Bool} {n : Nat} {cs : List Value} {off : Nat} {fs : List Field} {ks : List Sc} (h : Fields P off fs ks)
    (hlen : off + ks.length = cs.length) (hf : ∀ f ∈ fs, ∃ y, DataW.trod enc P w base sp held n f.type ((cs.drop f.offset).take (P.cellsOf f.type)) = some y) : Oks ks (cs.drop off) := by
  induction h with
  | nil off =>
    simp only [List.length_nil, Nat.add_zero] at hlen
    rw [hlen, List.drop_length]
    exact .nil
  | @cons off f fs ks rest ho hfl hs ih =>
    obtain ⟨y, hy⟩ := hf f (by simp)
    have h1 := hfl.2 _ _ _ _ _ _ _ _ hy
    rw [ho, hfl.1] at h1
    rw [List.length_append] at hlen
    have h2 := ih (by omega) (fun g hg => hf g (by simp [hg]))
    have e : cs.drop off = (cs.drop off).take ks.length ++ cs.drop (off + ks.length) := by
      rw [← List.drop_drop, List.take_append_drop]
    rw [e]
    exact h1.append h2
theorem flat_fields {fs : Array Field} {ks : List Sc} (ht : P.underlying t = some (.struct fs)) (h : Fields P 0 fs.toList ks) (hC : P.cellsOf t = ks.length) : Flat P t ks :=
  ⟨hC, fun enc w base sp held fuel cs y hy => by
    obtain ⟨xs, n, _, _, hlen, hxl, hf⟩ := DataW.trod_struct ht hy
    have := fields_oks (enc := enc) (w := w) (base := base) (sp := sp) (held := held) (n := n) (cs := cs) h (by omega) (fun f hfm => by
      obtain ⟨j, hj, rfl⟩ := List.mem_iff_getElem.1 hfm
      have hj' : j < fs.size := by simpa using hj
      have := hf j fs[j] (by simp)
      rw [List.getElem?_eq_getElem (by omega)] at this
      exact ⟨_, by simpa using this⟩)
    simpa using this⟩
theorem flat_struct {l : List Field} {ks : List Sc} (ht : P.underlying t = some (.struct l.toArray)) (h : Fields P 0 l ks) (hC : P.cellsOf t = ks.length) : Flat P t ks := flat_fields ht (by simpa using h) hC
theorem fnil {off : Nat} : Fields P off [] [] := .nil off
theorem fcons {off : Nat} {f : Field} {fs : List Field} {ks rest out : List Sc} (ho : f.offset = off) (hf : Flat P f.type ks) (hs : Fields P (off + ks.length) fs rest) (e : out = ks ++ rest) : Fields P off (f :: fs) out := e ▸ .cons ho hf hs
theorem rep_oks {ks : List Sc} : ∀ (n : Nat) (cs : List Value), cs.length = n * ks.length → (∀ i, i < n → Oks ks ((cs.drop (i * ks.length)).take ks.length)) → Oks (List.replicate n ks).flatten cs
  | 0, cs, hl, _ => by
    have : cs = [] := List.eq_nil_of_length_eq_zero (by simpa using hl)
    subst this
    exact .nil
  | n + 1, cs, hl, h => by
    rw [Nat.succ_mul] at hl
    have h0 := h 0 (by omega)
    rw [Nat.zero_mul, List.drop_zero] at h0
    have h1 := rep_oks (ks := ks) n (cs.drop ks.length) (by rw [List.length_drop, hl]; omega) (fun i hi => by
      have := h (i + 1) (by omega)
      rw [Nat.succ_mul, Nat.add_comm (i * ks.length)] at this
      rw [List.drop_drop]
      exact this)
    rw [List.replicate_succ, List.flatten_cons, ← List.take_append_drop ks.length cs]
    exact h0.append h1
theorem flat_array {e : TypeId} {n : Nat} {ks : List Sc} (ht : P.underlying t = some (.array n e)) (he : Flat P e ks) (hC : P.cellsOf t = n * ks.length) : Flat P t (List.replicate n ks).flatten :=
  ⟨by rw [hC]; simp [List.length_flatten], fun enc w base sp held fuel cs y hy => by
    obtain ⟨xs, m, _, _, hlen, hxl, hf⟩ := DataW.trod_array ht hy
    refine rep_oks n cs (by omega) (fun i hi => ?_)
    have := hf i hi
    rw [List.getElem?_eq_getElem (by omega), he.1] at this
    exact he.2 _ _ _ _ _ _ _ _ this⟩
theorem okWide_array {w : World} {r : Reach} {base : Nat} {v : Value} {n : Nat} {e : TypeId} (ht : P.underlying t = some (.array n e)) (h : Value.okWide P w r base t v) : ∃ cs, v = .agg cs ∧ cs.size = P.cellsOf t := by
  simp only [Value.okWide, ht] at h
  obtain ⟨cs, h1, h2, _⟩ := h
  exact ⟨cs, h1, h2⟩
/-- A slice of such elements. -/
theorem open_flat {H : Type} {enc : TypeId × Value → H} {w : World} {sp : Nat → Bool} {held : Bool} {e : TypeId} {ks : List Sc} (ht : P.underlying t = some (.slice e)) (he : Flat P e ks) {fuel : Nat} {v : Value} {y : DataW H × List MemPlace}
    (h : DataW.trod enc P w 0 sp held fuel t [v] = some y) : ∃ A c rows, v = .slice A rows.length c ∧ rows.length ≤ c ∧ FlatRow w A ks.length rows ∧ ∀ r ∈ rows, Oks ks r := by
  rcases open_slice ht h with ⟨hcs, _⟩ | ⟨a, len, cap, m, n, D, Pl, hcs, _, hl, hm, hmm, _, hi⟩
  · simp only [List.cons.injEq, and_true] at hcs
    exact ⟨none, 0, [], by rw [hcs]; rfl, Nat.le_refl _, ⟨by simp, by simp⟩, by simp⟩
  · simp only [List.cons.injEq, and_true] at hcs
    have hlm : len ≤ m := by rw [hmm]; split <;> omega
    have hall : ∀ i, i < len → ∃ r, w.cells? 0 (a.add (i * ks.length)) ks.length = some r ∧ Oks ks r := fun i hil => by
      obtain ⟨cs', hc, ht'⟩ := hi i (by omega)
      rw [he.1] at hc
      exact ⟨cs', hc, he.2 _ _ _ _ _ _ _ _ ht'⟩
    obtain ⟨f, hf⟩ : ∃ f : Nat → List Value, ∀ i, i < len → w.cells? 0 (a.add (i * ks.length)) ks.length = some (f i) ∧ Oks ks (f i) :=
      ⟨fun i => if hx : i < len then (hall i hx).choose else [], fun i hx => by simp only [hx, dif_pos]; exact (hall i hx).choose_spec⟩
    refine ⟨some a, cap, (List.range len).map f, by rw [hcs]; simp, by simpa using hl, ⟨by simp only [List.length_map, List.length_range]; unfold maxLen at hm; omega, fun _ => ⟨a, rfl, fun j c hj => ?_⟩⟩, fun r hr => ?_⟩
    · rw [List.getElem?_map] at hj
      have hjl : j < len := by
        rcases Nat.lt_or_ge j len with h' | h'
        · exact h'
        · rw [List.getElem?_eq_none (by simpa using h')] at hj; cases hj
      rw [List.getElem?_range hjl] at hj
      simp only [Option.map_some, Option.some.injEq] at hj
      subst hj
      obtain ⟨h1, h2⟩ := hf j hjl
      obtain ⟨_, hcl, hat⟩ := World.cells?_some h1
      refine ⟨h2.len, fun i u hu => ?_⟩
      have hil : i < ks.length := by have := (List.getElem?_eq_some_iff.1 hu).1; have := h2.len; omega
      rw [← Go.Deep.add_add, hat i hil, hu]
    · obtain ⟨i, hi', rfl⟩ := List.mem_map.1 hr
      exact (hf i (List.mem_range.1 hi')).2
/-- Rows that are read one by one are the rows of a list. -/
theorem rows_of {α : Type} {f : α → List Value} {p : α → Prop} : ∀ {rows : List (List Value)}, (∀ r ∈ rows, ∃ a, r = f a ∧ p a) → ∃ as : List α, rows = as.map f ∧ ∀ a ∈ as, p a
  | [], _ => ⟨[], rfl, by simp⟩
  | r :: rs, h => by
    obtain ⟨a, rfl, ha⟩ := h r (by simp)
    obtain ⟨as, e, hp⟩ := rows_of (rows := rs) (fun x hx => h x (by simp [hx]))
    exact ⟨a :: as, by rw [e]; rfl, by intro x hx; rcases List.mem_cons.1 hx with rfl | hx; exact ha; exact hp x hx⟩
theorem int_bd {a : Int} (h : (Lit.int .i64 a).wf = true) : -9223372036854775808 ≤ a ∧ a ≤ 9223372036854775807 := by
  simp [Lit.wf, IntKind.min, IntKind.max, IntKind.signed, IntKind.bits] at h
  exact h
theorem u8_bd {a : Int} (h : (Lit.int .u8 a).wf = true) : 0 ≤ a ∧ a ≤ 255 := by
  simp [Lit.wf, IntKind.min, IntKind.max, IntKind.signed, IntKind.bits] at h
  exact h
theorem u16_bd {a : Int} (h : (Lit.int .u16 a).wf = true) : 0 ≤ a ∧ a ≤ 65535 := by
  simp [Lit.wf, IntKind.min, IntKind.max, IntKind.signed, IntKind.bits] at h
  exact h
theorem u64_bd {a : Int} (h : (Lit.int .u64 a).wf = true) : 0 ≤ a ∧ a ≤ 18446744073709551615 := by
  simp [Lit.wf, IntKind.min, IntKind.max, IntKind.signed, IntKind.bits] at h
  exact h
end
end Go.Proofs.Ytohokckpheljbaa.Ho
