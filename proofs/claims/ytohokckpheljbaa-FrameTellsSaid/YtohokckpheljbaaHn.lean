/- Words of this work: arguments opened to cells, also slices within: each cell's kind is a predicate of the world and the value. No program in sight. -/
import Derived.Test.YtohokckpheljbaaHo
import Derived.Test.YtohokckpheljbaaHs
set_option linter.unusedVariables false
set_option linter.unusedSimpArgs false
namespace Go.Proofs.Ytohokckpheljbaa.Hn
open Go.RowKit Go.Deep Go.ChangeShapes Go.WideShapes Hm Ho Hs

abbrev Kd := World → Value → Prop
inductive Kds (w : World) : List Kd → List Value → Prop
  | nil : Kds w [] []
  | cons {k : Kd} {ks : List Kd} {v : Value} {vs : List Value} (h : k w v) (hs : Kds w ks vs) : Kds w (k :: ks) (v :: vs)
section
variable {P : Program} {t : TypeId} {w : World} {k : Kd} {ks ks' : List Kd} {vs vs' : List Value}
theorem Kds.len (h : Kds w ks vs) : vs.length = ks.length := by induction h <;> simp [*]
theorem Kds.append (h : Kds w ks vs) (h' : Kds w ks' vs') : Kds w (ks ++ ks') (vs ++ vs') := by
  induction h with
  | nil => exact h'
  | cons h _ ih => exact .cons h ih
theorem Kds.out (h : Kds w (k :: ks) vs) : ∃ v r, vs = v :: r ∧ k w v ∧ Kds w ks r := by
  cases h with
  | cons h hs => exact ⟨_, _, rfl, h, hs⟩
theorem Kds.none (h : Kds w [] vs) : vs = [] := by cases h; rfl
def kInt (k : IntKind) : Kd := fun _ v => ∃ n, v = .int k n ∧ (Lit.int k n).wf = true
def kBool : Kd := fun _ v => ∃ b, v = .bool b
def kStr : Kd := fun _ v => ∃ s : ByteArray, v = .string s ∧ s.size ≤ maxLen
def kSlice (ks : List Kd) : Kd := fun w v => ∃ A c rows, v = .slice A rows.length c ∧ rows.length ≤ c ∧ c ≤ 9223372036854775807 ∧ (A = none → c = 0) ∧ FlatRow w A ks.length rows ∧ ∀ r ∈ rows, Kds w ks r
def kPtr (ks : List Kd) : Kd := fun w v => v = .pointer none ∨ ∃ a cs, v = .pointer (some a) ∧ w.cells? 0 a ks.length = some cs ∧ Kds w ks cs
/-- A type whose cells are of the kinds ks, whatever it is that is read. -/
def Nest (P : Program) (t : TypeId) (ks : List Kd) : Prop :=
  P.cellsOf t = ks.length ∧ ∀ {H : Type} (enc : TypeId × Value → H) (w : World) (sp : Nat → Bool) (held : Bool) (fuel : Nat) (cs : List Value) (y : DataW H × List MemPlace), DataW.trod enc P w 0 sp held fuel t cs = some y → Kds w ks cs
theorem nInt {k : IntKind} (ht : P.underlying t = some (.int k)) (hC : P.cellsOf t = 1) : Nest P t [kInt k] :=
  ⟨hC, fun enc w sp held fuel cs y h => by
    obtain ⟨n, rfl, _, hw⟩ := DataW.trod_int ht h
    exact .cons ⟨n, rfl, hw⟩ .nil⟩
theorem nBool (ht : P.underlying t = some .bool) (hC : P.cellsOf t = 1) : Nest P t [kBool] :=
  ⟨hC, fun enc w sp held fuel cs y h => by
    obtain ⟨b, rfl, _⟩ := DataW.trod_bool ht h
    exact .cons ⟨b, rfl⟩ .nil⟩
theorem nStr (ht : P.underlying t = some .string) (hC : P.cellsOf t = 1) : Nest P t [kStr] :=
  ⟨hC, fun enc w sp held fuel cs y h => by
    obtain ⟨s, rfl, _, hs⟩ := DataW.trod_string ht h
    exact .cons ⟨s, rfl, hs⟩ .nil⟩
theorem nPtr {e : TypeId} (ht : P.underlying t = some (.pointer e)) (he : Nest P e ks) (hC : P.cellsOf t = 1) : Nest P t [kPtr ks] :=
  ⟨hC, fun enc w sp held fuel cs y h => by
    rcases DataW.trod_pointer ht h with ⟨rfl, _⟩ | ⟨a, cs', y', n, _, rfl, _, hc, hy⟩
    · exact .cons (.inl rfl) .nil
    · rw [he.1] at hc
      exact .cons (.inr ⟨a, cs', rfl, hc, he.2 _ _ _ _ _ _ _ hy⟩) .nil⟩
theorem nSlice {e : TypeId} (ht : P.underlying t = some (.slice e)) (he : Nest P e ks) (hC : P.cellsOf t = 1) : Nest P t [kSlice ks] :=
  ⟨hC, fun enc w sp held fuel cs y h => by
    rcases open_slice ht h with ⟨rfl, _⟩ | ⟨a, len, cap, m, n, D, Pl, rfl, _, hl, hm, hmm, _, hi⟩
    · exact .cons ⟨Option.none, 0, [], rfl, Nat.le_refl _, by decide, fun _ => rfl, ⟨by simp, by simp⟩, by simp⟩ .nil
    · have hlm : len ≤ m := by rw [hmm]; split <;> omega
      have hall : ∀ i, i < len → ∃ r, w.cells? 0 (a.add (i * ks.length)) ks.length = some r ∧ Kds w ks r := fun i hil => by
        obtain ⟨cs', hc, ht'⟩ := hi i (by omega)
        rw [he.1] at hc
        exact ⟨cs', hc, he.2 _ _ _ _ _ _ _ ht'⟩
      obtain ⟨f, hf⟩ : ∃ f : Nat → List Value, ∀ i, i < len → w.cells? 0 (a.add (i * ks.length)) ks.length = some (f i) ∧ Kds w ks (f i) :=
        ⟨fun i => if hx : i < len then (hall i hx).choose else [], fun i hx => by simp only [hx, dif_pos]; exact (hall i hx).choose_spec⟩
      unfold maxLen at hm
      refine .cons ⟨some a, cap, (List.range len).map f, by simp, by simpa using hl, by omega, by simp, ⟨by simp only [List.length_map, List.length_range]; omega, fun _ => ⟨a, rfl, fun j c hj => ?_⟩⟩, fun r hr => ?_⟩ .nil
      · rw [List.getElem?_map] at hj
        have hjl : j < len := by
          rcases Nat.lt_or_ge j len with h' | h'
          · exact h'
          · rw [List.getElem?_eq_none (by simpa using h')] at hj; cases hj
        rw [List.getElem?_range hjl] at hj
        simp only [Option.map_some, Option.some.injEq] at hj
        subst hj
        obtain ⟨h1, h2⟩ := hf j hjl
        obtain ⟨_, hcl, hat⟩ := World.cells?_some h1
        refine ⟨h2.len, fun i u hu => ?_⟩
        have hil : i < ks.length := by have := (List.getElem?_eq_some_iff.1 hu).1; have := h2.len; omega
        rw [← Go.Deep.add_add, hat i hil, hu]
      · obtain ⟨i, hi', rfl⟩ := List.mem_map.1 hr
        exact (hf i (List.mem_range.1 hi')).2⟩
/-- Fields one behind the other. -/
inductive NFields (P : Program) : Nat → List Field → List Kd → Prop
  | nil (off : Nat) : NFields P off [] []
  | cons {off : Nat} {f : Field} {fs : List Field} {ks rest : List Kd} (ho : f.offset = off) (hf : Nest P f.type ks) (hs : NFields P (off + ks.length) fs rest) : NFields P off (f :: fs) (ks ++ rest)
theorem nfields_ok {H : Type} {enc : TypeId × Value → H} {sp : Nat → Bool} {held : Bool} {n : Nat} {cs : List Value} {off : Nat} {fs : List Field} (h : NFields P off fs ks)
    (hlen : off + ks.length = cs.length) (hf : ∀ f ∈ fs, ∃ y, DataW.trod enc P w 0 sp held n f.type ((cs.drop f.offset).take (P.cellsOf f.type)) = some y) : Kds w ks (cs.drop off) := by
  induction h with
  | nil off =>
    simp only [List.length_nil, Nat.add_zero] at hlen
    rw [hlen, List.drop_length]
    exact .nil
  | @cons off f fs ks rest ho hfl hs ih =>
    obtain ⟨y, hy⟩ := hf f (by simp)
    have h1 := hfl.2 _ _ _ _ _ _ _ hy
    rw [ho, hfl.1] at h1
    rw [List.length_append] at hlen
    have h2 := ih (by omega) (fun g hg => hf g (by simp [hg]))
    have e : cs.drop off = (cs.drop off).take ks.length ++ cs.drop (off + ks.length) := by
      rw [← List.drop_drop, List.take_append_drop]
    rw [e]
    exact h1.append h2
theorem nStruct {l : List Field} (ht : P.underlying t = some (.struct l.toArray)) (h : NFields P 0 l ks) (hC : P.cellsOf t = ks.length) : Nest P t ks :=
  ⟨hC, fun enc w sp held fuel cs y hy => by
    obtain ⟨xs, n, _, _, hlen, hxl, hf⟩ := DataW.trod_struct ht hy
    have := nfields_ok (enc := enc) (w := w) (sp := sp) (held := held) (n := n) (cs := cs) h (by omega) (fun f hfm => by
      obtain ⟨j, hj, rfl⟩ := List.mem_iff_getElem.1 hfm
      have hj' : j < l.toArray.size := by simpa using hj
      have := hf j l[j] (by simp)
      rw [List.getElem?_eq_getElem (by omega)] at this
      exact ⟨_, by simpa using this⟩)
    simpa using this⟩
theorem nnil {off : Nat} : NFields P off [] [] := .nil off
theorem ncons {off : Nat} {f : Field} {fs : List Field} {ks rest out : List Kd} (ho : f.offset = off) (hf : Nest P f.type ks) (hs : NFields P (off + ks.length) fs rest) (e : out = ks ++ rest) : NFields P off (f :: fs) out := e ▸ .cons ho hf hs
theorem rep_kds : ∀ (n : Nat) (cs : List Value), cs.length = n * ks.length → (∀ i, i < n → Kds w ks ((cs.drop (i * ks.length)).take ks.length)) → Kds w (List.replicate n ks).flatten cs
  | 0, cs, hl, _ => by
    have : cs = [] := List.eq_nil_of_length_eq_zero (by simpa using hl)
    subst this
    exact .nil
  | n + 1, cs, hl, h => by
    rw [Nat.succ_mul] at hl
    have h0 := h 0 (by omega)
    rw [Nat.zero_mul, List.drop_zero] at h0
    have h1 := rep_kds n (cs.drop ks.length) (by rw [List.length_drop, hl]; omega) (fun i hi => by
      have := h (i + 1) (by omega)
      rw [Nat.succ_mul, Nat.add_comm (i * ks.length)] at this
      rw [List.drop_drop]
      exact this)
    rw [List.replicate_succ, List.flatten_cons, ← List.take_append_drop ks.length cs]
    exact h0.append h1
theorem nArray {e : TypeId} {n : Nat} (ht : P.underlying t = some (.array n e)) (he : Nest P e ks) (hC : P.cellsOf t = n * ks.length) : Nest P t (List.replicate n ks).flatten :=
  ⟨by rw [hC]; simp [List.length_flatten], fun enc w sp held fuel cs y hy => by
    obtain ⟨xs, m, _, _, hlen, hxl, hf⟩ := DataW.trod_array ht hy
    refine rep_kds n cs (by omega) (fun i hi => ?_)
    have := hf i hi
    rw [List.getElem?_eq_getElem (by omega), he.1] at this
    exact he.2 _ _ _ _ _ _ _ this⟩
/-- An argument that is read, opened. -/
theorem open_arg (hN : Nest P t ks) {H : Type} {enc : TypeId × Value → H} {sp : Nat → Bool} {held : Bool} {fuel : Nat} {cs : List Value} {y : DataW H × List MemPlace} (h : DataW.trod enc P w 0 sp held fuel t cs = some y) : Kds w ks cs := hN.2 _ _ _ _ _ _ _ h
theorem kSlice.rds {v : Value} (h : kSlice ks w v) : ∃ rows, RdS ks.length w v rows ∧ ∀ r ∈ rows, Kds w ks r := by
  obtain ⟨A, c, rows, hv, hc, hm, hn, hf, hk⟩ := h
  exact ⟨rows, ⟨A, c, hv, hc, hm, hn, hf, fun r hr => (hk r hr).len⟩, hk⟩
theorem kSlice.bytes {v : Value} (h : kSlice [kInt .u8] w v) : ∃ l : List Int, RdS 1 w v (bys l) ∧ ∀ x ∈ l, 0 ≤ x ∧ x ≤ 255 := by
  obtain ⟨rows, hr, hk⟩ := h.rds
  obtain ⟨l, rfl, hl⟩ := rows_of (f := fun x : Int => [Value.int .u8 x]) (p := fun x => 0 ≤ x ∧ x ≤ 255) (fun r hr => by
    obtain ⟨v, r', rfl, ⟨n, rfl, hw⟩, hs⟩ := (hk r hr).out
    obtain rfl := hs.none
    exact ⟨n, rfl, u8_bd hw⟩)
  exact ⟨l, hr, hl⟩
theorem kSlice.ints {v : Value} (h : kSlice [kInt .i64] w v) : ∃ l : List Int, RdS 1 w v (ins l) ∧ ∀ x ∈ l, -9223372036854775808 ≤ x ∧ x ≤ 9223372036854775807 := by
  obtain ⟨rows, hr, hk⟩ := h.rds
  obtain ⟨l, rfl, hl⟩ := rows_of (f := fun x : Int => [Value.int .i64 x]) (p := fun x => -9223372036854775808 ≤ x ∧ x ≤ 9223372036854775807) (fun r hr => by
    obtain ⟨v, r', rfl, ⟨n, rfl, hw⟩, hs⟩ := (hk r hr).out
    obtain rfl := hs.none
    exact ⟨n, rfl, int_bd hw⟩)
  exact ⟨l, hr, hl⟩
/-- the rows of a slice, as structures -/
theorem kSlice.list {v : Value} {α : Type} {f : α → List Value} {p : α → Prop} (h : kSlice ks w v) (hf : ∀ r, Kds w ks r → ∃ a, r = f a ∧ p a) : ∃ l : List α, RdS ks.length w v (l.map f) ∧ ∀ a ∈ l, p a := by
  obtain ⟨rows, hr, hk⟩ := h.rds
  obtain ⟨l, rfl, hl⟩ := rows_of (f := f) (p := p) (fun r hr => hf r (hk r hr))
  exact ⟨l, hr, hl⟩
end
end Go.Proofs.Ytohokckpheljbaa.Hn
