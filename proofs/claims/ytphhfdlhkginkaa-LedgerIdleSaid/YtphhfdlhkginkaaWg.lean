/- Several small texts of this work in one: Hm Hs Hv Hx Hy Hz Hu Hf Hg Hr Ht Hq Hi Hb Ia He Ho Hn Ha Sm. -/
import Derived.WalkKit
import Derived.Maps.OwnSet
import Derived.MapKept
import Derived.Deep.Draws
import Derived.OwnWalk
import Derived.Maps.AppendAt
import Derived.Laws.AppendOwnNone
import Derived.Laws.MakeOwn
import Derived.Laws.OwnMore
import Derived.Laws.CopyOwn
import Derived.Tactics
import Derived.Laws.Rows
import Derived.Lib.SliceRun
import Derived.OrdersHeld
import Derived.KernelRfl
import Derived.StillTail
import Derived.StillTactics
import Derived.WalkMore
import Derived.ScopeJumps
import Derived.Scope
import Derived.Laws.BytesArg
import Derived.Lib.SlBytesConst
import Derived.Deep.CutBlock
import Derived.Deep.CutRange
import Derived.Deep.DeepCutAuto
import Derived.Lib.AppendZerosOnto
import Derived.Laws.IdiomCopy
import Derived.Laws.CopyRow
import Derived.Deep.Slices
import Derived.ChangeArms
import Derived.OpenShut
import Derived.ProofKit
import Derived.RowKit
import Derived.Lib.Mul64
import Derived.Laws.BitsLemmas
section
/- Words of this work: maps keyed by int64 as lists of pairs; worlds of which only named blocks have turned. No program in sight. -/
set_option linter.unusedVariables false
set_option linter.unusedSimpArgs false
namespace Go.Proofs.Ytphhfdlhkginkaa.Hm
open Go.RowKit Go.MapKept

/-- Of the blocks that were there only those of F may have turned. -/
structure Turns (F : List Nat) (w w' : World) : Prop where
  os : w'.os = w.os
  tape : w'.tape = w.tape
  output : w'.output = w.output
  size : w.heap.size ≤ w'.heap.size
  block : ∀ k, k < w.heap.size → k ∉ F → w'.heap[k]? = w.heap[k]?
theorem Turns.refl (F : List Nat) (w : World) : Turns F w w := ⟨rfl, rfl, rfl, Nat.le_refl _, fun _ _ _ => rfl⟩
theorem Turns.trans {F : List Nat} {a b c : World} (h : Turns F a b) (k : Turns F b c) : Turns F a c :=
  ⟨k.os.trans h.os, k.tape.trans h.tape, k.output.trans h.output, Nat.le_trans h.size k.size, fun i hi hF => (k.block i (Nat.lt_of_lt_of_le hi h.size) hF).trans (h.block i hi hF)⟩
theorem Turns.mono {F G : List Nat} {a b : World} (h : Turns F a b) (hG : ∀ k, k ∈ F → k ∈ G) : Turns G a b :=
  ⟨h.os, h.tape, h.output, h.size, fun i hi hF => h.block i hi (fun e => hF (hG _ e))⟩
/-- what turned besides was new -/
theorem Turns.then {F G : List Nat} {a b c : World} (h : Turns F a b) (k : Turns G b c) (hG : ∀ i, i ∈ G → i ∈ F ∨ a.heap.size ≤ i) : Turns F a c :=
  ⟨k.os.trans h.os, k.tape.trans h.tape, k.output.trans h.output, Nat.le_trans h.size k.size, fun i hi hF =>
    (k.block i (Nat.lt_of_lt_of_le hi h.size) (fun e => by rcases hG i e with h1 | h1; exact hF h1; omega)).trans (h.block i hi hF)⟩
theorem Turns.drew {F : List Nat} {a w : World} (h : Turns F a w) : Turns F a w.drew := ⟨h.os, h.tape, h.output, h.size, h.block⟩
theorem Turns.drewN {F : List Nat} {a w : World} (h : Turns F a w) (n : Nat) : Turns F a (w.drewN n) := ⟨h.os, h.tape, h.output, h.size, h.block⟩
theorem Turns.alloc {F : List Nat} {a w : World} (h : Turns F a w) (o : Obj) : Turns F a (w.alloc o) :=
  h.trans ⟨rfl, rfl, rfl, by simp, fun k hk _ => Below.heap_alloc _ _ _ hk⟩
theorem Turns.setCell {F : List Nat} {a w : World} (h : Turns F a w) {p : Addr} (hp : p.block ∈ F ∨ a.heap.size ≤ p.block) (u : Value) : Turns F a (w.setCell p u) :=
  ⟨h.os, h.tape, h.output, by simpa [World.setCell] using h.size, fun k hk hF => by
    rw [Below.heap_setCell _ _ _ _ (fun e => by subst e; rcases hp with h1 | h1; exact hF h1; omega)]
    exact h.block k hk hF⟩
theorem Turns.below {F : List Nat} {a b c : World} (h : Turns F a b) {n : Nat} (k : Below n b c) (hn : a.heap.size ≤ n) : Turns F a c :=
  ⟨k.os.trans h.os, k.tape.trans h.tape, k.output.trans h.output, Nat.le_trans h.size k.size, fun i hi hF => (k.block i (Nat.lt_of_lt_of_le hi hn)).trans (h.block i hi hF)⟩
theorem Turns.grown {F : List Nat} {a b c : World} {row : Option Nat} (h : Turns F a b) (g : b.grownBy c row) (hr : ∀ k, row = some k → k ∈ F ∨ a.heap.size ≤ k) : Turns F a c :=
  ⟨g.os.trans h.os, g.tape.trans h.tape, g.output.trans h.output, Nat.le_trans h.size g.size, fun i hi hF =>
    (g.block i (Nat.lt_of_lt_of_le hi h.size) (fun e => by rcases hr i e.symm with h1 | h1; exact hF h1; omega)).trans (h.block i hi hF)⟩
theorem Turns.isBelow {w w' : World} (h : Turns [] w w') : Below w.heap.size w w' := ⟨h.os, h.tape, h.output, h.size, fun k hk => h.block k hk (by simp)⟩
theorem Turns.of_below {w w' : World} (F : List Nat) (h : Below w.heap.size w w') : Turns F w w' := ⟨h.os, h.tape, h.output, h.size, fun k hk _ => h.block k hk⟩
theorem Turns.cell {F : List Nat} {w w' : World} (h : Turns F w w') {p : Addr} (hp : p.block < w.heap.size) (hF : p.block ∉ F) : w'.cell? p = w.cell? p := World.cell?_of_block (w := w) (h.block p.block hp hF)
theorem Turns.frozen {F : List Nat} {w w' : World} (h : Turns F w w') {p : Addr} (hp : p.block < w.heap.size) (hF : p.block ∉ F) : w'.frozen? p = w.frozen? p := World.frozen?_of_block (w := w) (h.block p.block hp hF)

/-- A block of cells, none frozen. -/
def Blk (w : World) (b : Nat) (cs : Array Value) (t : TypeId) : Prop := w.heap[b]? = some (.cells cs t (0, 0))
theorem Blk.lt {w : World} {b : Nat} {cs : Array Value} {t : TypeId} (h : Blk w b cs t) : b < w.heap.size := (Array.getElem?_eq_some_iff.1 h).1
theorem Blk.cell {w : World} {b : Nat} {cs : Array Value} {t : TypeId} (h : Blk w b cs t) (i : Nat) : w.cell? ⟨b, i, none⟩ = cs[i]? := by
  unfold Blk at h; simp [World.cell?, h]
theorem Blk.frozen {w : World} {b : Nat} {cs : Array Value} {t : TypeId} (h : Blk w b cs t) (i : Nat) : w.frozen? ⟨b, i, none⟩ = false := by
  unfold Blk at h; simp [World.frozen?, h]
theorem Blk.move {w w' : World} {b : Nat} {cs : Array Value} {t : TypeId} (h : Blk w b cs t) (hm : w'.heap[b]? = w.heap[b]?) : Blk w' b cs t := hm.trans h
theorem Blk.new (w : World) (cs : Array Value) (t : TypeId) : Blk (w.alloc (.cells cs t)) w.heap.size cs t := (heap_alloc w _).1
theorem Blk.alloc {w : World} {b : Nat} {cs : Array Value} {t : TypeId} (h : Blk w b cs t) (o : Obj) : Blk (w.alloc o) b cs t := h.move (Below.heap_alloc _ _ _ h.lt)
theorem Blk.set {w : World} {b : Nat} {cs : Array Value} {t : TypeId} (h : Blk w b cs t) (i : Nat) (u : Value) : Blk (w.setCell ⟨b, i, none⟩ u) b (cs.setIfInBounds i u) t := by
  unfold Blk at h ⊢
  simp [World.setCell, Array.getElem?_modify, h]
theorem Blk.far {w : World} {b : Nat} {cs : Array Value} {t : TypeId} (h : Blk w b cs t) {p : Addr} (hp : b ≠ p.block) (u : Value) : Blk (w.setCell p u) b cs t := h.move (Below.heap_setCell _ _ _ _ hp)
theorem Blk.turns {w w' : World} {F : List Nat} {b : Nat} {cs : Array Value} {t : TypeId} (h : Blk w b cs t) (k : Turns F w w') (hF : b ∉ F) : Blk w' b cs t := h.move (k.block b h.lt hF)

/-- A row of elements of sz cells each, as their cells. -/
def FlatRow (w : World) (A : Option Addr) (sz : Nat) (rows : List (List Value)) : Prop :=
  rows.length ≤ 9223372036854775807 ∧ (0 < rows.length → ∃ ad, A = some ad ∧ ∀ j c, rows[j]? = some c → c.length = sz ∧ ∀ i u, c[i]? = some u → w.cell? (ad.add (j * sz + i)) = some u)
theorem FlatRow.at_ {w : World} {A : Option Addr} {sz : Nat} {rows : List (List Value)} (h : FlatRow w A sz rows) {j : Nat} {c : List Value} (hj : rows[j]? = some c) :
    ∃ ad, A = some ad ∧ c.length = sz ∧ ∀ i u, c[i]? = some u → w.cell? (ad.add (j * sz + i)) = some u := by
  obtain ⟨ad, e, hc⟩ := h.2 (by have := (List.getElem?_eq_some_iff.1 hj).1; omega)
  exact ⟨ad, e, hc j c hj⟩
/-- A row of int64s. -/
def IRow (w : World) (A : Option Addr) (xs : List Int) : Prop :=
  xs.length ≤ 9223372036854775807 ∧ (0 < xs.length → ∃ ad, A = some ad ∧ ∀ j x, xs[j]? = some x → w.cell? (ad.add j) = some (.int .i64 x))
theorem IRow.at_ {w : World} {A : Option Addr} {xs : List Int} (h : IRow w A xs) {j : Nat} {x : Int} (hj : xs[j]? = some x) : ∃ ad, A = some ad ∧ w.cell? (ad.add j) = some (.int .i64 x) := by
  obtain ⟨ad, e, hc⟩ := h.2 (by have := (List.getElem?_eq_some_iff.1 hj).1; omega)
  exact ⟨ad, e, hc j x hj⟩
theorem IRow.mv {w w' : World} {A : Option Addr} {xs : List Int} (h : IRow w A xs) (hm : ∀ a v, w.cell? a = some v → w'.cell? a = some v) : IRow w' A xs :=
  ⟨h.1, fun hn => by
    obtain ⟨ad, e, hc⟩ := h.2 hn
    exact ⟨ad, e, fun j x hj => hm _ _ (hc j x hj)⟩⟩
theorem add_zero_ (g j : Nat) : (⟨g, 0, none⟩ : Addr).add j = ⟨g, j, none⟩ := by unfold Addr.add; split <;> simp_all
/-- A field's address as the walk spells it. -/
theorem add_field (ad : Addr) (m j : Nat) (hj : 0 < j) : ad.add (m + j) = ⟨(ad.add m).block, (ad.add m).off + j, none⟩ := by
  unfold Addr.add
  by_cases hm : m = 0
  · subst hm
    simp [Nat.ne_of_gt hj]
  · simp [hm, Nat.add_assoc]
theorem old_cell {n : Nat} {w w' : World} (h : Below n w w') {a : Addr} {v : Value} (hn : w.heap.size ≤ n) (hc : w.cell? a = some v) : w'.cell? a = some v :=
  (h.cell (Nat.lt_of_lt_of_le (World.block_lt_of_cell? w a hc) hn)).trans hc
theorem Turns.old {w w' : World} (h : Turns [] w w') {a : Addr} {v : Value} (hc : w.cell? a = some v) : w'.cell? a = some v := old_cell h.isBelow (Nat.le_refl _) hc
theorem IRow.of_blk {w : World} {b : Nat} {xs : List Int} {t : TypeId} {cs : Array Value} (h : Blk w b cs t) (hx : cs.toList = xs.map (Value.int .i64)) (hl : xs.length ≤ 1000000) : IRow w (some ⟨b, 0, none⟩) xs :=
  ⟨by omega, fun _ => ⟨_, rfl, fun j x hj => by
    rw [add_zero_, h.cell, ← Array.getElem?_toList, hx, List.getElem?_map, hj]
    rfl⟩⟩
/-- A map keyed by int64, as a list of pairs in some order; the stamps are the model's. -/
def IMap (w : World) (b : Nat) (l : List (Int × Value)) : Prop :=
  ∃ es clock, w.heap[b]? = some (.map es clock) ∧ Stamped es clock ∧ es.toList.map (fun e => (e.key, e.val)) = l.map (fun p => (Value.int .i64 p.1, p.2))
theorem IMap.lt {w : World} {b : Nat} {l : List (Int × Value)} (h : IMap w b l) : b < w.heap.size := by
  obtain ⟨es, clock, hb, _⟩ := h
  exact (Array.getElem?_eq_some_iff.1 hb).1
theorem IMap.move {w w' : World} {b : Nat} {l : List (Int × Value)} (h : IMap w b l) (hm : w'.heap[b]? = w.heap[b]?) : IMap w' b l := by
  obtain ⟨es, clock, hb, h1, h2⟩ := h
  exact ⟨es, clock, hm.trans hb, h1, h2⟩
theorem IMap.alloc {w : World} {b : Nat} {l : List (Int × Value)} (h : IMap w b l) (o : Obj) : IMap (w.alloc o) b l := h.move (Below.heap_alloc _ _ _ h.lt)
theorem IMap.far {w : World} {b : Nat} {l : List (Int × Value)} (h : IMap w b l) {p : Addr} (hp : b ≠ p.block) (u : Value) : IMap (w.setCell p u) b l := h.move (Below.heap_setCell _ _ _ _ hp)
theorem IMap.turns {w w' : World} {F : List Nat} {b : Nat} {l : List (Int × Value)} (h : IMap w b l) (k : Turns F w w') (hF : b ∉ F) : IMap w' b l := h.move (k.block b h.lt hF)
theorem IMap.new (w : World) : IMap (w.alloc (.map #[] 0)) w.heap.size [] := ⟨#[], 0, (heap_alloc w _).1, stamped_empty 0, rfl⟩

theorem IMap.drew {w : World} {b : Nat} {l : List (Int × Value)} (h : IMap w b l) : IMap w.drew b l := h
theorem Blk.drew {w : World} {b : Nat} {cs : Array Value} {t : TypeId} (h : Blk w b cs t) : Blk w.drew b cs t := h
theorem Blk.ne_map {w : World} {b m : Nat} {cs : Array Value} {t : TypeId} {l : List (Int × Value)} (h : Blk w b cs t) (k : IMap w m l) : b ≠ m := by
  rintro rfl
  obtain ⟨es, clock, hb, _⟩ := k
  unfold Blk at h
  rw [h] at hb
  injection hb with hb
  cases hb
/-- blocks of two types -/
theorem Blk.ne {w : World} {b b' : Nat} {cs cs' : Array Value} {t t' : TypeId} (h : Blk w b cs t) (k : Blk w b' cs' t') (ht : t ≠ t') : b ≠ b' := by
  rintro rfl
  unfold Blk at h k
  rw [h] at k
  injection k with k
  injection k with _ k
  exact ht k
/-- for looking: the walk stands where 'stop_' is laid -/
structure Mk_ (p : Prop) : Prop where mk :: (out : p)
theorem stop_ {p : Prop} (h : Mk_ p) : p := h.out
/-- what lies at a key -/
def at_ (l : List (Int × Value)) (k : Int) : Option Value := (l.find? (fun p => p.1 == k)).map (·.2)
/-- with a value at a key: at its place, or behind -/
def put_ (l : List (Int × Value)) (k : Int) (v : Value) : List (Int × Value) :=
  if l.any (fun p => p.1 == k) then l.map (fun p => if p.1 == k then (k, v) else p) else l ++ [(k, v)]
def del_ (l : List (Int × Value)) (k : Int) : List (Int × Value) := l.filter (fun p => !(p.1 == k))
def Once (l : List (Int × Value)) : Prop := (l.map (·.1)).Nodup

theorem keys_int {es : Array MapEntry} {l : List (Int × Value)} (h : es.toList.map (fun e => (e.key, e.val)) = l.map (fun p => (Value.int .i64 p.1, p.2))) :
    ∀ x ∈ es.toList, IsKey (.int .i64) x.key := by
  intro x hx
  have : (x.key, x.val) ∈ l.map (fun p => (Value.int .i64 p.1, p.2)) := by rw [← h]; exact List.mem_map.2 ⟨x, hx, rfl⟩
  obtain ⟨p, _, hp⟩ := List.mem_map.1 this
  have e : x.key = .int .i64 p.1 := (congrArg Prod.fst hp).symm
  rw [e]; rfl
theorem pair_at {es : Array MapEntry} {l : List (Int × Value)} (h : es.toList.map (fun e => (e.key, e.val)) = l.map (fun p => (Value.int .i64 p.1, p.2))) {j : Nat} {e : MapEntry} (he : es.toList[j]? = some e) :
    ∃ p, l[j]? = some p ∧ e.key = .int .i64 p.1 ∧ e.val = p.2 := by
  have h1 : (es.toList.map (fun e => (e.key, e.val)))[j]? = some (e.key, e.val) := by rw [List.getElem?_map, he]; rfl
  rw [h, List.getElem?_map] at h1
  cases hp : l[j]? with
  | none => rw [hp] at h1; cases h1
  | some p =>
    rw [hp] at h1
    simp only [Option.map_some, Option.some.injEq, Prod.mk.injEq] at h1
    exact ⟨p, rfl, h1.1.symm, h1.2.symm⟩

section
variable {P : Program} {w : World} {b : Nat} {l : List (Int × Value)} {t kt et : TypeId}
theorem IMap.once (h : IMap w b l) : Once l := by
  obtain ⟨es, clock, _, ⟨_, _, h3⟩, h2⟩ := h
  have e : es.toList.map (·.key) = l.map (fun p => Value.int .i64 p.1) := by
    have := congrArg (List.map Prod.fst) h2
    simpa [List.map_map, Function.comp_def] using this
  rw [e] at h3
  unfold Once
  have : l.map (fun p => Value.int .i64 p.1) = (l.map (·.1)).map (Value.int .i64) := by simp [List.map_map, Function.comp_def]
  rw [this] at h3
  exact (List.pairwise_map.1 h3).imp (fun h e => h (by rw [e]))
/-- the entry of a key: none, or its place -/
theorem IMap.find {es : Array MapEntry} (h : es.toList.map (fun e => (e.key, e.val)) = l.map (fun p => (Value.int .i64 p.1, p.2))) (k : Int) :
    (Instr.findNow (.int .i64) (.int .i64 k) es.toList 0 = some none ∧ (∀ p ∈ l, p.1 ≠ k)) ∨
    ∃ j v, Instr.findNow (.int .i64) (.int .i64 k) es.toList 0 = some (some (j, v)) ∧ l[j]? = some (k, v) := by
  rcases findNow_spec (d := .int .i64) (k := .int .i64 k) rfl es.toList 0 (keys_int h) with ⟨h1, h2⟩ | ⟨j, e, h1, h2, h3⟩
  · refine .inl ⟨h1, fun p hp hk => ?_⟩
    have : (Value.int .i64 p.1, p.2) ∈ es.toList.map (fun e => (e.key, e.val)) := by rw [h]; exact List.mem_map.2 ⟨p, hp, rfl⟩
    obtain ⟨x, hx, he⟩ := List.mem_map.1 this
    refine h2 x hx ?_
    have := congrArg Prod.fst he
    simp only at this
    rw [this, hk]
  · obtain ⟨p, hp, hk, hv⟩ := pair_at h h2
    rw [h3] at hk
    have : p.1 = k := by injection hk with _ hk; exact hk.symm
    refine .inr ⟨j, e.val, by simpa using h1, ?_⟩
    rw [hp, hv, ← this]
theorem at_none {k : Int} (h : ∀ p ∈ l, p.1 ≠ k) : at_ l k = none := by
  unfold at_
  rw [List.find?_eq_none.2 (fun p hp => by simpa using h p hp)]
  rfl
theorem at_some {k : Int} {v : Value} (ho : Once l) (hm : (k, v) ∈ l) : at_ l k = some v := by
  induction l with
  | nil => cases hm
  | cons p r ih =>
    unfold Once at ho
    rw [List.map_cons, List.nodup_cons] at ho
    unfold at_
    rw [List.find?_cons]
    rcases List.mem_cons.1 hm with rfl | hm
    · simp
    · have hne : p.1 ≠ k := fun e => ho.1 (by rw [e]; exact List.mem_map.2 ⟨(k, v), hm, rfl⟩)
      have hb : (p.1 == k) = false := by simpa using hne
      rw [hb]
      exact ih ho.2 hm
theorem run_lookup (h : IMap w b l) (ht : P.underlying t = some (.map kt et)) (hk : P.underlying kt = some (.int .i64)) (k : Int) {z : Value} (hz : (zeroValue et).run P w = .ok z w) (ok : Bool) :
    (Instr.lookup t (.map (some b)) (.int .i64 k) ok).run P w = .ok (if ok then .tuple #[(at_ l k).getD z, .bool (at_ l k).isSome] else (at_ l k).getD z) w := by
  have ho := h.once
  obtain ⟨es, clock, hb, _, hl⟩ := h
  rcases IMap.find hl k with ⟨h1, h2⟩ | ⟨j, v, h1, h2⟩
  · have ha := at_none h2
    simp [Instr.lookup, run_underlying ht, MapKept.run_getObj_map hb, run_checkKey hk (k := .int .i64 k) rfl, run_findKey hk h1, Result.andThen, hz, ha]
  · have ha := at_some ho (List.mem_of_getElem? h2)
    simp [Instr.lookup, run_underlying ht, MapKept.run_getObj_map hb, run_checkKey hk (k := .int .i64 k) rfl, run_findKey hk h1, Result.andThen, ha]
/-- a map's block with other entries -/
theorem setObj_turns {es es' : Array MapEntry} {clock clock' : Nat} (hb : w.heap[b]? = some (.map es clock)) : Turns [b] w { w with heap := w.heap.setIfInBounds b (.map es' clock') } :=
  ⟨rfl, rfl, rfl, by simp, fun k hk hF => (heap_set hb).2 k (by simpa using hF)⟩
theorem put_none {k : Int} {v : Value} (h : ∀ p ∈ l, p.1 ≠ k) : put_ l k v = l ++ [(k, v)] := by
  unfold put_
  rw [if_neg]
  simp only [List.any_eq_true, beq_iff_eq, not_exists, not_and]
  exact fun p hp e => h p hp e
theorem put_at {k : Int} {v v0 : Value} (ho : Once l) {j : Nat} (hj : l[j]? = some (k, v0)) : put_ l k v = l.set j (k, v) := by
  unfold put_
  rw [if_pos (by simp only [List.any_eq_true, beq_iff_eq]; exact ⟨_, List.mem_of_getElem? hj, rfl⟩)]
  induction l generalizing j with
  | nil => simp at hj
  | cons p r ih =>
    unfold Once at ho
    rw [List.map_cons, List.nodup_cons] at ho
    cases j with
    | zero =>
      simp only [List.getElem?_cons_zero, Option.some.injEq] at hj
      subst hj
      simp only [List.map_cons, beq_self_eq_true, if_true, List.set_cons_zero]
      congr 1
      conv => rhs; rw [← List.map_id r]
      refine List.map_congr_left (fun q hq => ?_)
      rw [if_neg]
      · rfl
      · simp only [beq_iff_eq]
        exact fun e => ho.1 (by rw [← e]; exact List.mem_map.2 ⟨q, hq, rfl⟩)
    | succ j =>
      have hj' : r[j]? = some (k, v0) := by simpa using hj
      have hne : p.1 ≠ k := fun e => ho.1 (by rw [e]; exact List.mem_map.2 ⟨_, List.mem_of_getElem? hj', rfl⟩)
      rw [List.map_cons, if_neg (by simpa using hne), List.set_cons_succ, ih ho.2 hj']
theorem run_update (h : IMap w b l) (ht : P.underlying t = some (.map kt et)) (hk : P.underlying kt = some (.int .i64)) (k : Int) (v : Value) :
    ∃ w', (Instr.mapUpdate t (.map (some b)) (.int .i64 k) v).run P w = .ok () w' ∧ IMap w' b (put_ l k v) ∧ Turns [b] w w' := by
  have ho := h.once
  obtain ⟨es, clock, hb, hs, hl⟩ := h
  rcases IMap.find hl k with ⟨h1, h2⟩ | ⟨j, v0, h1, h2⟩
  · refine ⟨{ w with heap := w.heap.setIfInBounds b (.map (es.push { key := .int .i64 k, val := v, born := clock }) (clock + 1)) }, ?_, ?_, setObj_turns hb⟩
    · simp [Instr.mapUpdate, run_underlying ht, MapKept.run_getObj_map hb, run_checkKey hk (k := .int .i64 k) rfl, run_findKey hk h1, Result.andThen, run_setObj_map _ hb]
    · refine ⟨_, _, (heap_set hb).1, stamped_push hs (fun x hx => ?_), ?_⟩
      · have : (x.key, x.val) ∈ l.map (fun p => (Value.int .i64 p.1, p.2)) := by rw [← hl]; exact List.mem_map.2 ⟨x, hx, rfl⟩
        obtain ⟨p, hp, he⟩ := List.mem_map.1 this
        have e : Value.int .i64 p.1 = x.key := congrArg Prod.fst he
        rw [← e]
        exact fun e2 => h2 p hp (by injection e2)
      · rw [put_none h2]
        simp [hl]
  · obtain ⟨e, he, hek⟩ : ∃ e, es.toList[j]? = some e ∧ e.key = .int .i64 k := by
      have : (es.toList.map (fun e => (e.key, e.val)))[j]? = some (.int .i64 k, v0) := by rw [hl, List.getElem?_map, h2]; rfl
      rw [List.getElem?_map] at this
      cases hx : es.toList[j]? with
      | none => rw [hx] at this; cases this
      | some e => rw [hx] at this; simp at this; exact ⟨e, rfl, this.1⟩
    have hea : es[j]? = some e := by simpa using he
    refine ⟨{ w with heap := w.heap.setIfInBounds b (.map (es.modify j fun e => { e with key := .int .i64 k, val := v }) clock) }, ?_, ?_, setObj_turns hb⟩
    · simp [Instr.mapUpdate, run_underlying ht, MapKept.run_getObj_map hb, run_checkKey hk (k := .int .i64 k) rfl, run_findKey hk h1, Result.andThen, run_setObj_map _ hb, hea, hek, Instr.keyThatStays, Instr.sameBits]
    · refine ⟨_, _, (heap_set hb).1, stamped_modify hs j _ (fun _ _ => rfl) (fun e' _ he' => ?_), ?_⟩
      · rw [hea] at he'; injection he' with he'; subst he'; exact hek.symm
      · rw [put_at ho h2, Array.toList_modify, List.map_set, ← hl]
        apply List.ext_getElem?
        intro i
        rw [List.getElem?_map, List.getElem?_modify, List.getElem?_set]
        by_cases hij : j = i
        · subst hij
          have hlt : j < es.toList.length := (List.getElem?_eq_some_iff.1 he).1
          have hlt2 : j < es.size := by simpa using hlt
          simp [he, hlt2]
        · simp [hij]
theorem map_eraseIdx' {α β : Type} (f : α → β) : ∀ (l : List α) (j : Nat), (l.map f).eraseIdx j = (l.eraseIdx j).map f
  | [], _ => by simp
  | _ :: _, 0 => by simp
  | _ :: r, j + 1 => by simp [map_eraseIdx' f r j]
theorem del_none {k : Int} (h : ∀ p ∈ l, p.1 ≠ k) : del_ l k = l := by
  unfold del_
  exact List.filter_eq_self.2 (fun p hp => by simpa using h p hp)
theorem del_at {k : Int} {v0 : Value} (ho : Once l) {j : Nat} (hj : l[j]? = some (k, v0)) : del_ l k = l.eraseIdx j := by
  induction l generalizing j with
  | nil => simp at hj
  | cons p r ih =>
    unfold Once at ho
    rw [List.map_cons, List.nodup_cons] at ho
    cases j with
    | zero =>
      simp only [List.getElem?_cons_zero, Option.some.injEq] at hj
      subst hj
      have e : del_ r k = r := del_none (fun q hq e => ho.1 (by rw [← e]; exact List.mem_map.2 ⟨q, hq, rfl⟩))
      unfold del_ at e ⊢
      rw [List.filter_cons, if_neg (by simp), e]
      rfl
    | succ j =>
      have hj' : r[j]? = some (k, v0) := by simpa using hj
      have hne : p.1 ≠ k := fun e => ho.1 (by rw [e]; exact List.mem_map.2 ⟨_, List.mem_of_getElem? hj', rfl⟩)
      have e := ih ho.2 hj'
      unfold del_ at e ⊢
      rw [List.filter_cons, if_pos (by simpa using hne), e]
      rfl
theorem run_delete (h : IMap w b l) (ht : P.underlying t = some (.map kt et)) (hk : P.underlying kt = some (.int .i64)) (k : Int) (tt ty : TypeId) :
    ∃ w', (Go.Builtin.delete_ #[t, tt] ty #[.map (some b), .int .i64 k]).run P w = .ok (.tuple #[]) w' ∧ IMap w' b (del_ l k) ∧ Turns [b] w w' := by
  have ho := h.once
  obtain ⟨es, clock, hb, hs, hl⟩ := h
  rcases IMap.find hl k with ⟨h1, h2⟩ | ⟨j, v0, h1, h2⟩
  · refine ⟨{ w with heap := w.heap.setIfInBounds b (.map es clock) }, ?_, ?_, setObj_turns hb⟩
    · simp [Go.Builtin.delete_, run_underlying ht, MapKept.run_getObj_map hb, run_checkKey hk (k := .int .i64 k) rfl, run_findKey hk h1, Result.andThen, run_setObj_map _ hb]
    · exact ⟨_, _, (heap_set hb).1, hs, by rw [del_none h2]; exact hl⟩
  · refine ⟨{ w with heap := w.heap.setIfInBounds b (.map (es.eraseIdxIfInBounds j) clock) }, ?_, ?_, setObj_turns hb⟩
    · simp [Go.Builtin.delete_, run_underlying ht, MapKept.run_getObj_map hb, run_checkKey hk (k := .int .i64 k) rfl, run_findKey hk h1, Result.andThen, run_setObj_map _ hb]
    · refine ⟨_, _, (heap_set hb).1, stamped_erase hs j, ?_⟩
      have hlt : j < es.size := by
        have h3 := congrArg List.length hl
        have h4 := (List.getElem?_eq_some_iff.1 h2).1
        simp at h3
        omega
      rw [del_at ho h2, Array.eraseIdxIfInBounds, dif_pos hlt, Array.toList_eraseIdx, ← map_eraseIdx', hl, map_eraseIdx']
theorem run_len (h : IMap w b l) (ht : P.underlying t = some (.map kt et)) (ty : TypeId) : (Go.Builtin.len_ #[t] ty #[.map (some b)]).run P w = .ok (.int .i64 (l.length : Int)) w := by
  obtain ⟨es, clock, hb, hs, hl⟩ := h
  have h3 := congrArg List.length hl
  simp at h3
  simp [Go.Builtin.len_, run_underlying ht, MapKept.run_getObj_map hb, Result.andThen, goInt, h3]
end
section
variable {P : Program} {w : World} {b : Nat} {l : List (Int × Value)} {ops : Array Oper} {rest : List Oper} {o : Oper} {a : Act} {Q : Exit → Act → World → Prop}
theorem wp_lookup (h : IMap w b l) (hg : o.guard = none) (m x : Operand) (t kt et : TypeId) (ok : Bool) (hop : o.op = Op.lookup t m x ok)
    (ht : P.underlying t = some (.map kt et)) (hk : P.underlying kt = some (.int .i64)) (z : Value) (hz : (zeroValue et).run P w = .ok z w)
    (hm : a.eval m = .map (some b)) (k : Int) (hx : a.eval x = .int .i64 k)
    (hK : wpList P ops Q rest (a.put o.dst (if ok then .tuple #[(at_ l k).getD z, .bool (at_ l k).isSome] else (at_ l k).getD z)) w) :
    wpList P ops Q (o :: rest) a w := by
  refine wpList_plain hg fun K' hK' => ?_
  unfold Oper.wp
  simp [execOp, hop, hm, hx, run_lookup h ht hk k hz ok, Result.andThen]
  exact hK' _ _ hK
theorem wp_lookup_ok_some (h : IMap w b l) (hg : o.guard = none) (m x : Operand) (t kt et : TypeId) (hop : o.op = Op.lookup t m x true)
    (ht : P.underlying t = some (.map kt et)) (hk : P.underlying kt = some (.int .i64)) (z : Value) (hz : (zeroValue et).run P w = .ok z w)
    (hm : a.eval m = .map (some b)) (k : Int) (hx : a.eval x = .int .i64 k) (v : Value) (hat : at_ l k = some v)
    (hK : wpList P ops Q rest (a.put o.dst (.tuple #[v, .bool true])) w) : wpList P ops Q (o :: rest) a w := wp_lookup h hg m x t kt et true hop ht hk z hz hm k hx (by simpa [hat] using hK)
theorem wp_lookup_ok_none (h : IMap w b l) (hg : o.guard = none) (m x : Operand) (t kt et : TypeId) (hop : o.op = Op.lookup t m x true)
    (ht : P.underlying t = some (.map kt et)) (hk : P.underlying kt = some (.int .i64)) (z : Value) (hz : (zeroValue et).run P w = .ok z w)
    (hm : a.eval m = .map (some b)) (k : Int) (hx : a.eval x = .int .i64 k) (hat : at_ l k = none)
    (hK : wpList P ops Q rest (a.put o.dst (.tuple #[z, .bool false])) w) : wpList P ops Q (o :: rest) a w := wp_lookup h hg m x t kt et true hop ht hk z hz hm k hx (by simpa [hat] using hK)
theorem wp_lookup_some (h : IMap w b l) (hg : o.guard = none) (m x : Operand) (t kt et : TypeId) (hop : o.op = Op.lookup t m x false)
    (ht : P.underlying t = some (.map kt et)) (hk : P.underlying kt = some (.int .i64)) (z : Value) (hz : (zeroValue et).run P w = .ok z w)
    (hm : a.eval m = .map (some b)) (k : Int) (hx : a.eval x = .int .i64 k) (v : Value) (hat : at_ l k = some v)
    (hK : wpList P ops Q rest (a.put o.dst (v)) w) : wpList P ops Q (o :: rest) a w := wp_lookup h hg m x t kt et false hop ht hk z hz hm k hx (by simpa [hat] using hK)
theorem wp_lookup_none (h : IMap w b l) (hg : o.guard = none) (m x : Operand) (t kt et : TypeId) (hop : o.op = Op.lookup t m x false)
    (ht : P.underlying t = some (.map kt et)) (hk : P.underlying kt = some (.int .i64)) (z : Value) (hz : (zeroValue et).run P w = .ok z w)
    (hm : a.eval m = .map (some b)) (k : Int) (hx : a.eval x = .int .i64 k) (hat : at_ l k = none)
    (hK : wpList P ops Q rest (a.put o.dst (z)) w) : wpList P ops Q (o :: rest) a w := wp_lookup h hg m x t kt et false hop ht hk z hz hm k hx (by simpa [hat] using hK)
theorem wp_update (h : IMap w b l) (hg : o.guard = none) (m x y : Operand) (t kt et : TypeId) (hop : o.op = Op.mapUpdate t m x y)
    (ht : P.underlying t = some (.map kt et)) (hk : P.underlying kt = some (.int .i64))
    (hm : a.eval m = .map (some b)) (k : Int) (hx : a.eval x = .int .i64 k) (v : Value) (hy : a.eval y = v)
    (hK : ∀ w', IMap w' b (put_ l k v) → Turns [b] w w' → wpList P ops Q rest (a.put o.dst undef) w') :
    wpList P ops Q (o :: rest) a w := by
  refine wpList_plain hg fun K' hK' => ?_
  obtain ⟨w', hrun, r1, r2⟩ := run_update h ht hk k v
  unfold Oper.wp
  simp [execOp, hop, hm, hx, hy, hrun, Result.andThen]
  exact hK' _ _ (hK w' r1 r2)
theorem wp_delete (h : IMap w b l) (hg : o.guard = none) (m x : Operand) (t kt et tt : TypeId) (hop : o.op = Op.call { callee := Callee.builtin Builtin.delete, args := #[m, x], argTypes := #[t, tt] })
    (ht : P.underlying t = some (.map kt et)) (hk : P.underlying kt = some (.int .i64))
    (hm : a.eval m = .map (some b)) (k : Int) (hx : a.eval x = .int .i64 k)
    (hK : ∀ w', IMap w' b (del_ l k) → Turns [b] w w' → wpList P ops Q rest (a.put o.dst (.tuple #[])) w') :
    wpList P ops Q (o :: rest) a w := by
  refine wpList_plain hg fun K' hK' => ?_
  obtain ⟨w', hrun, r1, r2⟩ := run_delete h ht hk k tt o.type
  unfold Oper.wp
  simp [execOp, hop, resolve, invoke, builtin, hm, hx, hrun, Result.andThen]
  exact hK' _ _ (hK w' r1 r2)
theorem wp_len (h : IMap w b l) (hg : o.guard = none) (m : Operand) (t kt et : TypeId) (hop : o.op = Op.call { callee := Callee.builtin Builtin.len, args := #[m], argTypes := #[t] })
    (ht : P.underlying t = some (.map kt et)) (hm : a.eval m = .map (some b))
    (hK : wpList P ops Q rest (a.put o.dst (.int .i64 (l.length : Int))) w) :
    wpList P ops Q (o :: rest) a w := by
  refine wpList_plain hg fun K' hK' => ?_
  unfold Oper.wp
  simp [execOp, hop, resolve, invoke, builtin, hm, run_len h ht o.type, Result.andThen]
  exact hK' _ _ hK
end
end Go.Proofs.Ytphhfdlhkginkaa.Hm
end
section
/- Words of this work: slices: read ones and own ones, their elements as rows of cells; append, make, copy. No program in sight. -/
set_option linter.unusedVariables false
set_option linter.unusedSimpArgs false
namespace Go.Proofs.Ytphhfdlhkginkaa.Hs
open Go.RowKit Hm

/-- A slice that reads as rows of sz cells. -/
def RdS (sz : Nat) (w : World) (v : Value) (rows : List (List Value)) : Prop :=
  ∃ A c, v = .slice A rows.length c ∧ rows.length ≤ c ∧ c ≤ 9223372036854775807 ∧ (A = none → c = 0) ∧ FlatRow w A sz rows ∧ ∀ r ∈ rows, r.length = sz
/-- A slice of the call's own: it lies at its block's head, and may be appended to. -/
def OwnS (e : TypeId) (sz : Nat) (w : World) (v : Value) (rows : List (List Value)) : Prop :=
  w.ownsRow 0 e sz v rows.length rows.flatten ∧ ∀ r ∈ rows, r.length = sz
theorem flatten_len {sz : Nat} : ∀ {rows : List (List Value)}, (∀ r ∈ rows, r.length = sz) → rows.flatten.length = rows.length * sz
  | [], _ => by simp
  | r :: rs, h => by
    rw [List.flatten_cons, List.length_append, h r (by simp), flatten_len (fun x hx => h x (by simp [hx])), List.length_cons, Nat.succ_mul, Nat.add_comm]
theorem flatten_at {sz : Nat} : ∀ {rows : List (List Value)}, (∀ r ∈ rows, r.length = sz) → ∀ {j : Nat} {r : List Value}, rows[j]? = some r → ∀ {i : Nat} {u : Value}, r[i]? = some u → rows.flatten[j * sz + i]? = some u
  | [], _, j, r, hj, _, _, _ => by simp at hj
  | q :: rs, h, 0, r, hj, i, u, hu => by
    simp only [List.getElem?_cons_zero, Option.some.injEq] at hj
    subst hj
    have hi := (List.getElem?_eq_some_iff.1 hu).1
    rw [List.flatten_cons, Nat.zero_mul, Nat.zero_add, List.getElem?_append_left hi]
    exact hu
  | q :: rs, h, j + 1, r, hj, i, u, hu => by
    have hq := h q (by simp)
    have hj' : rs[j]? = some r := by simpa using hj
    rw [List.flatten_cons, List.getElem?_append_right (by rw [hq, Nat.succ_mul]; omega), hq, Nat.succ_mul, show j * sz + sz + i - sz = j * sz + i from by omega]
    exact flatten_at (fun x hx => h x (by simp [hx])) hj' hu
section
variable {e : TypeId} {sz : Nat} {w w' : World} {v : Value} {rows : List (List Value)}
theorem RdS.mv (h : RdS sz w v rows) (hm : ∀ a u, w.cell? a = some u → w'.cell? a = some u) : RdS sz w' v rows := by
  obtain ⟨A, c, hv, hc, hm2, hn, hf, hl⟩ := h
  refine ⟨A, c, hv, hc, hm2, hn, ⟨hf.1, fun hp => ?_⟩, hl⟩
  obtain ⟨ad, e, hh⟩ := hf.2 hp
  exact ⟨ad, e, fun j r hj => ⟨(hh j r hj).1, fun i u hu => hm _ _ ((hh j r hj).2 i u hu)⟩⟩
theorem RdS.nil (sz : Nat) (w : World) : RdS sz w (.slice none 0 0) [] := ⟨none, 0, rfl, Nat.le_refl _, by omega, fun _ => rfl, ⟨by simp, by simp⟩, by simp⟩
theorem OwnS.nil (e : TypeId) (sz : Nat) (w : World) : OwnS e sz w (.slice none 0 0) [] := ⟨⟨by simp, .inl ⟨rfl, rfl⟩⟩, by simp⟩
theorem OwnS.move (h : OwnS e sz w v rows) (hm : ∀ k, v.ownBlock = some k → w'.heap[k]? = w.heap[k]?) : OwnS e sz w' v rows := by
  obtain ⟨⟨h1, h2⟩, h3⟩ := h
  refine ⟨⟨h1, ?_⟩, h3⟩
  rcases h2 with h2 | ⟨g, cap, cur, rfl, hg, hh, r⟩
  · exact .inl h2
  · exact .inr ⟨g, cap, cur, rfl, hg, (hm g (by simp [Value.ownBlock])).trans hh, r⟩
theorem OwnS.lt (h : OwnS e sz w v rows) {k : Nat} (hk : v.ownBlock = some k) : k < w.heap.size := by
  rcases h.1.2 with ⟨rfl, _⟩ | ⟨g, cap, cur, rfl, hb, hh, _⟩
  · simp [Value.ownBlock] at hk
  · have : g = k := by simpa [Value.ownBlock] using hk
    subst this
    exact (Array.getElem?_eq_some_iff.1 hh).1
theorem OwnS.turns {F : List Nat} (h : OwnS e sz w v rows) (t : Turns F w w') (hF : ∀ k, v.ownBlock = some k → k ∉ F) : OwnS e sz w' v rows :=
  h.move fun k hk => t.block k (h.lt hk) (hF k hk)
theorem OwnS.alloc (h : OwnS e sz w v rows) (o : Obj) : OwnS e sz (w.alloc o) v rows := h.turns (F := []) ((Turns.refl _ _).alloc o) (by simp)
theorem OwnS.typed (h : OwnS e sz w v rows) {k : Nat} (hk : v.ownBlock = some k) : ∃ cells, w.heap[k]? = some (.cells cells e (0, 0)) := by
  rcases h.1.2 with ⟨rfl, _⟩ | ⟨g, cap, cur, rfl, hg, hh, r⟩
  · simp [Value.ownBlock] at hk
  · have : g = k := by simpa [Value.ownBlock] using hk
    subst this
    exact ⟨cur, hh⟩
theorem OwnS.ne_blk (h : OwnS e sz w v rows) {k b : Nat} {cs : Array Value} {t : TypeId} (hk : v.ownBlock = some k) (hb : Blk w b cs t) (ht : e ≠ t) : k ≠ b := by
  rintro rfl
  obtain ⟨cells, hc⟩ := h.typed hk
  unfold Blk at hb
  rw [hb] at hc
  injection hc with hc
  injection hc with _ hc
  exact ht hc.symm
theorem OwnS.form (h : OwnS e sz w v rows) : ∃ A c, v = .slice A rows.length c ∧ rows.length ≤ c ∧ c ≤ 9223372036854775807 ∧ (A = none → c = 0) := by
  rcases h.1.2 with ⟨rfl, h0⟩ | ⟨g, cap, cur, rfl, hg, hh, hl, hm, _⟩
  · exact ⟨none, 0, by rw [h0], by omega, by omega, fun _ => rfl⟩
  · unfold maxLen at hm
    exact ⟨some ⟨g, 0, none⟩, cap, rfl, hl, by omega, by simp⟩
theorem OwnS.reads (h : OwnS e sz w v rows) : RdS sz w v rows := by
  obtain ⟨⟨h1, h2⟩, h3⟩ := h
  rcases h2 with ⟨rfl, h0⟩ | ⟨g, cap, cur, rfl, hg, hh, hl, hm, hs, ht⟩
  · obtain rfl : rows = [] := List.eq_nil_of_length_eq_zero h0
    exact RdS.nil sz w
  · unfold maxLen at hm
    refine ⟨some ⟨g, 0, none⟩, cap, rfl, hl, by omega, by simp, ⟨by omega, fun _ => ⟨_, rfl, fun j r hj => ⟨h3 r (List.mem_of_getElem? hj), fun i u hu => ?_⟩⟩⟩, h3⟩
    have := flatten_at h3 hj hu
    rw [← ht] at this
    rw [add_zero_]
    simp only [World.cell?, hh, Option.isSome_none, Bool.false_eq_true, if_false]
    have hlt : j * sz + i < rows.length * sz := by
      rw [List.getElem?_take] at this
      split at this
      · assumption
      · cases this
    rw [List.getElem?_take_of_lt hlt] at this
    simpa using this
/-- A read slice's cells, at an index. -/
theorem RdS.at_ (h : RdS sz w v rows) {j : Nat} {r : List Value} (hj : rows[j]? = some r) : ∃ ad c, v = .slice (some ad) rows.length c ∧ r.length = sz ∧ ∀ i u, r[i]? = some u → w.cell? (ad.add (j * sz + i)) = some u := by
  obtain ⟨A, c, hv, hc, hm2, hn, hf, hl⟩ := h
  obtain ⟨ad, rfl, h1, h2⟩ := hf.at_ hj
  exact ⟨ad, c, hv, h1, h2⟩
theorem RdS.form (h : RdS sz w v rows) : ∃ A c, v = .slice A rows.length c ∧ rows.length ≤ c ∧ c ≤ 9223372036854775807 := by
  obtain ⟨A, c, hv, hc, hm2, _⟩ := h
  exact ⟨A, c, hv, hc, hm2⟩
/-- the cells of all rows -/
theorem RdS.cells (h : RdS sz w v rows) (hsz : 0 < sz) : ∀ ad n c, v = .slice (some ad) n c → ∀ j u, rows.flatten[j]? = some u → w.cell? (ad.add j) = some u := by
  obtain ⟨A, c0, hv, hc, hm2, hn, hf, hl⟩ := h
  intro ad n c hv2 j u hu
  rw [hv] at hv2
  injection hv2 with e1 e2 e3
  subst e1
  have hj : j < rows.flatten.length := (List.getElem?_eq_some_iff.1 hu).1
  rw [flatten_len hl] at hj
  have hq : j / sz < rows.length := Nat.div_lt_of_lt_mul (by rwa [Nat.mul_comm] at hj)
  obtain ⟨ad', e, hh⟩ := hf.2 (Nat.lt_of_le_of_lt (Nat.zero_le _) hq)
  injection e with e
  subst e
  have hr : rows[j / sz]? = some rows[j / sz] := List.getElem?_eq_getElem hq
  have hri := hl _ (List.mem_of_getElem? hr)
  have hmod : j % sz < (rows[j / sz]).length := by rw [hri]; exact Nat.mod_lt _ hsz
  have hu2 : (rows[j / sz])[j % sz]? = some (rows[j / sz])[j % sz] := List.getElem?_eq_getElem hmod
  have h1 := flatten_at hl hr hu2
  have h2 := (hh _ _ hr).2 _ _ hu2
  rw [Nat.mul_comm, Nat.div_add_mod] at h1 h2
  rw [hu] at h1
  injection h1 with h1
  rw [h1]
  exact h2
end
section
variable {P : Program} {w : World} {ops : Array Oper} {rest : List Oper} {o : Oper} {a : Act} {Q : Exit → Act → World → Prop}
/-- append(s, x...): s own, x read (nil, or own, or whatever). -/
theorem wp_append {e : TypeId} {sz : Nat} {v sv : Value} {rows news : List (List Value)} (hown : OwnS e sz w v rows) (hsrc : RdS sz w sv news) (hgd : o.guard = none) (s x : Operand) (t : TypeId)
    (ho : o.op = .call { callee := .builtin .append, args := #[s, x], argTypes := #[t, t] }) (z : Value) (bytes : Nat) (ht : P.underlying t = some (.slice e))
    (hinfo : (P.info? e).map (fun i => (i.zero, i.size, i.bytes)) = some (some z, sz, bytes)) (hz : z.cells.size = sz) (hs0 : 0 < sz) (hs : a.eval s = v) (hx : a.eval x = sv)
    (h1 : ∀ r ∈ news, ∀ u ∈ r, u.oneCell' = true) (hl : (rows.length + news.length) * bytes ≤ 140737488355328) (hl2 : rows.length + news.length ≤ 140737488355328)
    (h : ∀ v' w', OwnS e sz w' v' (rows ++ news) → Turns v.ownBlock.toList w w' → (v'.ownBlock = v.ownBlock ∨ v'.ownBlock = some w.heap.size) → (v' = .slice none 0 0 ↔ v = .slice none 0 0 ∧ news = []) → wpList P ops Q rest (a.put o.dst v') w') :
    wpList P ops Q (o :: rest) a w := by
  obtain ⟨i0, hi, hzz⟩ := Option.map_eq_some_iff.1 hinfo
  simp only [Prod.mk.injEq] at hzz
  obtain ⟨hz0, hz1, hz2⟩ := hzz
  have hsrc0 := hsrc
  obtain ⟨A, c, rfl, hc, hm2, hn, hf, hln⟩ := hsrc
  have tg : ∀ w', w.grownBy w' v.ownBlock → Turns v.ownBlock.toList w w' := fun w' g => ⟨g.os, g.tape, g.output, g.size, fun k hk hF => g.block k hk (fun e => hF (by rw [← e]; simp))⟩
  cases A with
  | none =>
    obtain rfl := hn rfl
    have h0 : news = [] := List.eq_nil_of_length_eq_zero (by omega)
    subst h0
    refine wpList_append_own_none hgd s x t ho 0 e i0 sz ht hi v rows.length rows.flatten hs hown.1 hx ?_
    exact h v w (by simpa using hown) (Turns.refl _ _) (.inl rfl) (by simp)
  | some ad =>
    refine wpList_append_own_at w hgd s x t ho 0 e i0 z sz bytes ht hi hz0 hz1 hz2 hz hs0 v rows.length rows.flatten hs hown.1 ad news.length c news.flatten hx (flatten_len hln) (hsrc0.cells hs0 ad _ c rfl) (fun u hu => by
      obtain ⟨r, hr, hur⟩ := List.mem_flatten.1 hu
      exact h1 r hr u hur) (by unfold maxLen; omega) hl (Nat.zero_le _) ?_
    intro v' w' hown' hg hnil hloc
    refine h v' w' ⟨by rw [List.length_append, List.flatten_append]; exact hown', fun r hr => ?_⟩ (tg w' hg) hloc (by rw [hnil, List.length_eq_zero_iff])
    rcases List.mem_append.1 hr with hr | hr
    · exact hown.2 r hr
    · exact hln r hr
theorem rep_flat (z : Value) : ∀ n : Nat, (List.replicate n [z]).flatten = List.replicate n z
  | 0 => rfl
  | n + 1 => by rw [List.replicate_succ, List.flatten_cons, rep_flat z n, List.replicate_succ]; rfl
theorem drop_flat : ∀ (rows : List (List Value)) (k : Nat), (∀ r ∈ rows, r.length = 1) → (rows.drop k).flatten = rows.flatten.drop k
  | [], k, _ => by simp
  | r :: rs, 0, _ => by simp
  | r :: rs, k + 1, h => by
    have hr := h r (by simp)
    rw [List.drop_succ_cons, drop_flat rs k (fun x hx => h x (by simp [hx])), List.flatten_cons]
    match r, hr with
    | [x], _ => rfl
/-- make([]T, n), T of one cell. -/
theorem wp_make {e : TypeId} (hgd : o.guard = none) (l c : Operand) (t : TypeId) (hop : o.op = Op.makeSlice t l c) (z : Value) (bytes : Nat) (ht : P.underlying t = some (.slice e))
    (hinfo : (P.info? e).map (fun i => (i.zero, i.size, i.bytes)) = some (some z, 1, bytes)) (hz : z.cells = #[z]) (kl kc : IntKind) (L C : Int) (n : Nat) (hl : a.eval l = .int kl L) (hc : a.eval c = .int kc C) (hL : L = (n : Int)) (hC : C = (n : Int))
    (hb : bytes * n ≤ 281474976710656) (hn : n ≤ 281474976710656)
    (h : ∀ w', OwnS e 1 w' (.slice (some ⟨w.heap.size, 0, none⟩) n n) (List.replicate n [z]) → Turns [] w w' → wpList P ops Q rest (a.put o.dst (.slice (some ⟨w.heap.size, 0, none⟩) n n)) w') :
    wpList P ops Q (o :: rest) a w := by
  obtain ⟨i0, hi, hzz⟩ := Option.map_eq_some_iff.1 hinfo
  simp only [Prod.mk.injEq] at hzz
  obtain ⟨hz0, hz1, hz2⟩ := hzz
  refine wpList_make_full w hgd l c t hop 0 e i0 z 1 ht hi hz0 hz1 kl kc L C n hl hc hL hC (by rw [hz2]; exact hb) (by unfold maxLen; omega) (Nat.zero_le _) ?_
  intro w' ho hg
  refine h w' ⟨?_, fun r hr => by rw [List.eq_of_mem_replicate hr]; rfl⟩ ⟨hg.os, hg.tape, hg.output, hg.size, fun k hk _ => hg.block k hk (by simp)⟩
  have e : (List.replicate n [z]).flatten = (madeCells z.cells (n * 1)).toList := by rw [hz, Nat.mul_one, toList_madeCells_one, rep_flat]
  rw [e, List.length_replicate]
  exact ho
theorem goInt_nat (n : Nat) : goInt n = .int .i64 (n : Int) := rfl
theorem setRow_turns (w : World) (g : Nat) (cs : Array Value) : Turns [g] w (w.setRow g cs) :=
  ⟨rfl, rfl, rfl, by simp [World.setRow], fun k _ hF => setRow_other w g k cs (by simpa using hF)⟩
/-- copy(dst, src), elements of one cell. -/
theorem wp_copy {e : TypeId} {v sv : Value} {rows news : List (List Value)} (hown : OwnS e 1 w v rows) (hsrc : RdS 1 w sv news) (hgd : o.guard = none) (d s : Operand) (dT sT : TypeId)
    (ho : o.op = .call { callee := .builtin .copy, args := #[d, s], argTypes := #[dT, sT] }) (hu : P.underlying dT = some (.slice e)) (hsz : (P.info? e).map (·.size) = some 1) (hd : a.eval d = v) (hs : a.eval s = sv)
    (h1 : ∀ r ∈ news, ∀ u ∈ r, u.oneCell' = true) (k : Nat) (hk : k = min news.length rows.length)
    (h : ∀ w', OwnS e 1 w' v (news.take k ++ rows.drop k) → Turns v.ownBlock.toList w w' → wpList P ops Q rest (a.put o.dst (.int .i64 k)) w') :
    wpList P ops Q (o :: rest) a w := by
  obtain ⟨A, c, hv, _⟩ := hown.form
  obtain ⟨A', c', hsv, _⟩ := hsrc.form
  by_cases h0 : k = 0
  · subst h0
    refine wpList_copy_nothing hgd d s dT sT ho e hu hsz A A' rows.length c news.length c' (by rw [hd, hv]) (by rw [hs, hsv]) (by show min _ _ = 0; omega) ?_
    exact h w (by simpa using hown) (Turns.refl _ _)
  · rcases hown.1.2 with ⟨rfl, hz⟩ | ⟨g, cap, cur, hv2, hg, hh, hl, hm, hsize, htake⟩
    · omega
    · have hsrc0 := hsrc
      obtain ⟨A2, c2, hsv2, _, _, _, hf, hln⟩ := hsrc
      obtain ⟨ad, hA, _⟩ := hf.2 (by omega)
      subst hA
      have hcl : (news.take k).flatten.length = k := by
        rw [flatten_len (sz := 1) (fun r hr => hln r (List.mem_of_mem_take hr)), List.length_take]; omega
      refine wpList_copy_own hgd d s dT sT ho e hu hsz g 0 rows.length cap ad news.length c2 (by rw [hd, hv2]) (by rw [hs, hsv2]) cur e hh (news.take k).flatten (by rw [hcl, hk]) (fun j u hj => ?_) (by rw [hcl, hsize]; omega) (fun u hu2 => ?_) ?_
      · refine hsrc0.cells (by decide) ad _ c2 hsv2 j u ?_
        have hp : (news.take k).flatten <+: news.flatten := by
          conv => rhs; rw [← List.take_append_drop k news, List.flatten_append]
          exact List.prefix_append _ _
        obtain ⟨t, ht⟩ := hp
        rw [← ht, List.getElem?_append_left (List.getElem?_eq_some_iff.1 hj).1]
        exact hj
      · obtain ⟨r, hr, hur⟩ := List.mem_flatten.1 hu2
        exact h1 r (List.mem_of_mem_take hr) u hur
      · rw [hcl]
        have hlen : (news.take k ++ rows.drop k).length = rows.length := by
          rw [List.length_append, List.length_take, List.length_drop]; omega
        refine h _ ⟨⟨?_, .inr ⟨g, cap, _, by rw [hlen]; exact hv2, hg, setRow_heap w g cur _ e (0, 0) hh, by rw [hlen]; exact hl, hm, ?_, ?_⟩⟩, fun r hr => ?_⟩ ((setRow_turns w g _).mono (by rw [hv2]; simp [Value.ownBlock]))
        · refine flatten_len (sz := 1) (fun r hr => ?_)
          rcases List.mem_append.1 hr with hr | hr
          · exact hln r (List.mem_of_mem_take hr)
          · exact hown.2 r (List.mem_of_mem_drop hr)
        · simp only [List.take_zero, List.nil_append, Nat.zero_add, List.size_toArray, List.length_append, hcl, List.length_drop, Array.length_toList, hsize]
          omega
        · have e1 := drop_flat rows k hown.2
          rw [List.flatten_append, e1, hlen, ← htake]
          simp only [List.take_zero, List.nil_append, Nat.zero_add, Nat.mul_one, hcl]
          have hk2 : k ≤ rows.length := by omega
          rw [List.take_append, hcl, List.take_of_length_le (by omega), List.drop_take]
        · rcases List.mem_append.1 hr with hr | hr
          · exact hln r (List.mem_of_mem_take hr)
          · exact hown.2 r (List.mem_of_mem_drop hr)
end
/-- bytes as rows -/
def bys (l : List Int) : List (List Value) := l.map fun x => [.int .u8 x]
def ins (l : List Int) : List (List Value) := l.map fun x => [.int .i64 x]
@[simp] theorem bys_len (l : List Int) : (bys l).length = l.length := by simp [bys]
@[simp] theorem ins_len (l : List Int) : (ins l).length = l.length := by simp [ins]
theorem bys_append (l m : List Int) : bys (l ++ m) = bys l ++ bys m := by simp [bys]
theorem ins_append (l m : List Int) : ins (l ++ m) = ins l ++ ins m := by simp [ins]
theorem bys_one (l : List Int) : ∀ r ∈ bys l, ∀ u ∈ r, u.oneCell' = true := by
  intro r hr u hu
  obtain ⟨x, _, rfl⟩ := List.mem_map.1 hr
  simp at hu; subst hu; rfl
theorem ins_one (l : List Int) : ∀ r ∈ ins l, ∀ u ∈ r, u.oneCell' = true := by
  intro r hr u hu
  obtain ⟨x, _, rfl⟩ := List.mem_map.1 hr
  simp at hu; subst hu; rfl
theorem bys_flat (l : List Int) : (bys l).flatten = l.map (Value.int .u8) := by induction l <;> simp_all [bys]
theorem ins_flat (l : List Int) : (ins l).flatten = l.map (Value.int .i64) := by induction l <;> simp_all [ins]
end Go.Proofs.Ytphhfdlhkginkaa.Hs
end
section
/- Words of this work: results that lie in memory (a struct's named result), alone or beside others. No program in sight. -/
set_option linter.unusedVariables false
set_option linter.unusedSimpArgs false
namespace Go.Proofs.Ytphhfdlhkginkaa.Hv
open Go.RowKit Hm Hs
inductive Res (P : Program) (tmps : Array Value) (w : World) : List ResultVar → List Value → Prop where
  | nil : Res P tmps w [] []
  | tmp {u : Tmp} {rs : List ResultVar} {vs : List Value} (h : Res P tmps w rs vs) : Res P tmps w (.tmp u :: rs) (tmps.getD u undef :: vs)
  | cell {p : Tmp} {ty : TypeId} {rs : List ResultVar} {vs : List Value} (g : Nat) (t : TypeId) (cs : Array Value) (d : TypeDesc)
      (hp : tmps.getD p undef = .pointer (some ⟨g, 0, none⟩)) (hg : Blk w g cs t)
      (hu : P.underlying ty = some d) (hd : (match d with | .struct _ | .array _ _ => true | _ => false) = true) (hi : (P.info? ty).map (·.size) = some cs.size)
      (h : Res P tmps w rs vs) : Res P tmps w (.cell p ty :: rs) (.agg cs :: vs)
section
variable {P : Program} {tmps : Array Value} {w : World}
theorem res_run {rs : List ResultVar} {vs : List Value} (hv : Res P tmps w rs vs) (f : ResultVar → Sem Value) (hf : ∀ u, f (.tmp u) = pure (tmps.getD u undef)) (hc : ∀ a t, f (.cell a t) = (do loadVar t (← asAddr (tmps.getD a undef)))) :
    (rs.mapM f).run P w = .ok vs w := by
  induction hv with
  | nil => simp
  | tmp h ih => simp [List.mapM_cons, hf, ih]
  | cell g t cs d hp hg hu hd hi h ih =>
    rw [List.mapM_cons, hc, hp]
    simp [asAddr, run_loadVar_row w g t _ cs (0, 0) d hg hu hd hi, ih]
/-- two results or more, or none -/
theorem res_list {fn : Func} {rs : List ResultVar} {vs : List Value} (h : fn.results = rs.toArray) (hl : vs.length ≠ 1) (hv : Res P tmps w rs vs) : (results fn tmps).run P w = .ok (.tuple vs.toArray) w := by
  unfold results
  rw [h, List.mapM_toArray]
  simp only [Sem.run_bind, Sem.run_map]
  rw [res_run hv]
  · simp [hl]
  · intro u; rfl
  · intro a t; rfl
theorem res_one {fn : Func} {r : ResultVar} {v : Value} (h : fn.results = #[r]) (hv : Res P tmps w [r] [v]) : (results fn tmps).run P w = .ok v w := by
  unfold results
  rw [show fn.results = [r].toArray from h, List.mapM_toArray]
  simp only [Sem.run_bind, Sem.run_map]
  rw [res_run hv]
  · simp
  · intro u; rfl
  · intro a t; rfl
end
/-- a block's cells, read as a slice of rows -/
theorem RdS.of_cells {w : World} {b sz : Nat} {rows : List (List Value)} {t : TypeId} {cs : Array Value} {fr : Nat × Nat} (h : w.heap[b]? = some (.cells cs t fr)) (hx : cs.toList = rows.flatten) (hl : ∀ r ∈ rows, r.length = sz)
    (c : Nat) (hc : rows.length ≤ c) (hm : c ≤ 9223372036854775807) : RdS sz w (.slice (some ⟨b, 0, Option.none⟩) rows.length c) rows :=
  ⟨some ⟨b, 0, Option.none⟩, c, rfl, hc, hm, by simp, ⟨by omega, fun _ => ⟨_, rfl, fun j r hj => ⟨hl r (List.mem_of_getElem? hj), fun i u hu => by
    rw [add_zero_]
    simp only [World.cell?, h, Option.isSome_none, Bool.false_eq_true, if_false]
    rw [← Array.getElem?_toList, hx]
    exact flatten_at hl hj hu⟩⟩⟩, hl⟩
end Go.Proofs.Ytphhfdlhkginkaa.Hv
end
section
/- Words of this work: several things in memory, apart from each other: each is some blocks, and what holds of them. No program in sight. -/
set_option linter.unusedVariables false
set_option linter.unusedSimpArgs false
namespace Go.Proofs.Ytphhfdlhkginkaa.Hx
open Go.RowKit Hm Hs
/-- A thing: its blocks, and what is said of a world; it stays, if its blocks do. -/
structure Th where
  fp : List Nat
  ok : World → Prop
  lt : ∀ {w : World}, ok w → ∀ k ∈ fp, k < w.heap.size
  mv : ∀ {w w' : World}, ok w → (∀ k ∈ fp, w'.heap[k]? = w.heap[k]?) → ok w'
theorem one_lt {b : Nat} {w : World} (h : b < w.heap.size) : ∀ k ∈ [b], k < w.heap.size := fun k hk => by rw [List.mem_singleton.1 hk]; exact h
/-- a block of cells -/
def tBlk (b : Nat) (cs : Array Value) (t : TypeId) : Th := ⟨[b], fun w => Blk w b cs t, fun h => one_lt h.lt, fun h hm => h.move (hm b (by simp))⟩
/-- a slice of one's own -/
def tOwn (e : TypeId) (sz : Nat) (v : Value) (rows : List (List Value)) : Th := ⟨v.ownBlock.toList, fun w => OwnS e sz w v rows, fun h k hk => h.lt (by simpa using hk), fun h hm => h.move (fun k hk => hm k (by simpa using hk))⟩
/-- a map keyed by int64 -/
def tMap (b : Nat) (l : List (Int × Value)) : Th := ⟨[b], fun w => IMap w b l, fun h => one_lt h.lt, fun h hm => h.move (hm b (by simp))⟩
theorem erase_perm {α : Type} : ∀ {l : List α} {i : Nat} (h : i < l.length), (l[i] :: l.eraseIdx i).Perm l
  | x :: l, 0, _ => List.Perm.refl _
  | x :: l, i + 1, h => by
    have h' : i < l.length := by simpa using h
    simp only [List.getElem_cons_succ, List.eraseIdx_cons_succ]
    exact (List.Perm.swap _ _ _).trans ((erase_perm h').cons x)
def fps (l : List Th) : List Nat := l.flatMap Th.fp
theorem fps_append (a b : List Th) : fps (a ++ b) = fps a ++ fps b := List.flatMap_append
theorem fps_cons (a : Th) (b : List Th) : fps (a :: b) = a.fp ++ fps b := rfl
theorem mem_fps {l : List Th} {k : Nat} : k ∈ fps l ↔ ∃ T ∈ l, k ∈ T.fp := List.mem_flatMap
/-- Two things share no block. -/
def Apart (A B : Th) : Prop := ∀ k ∈ A.fp, k ∉ B.fp
theorem Apart.symm {A B : Th} (h : Apart A B) : Apart B A := fun k hk hk2 => h k hk2 hk
/-- Since w0 only blocks of F have turned, of those that were; the things hold, are apart, and lie in F or in new blocks. -/
structure Sep (F : List Nat) (w0 : World) (l : List Th) (w : World) : Prop where
  t : Turns F w0 w
  ok : ∀ T ∈ l, T.ok w
  ap : l.Pairwise Apart
  mine : ∀ k ∈ fps l, k ∈ F ∨ w0.heap.size ≤ k
/-- The things hold, and are apart. -/
def Got (l : List Th) (w : World) : Prop := Sep (fps l) w l w
section
variable {F : List Nat} {w0 w w' : World} {l l' : List Th}
theorem Sep.start (w : World) : Sep [] w [] w := ⟨Turns.refl _ _, by simp, by simp, by simp [fps]⟩
theorem Got.mk (h : ∀ T ∈ l, T.ok w) (hn : l.Pairwise Apart) : Got l w := ⟨Turns.refl _ _, h, hn, fun k hk => .inl hk⟩
theorem Got.one {T : Th} (h : T.ok w) : Got [T] w := Got.mk (by simpa using h) (by simp)
theorem Got.none (w : World) : Got [] w := Got.mk (by simp) (by simp)
theorem Got.sep (h : Got l w) : Sep (fps l) w l w := h
theorem Sep.perm (h : Sep F w0 l w) (hp : l.Perm l') : Sep F w0 l' w :=
  have hp2 : (fps l).Perm (fps l') := hp.flatMap_right _
  ⟨h.t, fun T hT => h.ok T (hp.mem_iff.2 hT), (hp.pairwise_iff (fun {a b} (h : Apart a b) => h.symm)).1 h.ap, fun k hk => h.mine k (hp2.mem_iff.2 hk)⟩
theorem Sep.at_ (h : Sep F w0 l w) (i : Nat) {T : Th} (hi : l[i]? = some T) : T.ok w := h.ok T (List.mem_of_getElem? hi)
theorem Sep.blk (h : Sep F w0 l w) (i : Nat) {b : Nat} {cs : Array Value} {t : TypeId} (hi : l[i]? = some (tBlk b cs t)) : Blk w b cs t := h.at_ i hi
theorem Sep.own (h : Sep F w0 l w) (i : Nat) {e : TypeId} {sz : Nat} {v : Value} {rows : List (List Value)} (hi : l[i]? = some (tOwn e sz v rows)) : OwnS e sz w v rows := h.at_ i hi
theorem Sep.map (h : Sep F w0 l w) (i : Nat) {b : Nat} {m : List (Int × Value)} (hi : l[i]? = some (tMap b m)) : IMap w b m := h.at_ i hi
theorem Sep.lt (h : Sep F w0 l w) {k : Nat} (hk : k ∈ fps l) : k < w.heap.size := by
  obtain ⟨T, hT, hk⟩ := mem_fps.1 hk
  exact T.lt (h.ok T hT) k hk
/-- nothing of it turned -/
theorem Sep.frame (h : Sep F w0 l w) {G : List Nat} (t : Turns G w w') (hG : ∀ k ∈ fps l, k ∉ G) (hF : ∀ k ∈ G, k ∈ F ∨ w0.heap.size ≤ k) : Sep F w0 l w' :=
  ⟨h.t.then t hF, fun T hT => T.mv (h.ok T hT) (fun k hk => t.block k (T.lt (h.ok T hT) k hk) (hG k (mem_fps.2 ⟨T, hT, hk⟩))), h.ap, h.mine⟩
theorem Sep.turns (h : Sep F w0 l w) (t : Turns [] w w') : Sep F w0 l w' := h.frame t (by simp) (by simp)
theorem Sep.drew (h : Sep F w0 l w) : Sep F w0 l w.drew := h.turns (Turns.refl _ _).drew
theorem Sep.drewN (h : Sep F w0 l w) (n : Nat) : Sep F w0 l (w.drewN n) := h.turns ((Turns.refl _ _).drewN n)
/-- a part of it has become something else -/
theorem Sep.upon {a r a' : List Th} (h : Sep F w0 (a ++ r) w) (k : Sep (fps a) w a' w') : Sep F w0 (a' ++ r) w' := by
  have hap := h.ap
  rw [List.pairwise_append] at hap
  obtain ⟨n1, n2, n3⟩ := hap
  have hA : ∀ i ∈ fps a, i ∈ F ∨ w0.heap.size ≤ i := fun i hi => h.mine i (by rw [fps_append]; exact List.mem_append_left _ hi)
  have n4 : ∀ i ∈ fps a, i ∉ fps r := fun i hi hi2 => by
    obtain ⟨A, hA, hi⟩ := mem_fps.1 hi
    obtain ⟨B, hB, hi2⟩ := mem_fps.1 hi2
    exact n3 A hA B hB i hi hi2
  have hs := h.t.size
  refine ⟨h.t.then k.t hA, ?_, ?_, ?_⟩
  · intro T hT
    rcases List.mem_append.1 hT with hT | hT
    · exact k.ok T hT
    · have h0 := h.ok T (List.mem_append_right _ hT)
      exact T.mv h0 (fun i hi => k.t.block i (T.lt h0 i hi) (fun hi2 => n4 i hi2 (mem_fps.2 ⟨T, hT, hi⟩)))
  · rw [List.pairwise_append]
    refine ⟨k.ap, n2, fun A hA B hB x hx hy => ?_⟩
    rcases k.mine x (mem_fps.2 ⟨A, hA, hx⟩) with h1 | h1
    · exact n4 x h1 (mem_fps.2 ⟨B, hB, hy⟩)
    · have := B.lt (h.ok B (List.mem_append_right _ hB)) x hy
      omega
  · intro i hi
    rw [fps_append] at hi
    rcases List.mem_append.1 hi with hi | hi
    · rcases k.mine i hi with h1 | h1
      · exact hA i h1
      · exact .inr (by omega)
    · exact h.mine i (by rw [fps_append]; exact List.mem_append_right _ hi)
theorem Sep.drop_left {a r : List Th} (h : Sep F w0 (a ++ r) w) : Sep F w0 r w :=
  ⟨h.t, fun T hT => h.ok T (List.mem_append_right _ hT), (List.pairwise_append.1 h.ap).2.1, fun k hk => h.mine k (by rw [fps_append]; exact List.mem_append_right _ hk)⟩
theorem Sep.got_left {a r : List Th} (h : Sep F w0 (a ++ r) w) : Got a w :=
  Got.mk (fun T hT => h.ok T (List.mem_append_left _ hT)) (List.pairwise_append.1 h.ap).1
/-- these, in this order -/
def picks : List Nat → List Th → List Th
  | [], _ => []
  | i :: is, l => match l[i]? with | some x => x :: picks is l | none => picks is l
def restsAux (is : List Nat) : Nat → List Th → List Th
  | _, [] => []
  | k, x :: xs => bif is.contains k then restsAux is (k + 1) xs else x :: restsAux is (k + 1) xs
/-- the others -/
def rests (is : List Nat) (l : List Th) : List Th := restsAux is 0 l
theorem rests_congr {is js : List Nat} : ∀ (l : List Th) (k : Nat), (∀ j, k ≤ j → is.contains j = js.contains j) → restsAux is k l = restsAux js k l
  | [], _, _ => rfl
  | x :: xs, k, h => by
    simp only [restsAux]
    rw [h k (Nat.le_refl _), rests_congr xs (k + 1) (fun j hj => h j (by omega))]
theorem rests_perm {is : List Nat} {i : Nat} (hi : is.contains i = false) : ∀ (l : List Th) (k : Nat) (x : Th), k ≤ i → l[i - k]? = some x → (restsAux is k l).Perm (x :: restsAux (i :: is) k l)
  | [], k, x, _, h => by simp at h
  | y :: ys, k, x, hk, h => by
    by_cases hik : i = k
    · subst hik
      rw [Nat.sub_self] at h
      simp only [List.getElem?_cons_zero, Option.some.injEq] at h
      subst h
      have e1 : (i :: is).contains i = true := by simp
      simp only [restsAux, hi, e1, cond_true, cond_false]
      rw [rests_congr (is := is) (js := i :: is) ys (i + 1) (fun j hj => by
        have : (j == i) = false := by simp; omega
        rw [List.contains_cons, this, Bool.false_or])]
    · have h' : ys[i - (k + 1)]? = some x := by
        rw [show i - k = (i - (k + 1)) + 1 from by omega] at h
        simpa using h
      have ih := rests_perm hi ys (k + 1) x (by omega) h'
      have e1 : (i :: is).contains k = is.contains k := by
        have : (k == i) = false := by simp; omega
        rw [List.contains_cons, this, Bool.false_or]
      simp only [restsAux, e1]
      cases is.contains k with
      | true => simpa using ih
      | false => exact (ih.cons y).trans (List.Perm.swap _ _ _)
theorem rests_nil : ∀ (l : List Th) (k : Nat), restsAux [] k l = l
  | [], _ => rfl
  | x :: xs, k => by simp only [restsAux]; rw [rests_nil xs (k + 1)]; rfl
def okB : List Nat → Nat → Bool
  | [], _ => true
  | i :: is, n => Nat.blt i n && !(is.contains i) && okB is n
theorem split_perm : ∀ (is : List Nat) (l : List Th), okB is l.length = true → (picks is l ++ rests is l).Perm l
  | [], l, _ => by unfold picks rests; rw [rests_nil]; exact List.Perm.refl _
  | i :: is, l, h => by
    simp only [okB, Bool.and_eq_true, Bool.not_eq_true'] at h
    obtain ⟨⟨h1, h2⟩, h3⟩ := h
    have hlt : i < l.length := by simpa [Nat.blt_eq] using h1
    have hx : l[i]? = some l[i] := List.getElem?_eq_getElem hlt
    have e1 : picks (i :: is) l = l[i] :: picks is l := by simp only [picks, hx]
    have hp := rests_perm h2 l 0 l[i] (Nat.zero_le _) (by simp)
    rw [e1, List.cons_append]
    refine List.Perm.trans ?_ (split_perm is l h3)
    refine List.Perm.trans ?_ (List.Perm.append_left (picks is l) hp.symm)
    exact List.perm_middle.symm
theorem Sep.split (h : Sep F w0 l w) (is : List Nat) (hok : okB is l.length = true := by rfl) : Sep F w0 (picks is l ++ rests is l) w := h.perm (split_perm is l hok).symm
/-- these hold, and are apart -/
theorem Sep.got (h : Sep F w0 l w) (is : List Nat) (hok : okB is l.length = true := by rfl) : Got (picks is l) w := (h.split is hok).got_left
/-- these have become others -/
theorem Sep.call (h : Sep F w0 l w) (is : List Nat) (k : Sep (fps (picks is l)) w l' w') (hok : okB is l.length = true := by rfl) : Sep F w0 (l' ++ rests is l) w' := (h.split is hok).upon k
/-- one has become others -/
theorem Sep.call1 (h : Sep F w0 l w) (i : Nat) {T : Th} (hi : picks [i] l = [T]) (k : Sep T.fp w l' w') (hok : okB [i] l.length = true := by rfl) : Sep F w0 (l' ++ rests [i] l) w' := h.call [i] (by rw [hi]; simpa [fps] using k) hok
/-- only these are kept -/
theorem Sep.keep (h : Sep F w0 l w) (is : List Nat) (hok : okB is l.length = true := by rfl) : Sep F w0 (picks is l) w := ((h.split is hok).perm (List.perm_append_comm)).drop_left
theorem Sep.lose (h : Sep F w0 l w) (is : List Nat) (hok : okB is l.length = true := by rfl) : Sep F w0 (rests is l) w := (h.split is hok).drop_left
/-- something new -/
theorem Sep.fresh (h : Sep F w0 l w) (t : Turns [] w w') (T : Th) (hT : T.ok w') (hf : ∀ k ∈ T.fp, w.heap.size ≤ k) : Sep F w0 (T :: l) w' := by
  have h1 : Sep F w0 ([] ++ l) w := h
  exact h1.upon (a' := [T]) ⟨by simpa [fps] using t, by simpa using hT, by simp, fun k hk => .inr (hf k (by simpa [fps] using hk))⟩
theorem Sep.alloc (h : Sep F w0 l w) (cs : Array Value) (t : TypeId) : Sep F w0 (tBlk w.heap.size cs t :: l) (w.alloc (.cells cs t)) :=
  h.fresh ((Turns.refl _ _).alloc _) _ (Blk.new w cs t) (by simp [tBlk])
theorem Sep.allocMap (h : Sep F w0 l w) : Sep F w0 (tMap w.heap.size [] :: l) (w.alloc (.map #[] 0)) :=
  h.fresh ((Turns.refl _ _).alloc _) _ (IMap.new w) (by simp [tMap])
/-- the i-th one has become another one, in its blocks, or new ones -/
theorem Sep.step (h : Sep F w0 l w) (i : Nat) {T T' : Th} (hi : l[i]? = some T) (t : Turns T.fp w w') (hT : T'.ok w') (hm : ∀ k ∈ T'.fp, k ∈ T.fp ∨ w.heap.size ≤ k) : Sep F w0 (l.set i T') w' := by
  obtain ⟨hl, he⟩ := List.getElem?_eq_some_iff.1 hi
  have p1 : l.Perm ([T] ++ l.eraseIdx i) := by
    have := erase_perm hl
    rw [he] at this
    exact this.symm
  have h1 := (h.perm p1).upon (a' := [T']) (w' := w') ⟨by simpa [fps] using t, by simpa using hT, by simp, fun k hk => by simpa [fps] using hm k (by simpa [fps] using hk)⟩
  refine h1.perm ?_
  have := erase_perm (l := l.set i T') (i := i) (by simpa using hl)
  rw [List.getElem_set_self, List.eraseIdx_set_eq] at this
  exact this
theorem Sep.set (h : Sep F w0 l w) (i : Nat) {b : Nat} {cs : Array Value} {t : TypeId} (hi : l[i]? = some (tBlk b cs t)) (j : Nat) (v : Value) : Sep F w0 (l.set i (tBlk b (cs.setIfInBounds j v) t)) (w.setCell ⟨b, j, none⟩ v) :=
  h.step i hi ((Turns.refl _ _).setCell (by simp [tBlk]) v) ((h.blk i hi).set j v) (fun k hk => .inl hk)
/-- a slice has become another one -/
theorem Sep.slice (h : Sep F w0 l w) (i : Nat) {e : TypeId} {sz : Nat} {v v' : Value} {rows rows' : List (List Value)} (hi : l[i]? = some (tOwn e sz v rows)) (o : OwnS e sz w' v' rows') (t : Turns v.ownBlock.toList w w') (hl : v'.ownBlock = v.ownBlock ∨ v'.ownBlock = some w.heap.size) : Sep F w0 (l.set i (tOwn e sz v' rows')) w' :=
  h.step i hi t o (fun k hk => by
    rcases hl with hl | hl
    · exact .inl (by simpa [tOwn, hl] using hk)
    · refine .inr ?_
      have : k = w.heap.size := by simpa [tOwn, hl, eq_comm] using hk
      omega)
theorem Sep.newSlice (h : Sep F w0 l w) {e : TypeId} {sz : Nat} {v : Value} {rows : List (List Value)} (t : Turns [] w w') (o : OwnS e sz w' v rows) (hf : ∀ k, v.ownBlock = some k → w.heap.size ≤ k) : Sep F w0 (tOwn e sz v rows :: l) w' :=
  h.fresh t _ o (fun k hk => hf k (by simpa [tOwn] using hk))
theorem Sep.nilSlice (h : Sep F w0 l w) (e : TypeId) (sz : Nat) : Sep F w0 (tOwn e sz (.slice none 0 0) [] :: l) w :=
  h.newSlice (Turns.refl _ _) (OwnS.nil _ _ _) (by simp [Value.ownBlock])
/-- what is read, and is none of its own, stays -/
theorem Sep.old (h : Sep [] w0 l w) {a : Addr} {v : Value} (hc : w0.cell? a = some v) : w.cell? a = some v := h.t.old hc
/-- one has the same blocks, and says the same -/
theorem Sep.same (h : Sep F w0 l w) (i : Nat) {T : Th} (hi : l[i]? = some T) (T' : Th) (hf : T'.fp = T.fp) (hT : T.ok w → T'.ok w) : Sep F w0 (l.set i T') w :=
  h.step i hi (Turns.refl _ _) (hT (h.at_ i hi)) (fun k hk => .inl (hf ▸ hk))
/-- the first one is made of parts -/
theorem Sep.open_ {T : Th} {r : List Th} (h : Sep F w0 (T :: r) w) (ps : List Th) (hf : ∀ k ∈ fps ps, k ∈ T.fp) (hT : T.ok w → (∀ P ∈ ps, P.ok w) ∧ ps.Pairwise Apart) : Sep F w0 (ps ++ r) w := by
  have h1 : Sep F w0 ([T] ++ r) w := h
  obtain ⟨h2, h3⟩ := hT (h.ok T (by simp))
  exact h1.upon (w' := w) ⟨Turns.refl _ _, h2, h3, fun k hk => .inl (by simpa [fps] using hf k hk)⟩
theorem Sep.shut_ {T : Th} {ps r : List Th} (h : Sep F w0 (ps ++ r) w) (hf : ∀ k ∈ T.fp, k ∈ fps ps) (hT : (∀ P ∈ ps, P.ok w) → ps.Pairwise Apart → T.ok w) : Sep F w0 (T :: r) w :=
  h.upon (a' := [T]) (w' := w) ⟨Turns.refl _ _, by simpa using hT (fun P hP => h.ok P (List.mem_append_left _ hP)) (List.pairwise_append.1 h.ap).1, by simp, fun k hk => .inl (hf k (by simpa [fps] using hk))⟩
/-- what a call leaves that has turned one thing -/
theorem one_sep {T T' : Th} (t : Turns T.fp w w') (h : T'.ok w') (hm : ∀ k ∈ T'.fp, k ∈ T.fp ∨ w.heap.size ≤ k) : Sep (fps [T]) w [T'] w' :=
  ⟨by simpa [fps] using t, by simpa using h, by simp, fun k hk => by simpa [fps] using hm k (by simpa [fps] using hk)⟩
theorem Sep.one {G : List Nat} {T : Th} (h : Sep F w0 [T] w) : T.ok w := h.ok T (by simp)
end
section
variable {F : List Nat} {w0 : World} {l : List Th} {P : Program} {w : World} {ops : Array Oper} {rest : List Oper} {o : Oper} {a : Act} {Q : Exit → Act → World → Prop}
/-- append to the i-th thing -/
theorem Sep.append (H : Sep F w0 l w) (i : Nat) {e : TypeId} {sz : Nat} {v sv : Value} {rows news : List (List Value)} (hi : l[i]? = some (tOwn e sz v rows)) (hsrc : RdS sz w sv news) (n : Nat) (hn : n = rows.length + news.length) (rs : List (List Value)) (hrs : rs = rows ++ news) (hgd : o.guard = none) (s x : Operand) (t : TypeId)
    (ho : o.op = .call { callee := .builtin .append, args := #[s, x], argTypes := #[t, t] }) (z : Value) (bytes : Nat) (ht : P.underlying t = some (.slice e))
    (hinfo : (P.info? e).map (fun i => (i.zero, i.size, i.bytes)) = some (some z, sz, bytes)) (hz : z.cells.size = sz) (hs0 : 0 < sz) (hs : a.eval s = v) (hx : a.eval x = sv)
    (h1 : ∀ r ∈ news, ∀ u ∈ r, u.oneCell' = true) (hl : n * bytes ≤ 140737488355328) (hl2 : n ≤ 140737488355328)
    (h : ∀ A c w', Sep F w0 (l.set i (tOwn e sz (.slice A n c) rs)) w' → Turns v.ownBlock.toList w w' → Hid (Value.slice A n c = .slice none 0 0 ↔ v = .slice none 0 0 ∧ news = []) → wpList P ops Q rest (a.put o.dst (.slice A n c)) w') :
    wpList P ops Q (o :: rest) a w := by
  subst hn hrs
  refine wp_append (H.own i hi) hsrc hgd s x t ho z bytes ht hinfo hz hs0 hs hx h1 hl hl2 (fun v' w' o' t' hloc hnil => ?_)
  obtain ⟨A, c, hv, _⟩ := o'.form
  rw [List.length_append] at hv
  subst hv
  exact h A c w' (H.slice i hi o' t' hloc) t' hnil
end
theorem formI {e : TypeId} {w : World} {v : Value} {l : List Int} (h : OwnS e 1 w v (ins l)) : ∃ A c, v = .slice A l.length c ∧ l.length ≤ c ∧ c ≤ 9223372036854775807 := by
  obtain ⟨A, c, h1, h2, h3, _⟩ := h.form
  rw [ins_len] at h1 h2
  exact ⟨A, c, h1, h2, h3⟩
theorem formM {α : Type} {f : α → List Value} {e : TypeId} {sz : Nat} {w : World} {v : Value} {l : List α} (h : OwnS e sz w v (l.map f)) : ∃ A c, v = .slice A l.length c ∧ l.length ≤ c ∧ c ≤ 9223372036854775807 := by
  obtain ⟨A, c, h1, h2, h3, _⟩ := h.form
  rw [List.length_map] at h1 h2
  exact ⟨A, c, h1, h2, h3⟩
theorem mine_own {F : List Nat} {w0 w : World} {l : List Th} (H : Sep F w0 l w) (i : Nat) {e : TypeId} {sz : Nat} {v : Value} {rows : List (List Value)} (hi : l[i]? = some (tOwn e sz v rows)) : ∀ k, v.ownBlock = some k → k ∈ F ∨ w0.heap.size ≤ k := fun k hk =>
  H.mine k (mem_fps.2 ⟨_, List.mem_of_getElem? hi, by simpa [tOwn] using hk⟩)
theorem two_apart {A B : Th} (h : Apart A B) : [A, B].Pairwise Apart := by simp [h]
theorem two_ok {A B : Th} {w : World} (hA : A.ok w) (hB : B.ok w) : ∀ P ∈ [A, B], P.ok w := by simp [hA, hB]
/-- two blocks -/
structure Blk2 (W : World) (b : Nat) (cs : Array Value) (t : TypeId) (b' : Nat) (cs' : Array Value) (t' : TypeId) : Prop where
  a : Blk W b cs t
  c : Blk W b' cs' t'
theorem Blk2.turns {W W' : World} {b : Nat} {cs : Array Value} {t : TypeId} {b' : Nat} {cs' : Array Value} {t' : TypeId} (h : Blk2 W b cs t b' cs' t') (k : Turns [] W W') : Blk2 W' b cs t b' cs' t' := ⟨h.a.turns k (by simp), h.c.turns k (by simp)⟩
end Go.Proofs.Ytphhfdlhkginkaa.Hx
end
section
/- Words of this work: a store into an element of a slice of one's own. No program in sight. -/
set_option linter.unusedVariables false
set_option linter.unusedSimpArgs false
namespace Go.Proofs.Ytphhfdlhkginkaa.Hy
open Go.RowKit Hm Hs Hx
theorem flatten_set {sz : Nat} : ∀ {rows : List (List Value)}, (∀ r ∈ rows, r.length = sz) → ∀ {j : Nat} {r : List Value}, rows[j]? = some r → ∀ {i : Nat}, i < sz → ∀ u : Value, (rows.set j (r.set i u)).flatten = rows.flatten.set (j * sz + i) u
  | [], _, j, r, hj, _, _, _ => by simp at hj
  | q :: rs, h, 0, r, hj, i, hi, u => by
    simp only [List.getElem?_cons_zero, Option.some.injEq] at hj
    subst hj
    have hq := h q (by simp)
    rw [List.set_cons_zero, List.flatten_cons, List.flatten_cons, Nat.zero_mul, Nat.zero_add, List.set_append_left _ _ (by omega)]
  | q :: rs, h, j + 1, r, hj, i, hi, u => by
    have hq := h q (by simp)
    have hj' : rs[j]? = some r := by simpa using hj
    rw [List.set_cons_succ, List.flatten_cons, List.flatten_cons, List.set_append_right _ _ (by rw [hq, Nat.succ_mul]; omega), hq, Nat.succ_mul, show j * sz + sz + i - sz = j * sz + i from by omega]
    rw [flatten_set (fun x hx => h x (by simp [hx])) hj' hi u]
theorem OwnS.setAt {e : TypeId} {sz : Nat} {w : World} {v : Value} {rows : List (List Value)} (h : OwnS e sz w v rows) {j : Nat} {r : List Value} (hj : rows[j]? = some r) :
    ∃ ad c, v = .slice (some ad) rows.length c ∧ (∀ i u, r[i]? = some u → w.cell? (ad.add (j * sz + i)) = some u) ∧ ∀ i, i < sz → ∀ a : Addr, a = ad.add (j * sz + i) → w.frozen? a = false ∧ ∀ u, OwnS e sz (w.setCell a u) v (rows.set j (r.set i u)) ∧ Turns v.ownBlock.toList w (w.setCell a u) := by
  obtain ⟨ad, c, hv, _, hc⟩ := h.reads.at_ hj
  obtain ⟨⟨h1, h2⟩, h3⟩ := h
  refine ⟨ad, c, hv, hc, fun i hi a ha => ?_⟩
  have hjl := (List.getElem?_eq_some_iff.1 hj).1
  rcases h2 with ⟨rfl, h0⟩ | ⟨g, cap, cur, rfl, hg, hh, hl, hm, hs, ht⟩
  · omega
  · injection hv with e1 e2 e3
    injection e1 with e1
    subst e1
    rw [add_zero_] at ha
    subst ha
    refine ⟨by simp [World.frozen?, hh], fun u => ⟨⟨⟨?_, .inr ⟨g, cap, cur.setIfInBounds (j * sz + i) u, by rw [List.length_set], hg, ?_, by rw [List.length_set]; exact hl, hm, by simpa using hs, ?_⟩⟩, ?_⟩, ?_⟩⟩
    · rw [flatten_set h3 hj hi u, List.length_set, List.length_set, h1]
    · simp [World.setCell, Array.getElem?_modify, hh]
    · rw [flatten_set h3 hj hi u, List.length_set, Array.toList_setIfInBounds, List.take_set, ht]
    · intro r' hr'
      rcases List.mem_or_eq_of_mem_set hr' with hr' | rfl
      · exact h3 r' hr'
      · rw [List.length_set]; exact h3 r (List.mem_of_getElem? hj)
    · exact (Turns.refl _ _).setCell (by simp [Value.ownBlock]) u
theorem own_nil_lit (w : World) (e : TypeId) (sz : Nat) : OwnS e sz (w.alloc (.cells #[] e)) (.slice (some ⟨w.heap.size, 0, none⟩) 0 0) [] := ⟨World.ownsRow_lit w #[] 0 (Nat.zero_le _) (by decide) (by simp), by simp⟩
/-- an element of the i-th thing is stored -/
theorem Sep.setAt {F : List Nat} {w0 w : World} {l : List Th} (H : Sep F w0 l w) (n : Nat) {e : TypeId} {sz : Nat} {v : Value} {rows : List (List Value)} (hn : l[n]? = some (tOwn e sz v rows)) {j : Nat} {r : List Value} (hj : rows[j]? = some r) :
    ∃ ad c, v = .slice (some ad) rows.length c ∧ (∀ i u, r[i]? = some u → w.cell? (ad.add (j * sz + i)) = some u) ∧ ∀ i, i < sz → ∀ a : Addr, a = ad.add (j * sz + i) → w.frozen? a = false ∧ ∀ u, Sep F w0 (l.set n (tOwn e sz v (rows.set j (r.set i u)))) (w.setCell a u) := by
  obtain ⟨ad, c, hv, hc, hs⟩ := OwnS.setAt (H.own n hn) hj
  refine ⟨ad, c, hv, hc, fun i hi a ha => ?_⟩
  obtain ⟨h1, h2⟩ := hs i hi a ha
  exact ⟨h1, fun u => H.slice n hn (h2 u).1 (h2 u).2 (.inl rfl)⟩
end Go.Proofs.Ytphhfdlhkginkaa.Hy
end
section
/- Words of this work: clear(s[q:]) upon a slice of one's own, which is cut to s[:q]. No program in sight. -/
set_option linter.unusedVariables false
set_option linter.unusedSimpArgs false
namespace Go.Proofs.Ytphhfdlhkginkaa.Hz
open Go.RowKit Hm Hs Hx Hy
theorem setCells_own {b : Nat} {e : TypeId} {fr : Nat × Nat} : ∀ (vs : List Value) (o : Nat) (w : World) (cur : Array Value), w.heap[b]? = some (.cells cur e fr) → ∃ cur', (w.setCells b o vs).heap[b]? = some (.cells cur' e fr) ∧ cur'.size = cur.size ∧ (∀ k, k < o → cur'[k]? = cur[k]?) ∧ Turns [b] w (w.setCells b o vs)
  | [], o, w, cur, h => ⟨cur, h, rfl, fun _ _ => rfl, Turns.refl _ _⟩
  | v :: r, o, w, cur, h => by
    have h1 : (w.setCell ⟨b, o, none⟩ v).heap[b]? = some (.cells (cur.setIfInBounds o v) e fr) := by simp [World.setCell, Array.getElem?_modify, h]
    obtain ⟨cur', h2, h3, h4, h5⟩ := setCells_own r (o + 1) (w.setCell ⟨b, o, none⟩ v) _ h1
    refine ⟨cur', h2, by rw [h3]; simp, fun k hk => ?_, ((Turns.refl [b] w).setCell (by simp) v).trans h5⟩
    rw [h4 k (by omega), Array.getElem?_setIfInBounds, if_neg (by omega)]
theorem flatten_take {sz : Nat} : ∀ (rows : List (List Value)) (q : Nat), (∀ r ∈ rows, r.length = sz) → (rows.take q).flatten = rows.flatten.take (q * sz)
  | [], q, _ => by simp
  | r :: rs, 0, _ => by simp
  | r :: rs, q + 1, h => by
    have hr := h r (by simp)
    rw [List.take_succ_cons, List.flatten_cons, List.flatten_cons, flatten_take rs q (fun x hx => h x (by simp [hx])), Nat.succ_mul, List.take_append]
    rw [hr, show q * sz + sz - sz = q * sz from by omega, List.take_of_length_le (l := r) (by omega)]
section
variable {P : Program} {w : World} {ops : Array Oper} {rest : List Oper} {o : Oper} {a : Act} {Q : Exit → Act → World → Prop}
theorem run_clear_tail {e t : TypeId} {sz : Nat} {ad : Addr} {N c : Nat} {rows : List (List Value)} (h : OwnS e sz w (.slice (some ad) N c) rows) (ty : TypeId) (ht : P.underlying t = some (.slice e)) (z : Value) (hz : (zeroValue e).run P w = .ok z w) (hzs : z.cells.size = sz) (hz1 : ∀ u ∈ z.cells, u.oneCell' = true) (hsz : 0 < sz) (q : Nat) (hq : q < N) :
    ∃ w', (Builtin.clear_ #[t] ty #[.slice (some (ad.add (q * sz))) (N - q) (c - q)]).run P w = .ok (.tuple #[]) w' ∧ OwnS e sz w' (.slice (some ad) q c) (rows.take q) ∧ Turns [ad.block] w w' := by
  obtain ⟨⟨h1, h2⟩, h3⟩ := h
  rcases h2 with ⟨hv, _⟩ | ⟨g, cap, cur, hv, hg, hh, hl, hm, hs, htk⟩
  · cases hv
  · injection hv with e1 e2 e3
    injection e1 with e1
    subst e1 e2 e3
    rw [add_zero_]
    obtain ⟨k, hk⟩ : ∃ k, rows.length - q = k + 1 := ⟨rows.length - q - 1, by omega⟩
    have hzl : ∀ u ∈ (Builtin.zeroCells z.cells (rows.length - q)).toList, u.oneCell' = true := fun u hu => by
      unfold Builtin.zeroCells at hu
      rw [Array.toList_map] at hu
      obtain ⟨i, _, rfl⟩ := List.mem_map.1 hu
      have hlt : i % z.cells.size < z.cells.size := Nat.mod_lt _ (by omega)
      rw [getElem!_pos z.cells (i % z.cells.size) hlt]
      exact hz1 _ (Array.getElem_mem hlt)
    have hln : (Builtin.zeroCells z.cells (rows.length - q)).toList.length = (rows.length - q) * sz := by
      rw [Array.length_toList, size_zeroCells, hzs]
    have hmul : (rows.length - q) * sz + q * sz = rows.length * sz := by rw [← Nat.add_mul]; congr 1; omega
    have hmul2 : rows.length * sz ≤ c * sz := Nat.mul_le_mul_right _ hl
    generalize hvs : (Builtin.zeroCells z.cells (rows.length - q)).toList = vs at *
    have hst := run_storeCells_cells (P := P) g (q * sz) vs 0 w (fun j hj => by
        simp only [World.cell?, hh, Option.isSome_none, Bool.false_eq_true, if_false, Nat.add_zero]
        rw [Array.getElem?_eq_getElem (by omega)]
        rfl) (fun j hj => by simp [World.frozen?, hh]) hzl
    simp only [Nat.add_zero] at hst
    obtain ⟨cur', k1, k2, k3, k4⟩ := setCells_own vs (q * sz) w cur hh
    refine ⟨w.setCells g (q * sz) vs, ?_, ⟨⟨?_, .inr ⟨g, c, cur', ?_, hg, k1, ?_, hm, by rw [k2, hs], ?_⟩⟩, fun r hr => h3 r (List.mem_of_mem_take hr)⟩, k4⟩
    · rw [hk] at hvs ⊢
      simp [Builtin.clear_, run_underlying ht, hz, hvs, hst, Result.andThen]
    · have : (rows.take q).length = q := by rw [List.length_take]; omega
      rw [flatten_len (fun r hr => h3 r (List.mem_of_mem_take hr))]
    · rw [List.length_take, Nat.min_eq_left (by omega)]
    · rw [List.length_take]; omega
    · rw [List.length_take, Nat.min_eq_left (by omega), flatten_take rows q h3, ← htk, List.take_take]
      have hmq : q * sz ≤ rows.length * sz := Nat.mul_le_mul_right _ (by omega)
      rw [Nat.min_eq_left hmq]
      refine List.ext_getElem? (fun i => ?_)
      rw [List.getElem?_take, List.getElem?_take]
      split
      · rename_i hi
        have := k3 i hi
        simpa using this
      · rfl
theorem wp_clear_tail {e t : TypeId} {sz : Nat} {ad : Addr} {N c : Nat} {rows : List (List Value)} (h : OwnS e sz w (.slice (some ad) N c) rows) (hgd : o.guard = none) (s : Operand) (ho : o.op = .call { callee := .builtin .clear, args := #[s], argTypes := #[t] }) (ht : P.underlying t = some (.slice e)) (z : Value) (hz : (zeroValue e).run P w = .ok z w) (hzs : z.cells.size = sz) (hz1 : ∀ u ∈ z.cells, u.oneCell' = true) (hsz : 0 < sz) (q : Nat) (hq : q < N)
    (hs : a.eval s = .slice (some (ad.add (q * sz))) (N - q) (c - q))
    (hK : ∀ w', OwnS e sz w' (.slice (some ad) q c) (rows.take q) → Turns [ad.block] w w' → wpList P ops Q rest (a.put o.dst (.tuple #[])) w') : wpList P ops Q (o :: rest) a w := by
  refine wpList_plain hgd fun K' hK' => ?_
  obtain ⟨w', hrun, r1, r2⟩ := run_clear_tail h o.type ht z hz hzs hz1 hsz q hq
  unfold Oper.wp
  simp [execOp, ho, resolve, invoke, builtin, hs, hrun, Result.andThen]
  exact hK' _ _ (hK w' r1 r2)
end
end Go.Proofs.Ytphhfdlhkginkaa.Hz
end
section
/- Words of this work: append onto the head of a slice of one's own, where there is room: the block stays. No program in sight. -/
set_option linter.unusedVariables false
set_option linter.unusedSimpArgs false
namespace Go.Proofs.Ytphhfdlhkginkaa.Hu
open Go.RowKit Hm Hs Hx Hy Hz
theorem flatten_drop {sz : Nat} : ∀ (rows : List (List Value)) (q : Nat), (∀ r ∈ rows, r.length = sz) → (rows.drop q).flatten = rows.flatten.drop (q * sz)
  | [], q, _ => by simp
  | r :: rs, 0, _ => by simp
  | r :: rs, q + 1, h => by
    have hr := h r (by simp)
    rw [List.drop_succ_cons, List.flatten_cons, flatten_drop rs q (fun x hx => h x (by simp [hx])), Nat.succ_mul, List.drop_append]
    rw [hr, show q * sz + sz - sz = q * sz from by omega, List.drop_of_length_le (l := r) (by omega), List.nil_append]
section
variable {P : Program} {w : World} {ops : Array Oper} {rest : List Oper} {o : Oper} {a : Act} {Q : Exit → Act → World → Prop}
theorem run_append_cut {e t ty : TypeId} {sz : Nat} {ad : Addr} {N c : Nat} {rows news : List (List Value)} (h : OwnS e sz w (.slice (some ad) N c) rows) (i0 : TypeInfo) (ht : P.underlying t = some (.slice e)) (hi : P.info? e = some i0) (hsz : i0.size = sz)
    (i : Nat) (hin : i + news.length ≤ N) (b : Addr) (c2 : Nat) (hl : ∀ r ∈ news, r.length = sz) (hnews : ∀ j u, news.flatten[j]? = some u → w.cell? (b.add j) = some u) (h1 : ∀ u ∈ news.flatten, u.oneCell' = true) :
    ∃ w', (Builtin.append_ #[t, t] ty #[.slice (some ad) i c, .slice (some b) news.length c2]).run P w = .ok (.slice (some ad) (i + news.length) c) w' ∧ OwnS e sz w' (.slice (some ad) N c) (rows.take i ++ news ++ rows.drop (i + news.length)) ∧ Turns [ad.block] w w' := by
  obtain ⟨⟨h1', h2⟩, h3⟩ := h
  rcases h2 with ⟨hv, _⟩ | ⟨g, cap, cur, hv, hg, hh, hl', hm, hs, htk⟩
  · cases hv
  · injection hv with e1 e2 e3
    injection e1 with e1
    subst e1 e2 e3
    have hnl := flatten_len hl
    have hsum : (i + news.length) * sz ≤ rows.length * sz := Nat.mul_le_mul_right _ hin
    have hle : rows.length * sz ≤ c * sz := Nat.mul_le_mul_right _ hl'
    rw [Nat.add_mul] at hsum
    have hr := run_append_room (P := P) w t ty e i0 ht hi g i c cur hh b news.length c2 news.flatten (by rw [hsz]; exact hnl) hnews h1 (by omega) (by rw [hnl, hsz]; omega)
    refine ⟨_, hr, ⟨⟨?_, .inr ⟨g, c, _, ?_, hg, setRow_heap w g cur _ e (0, 0) hh, ?_, hm, ?_, ?_⟩⟩, ?_⟩, (setRow_turns w g _).mono (by simp)⟩
    · refine flatten_len (fun r hr => ?_)
      rcases List.mem_append.1 hr with hr | hr
      · rcases List.mem_append.1 hr with hr | hr
        · exact h3 r (List.mem_of_mem_take hr)
        · exact hl r hr
      · exact h3 r (List.mem_of_mem_drop hr)
    · rw [List.length_append, List.length_append, List.length_take, List.length_drop]
      congr 1
      omega
    · rw [List.length_append, List.length_append, List.length_take, List.length_drop]
      omega
    · rw [hsz]
      simp only [List.size_toArray, List.length_append, List.length_take, List.length_drop, Array.length_toList, hnl, hs]
      omega
    · have hlen : (rows.take i ++ news ++ rows.drop (i + news.length)).length = rows.length := by
        rw [List.length_append, List.length_append, List.length_take, List.length_drop]
        omega
      have hfl : rows.flatten.length = rows.length * sz := flatten_len h3
      rw [hlen, hsz, List.flatten_append, List.flatten_append, flatten_take rows i h3, flatten_drop rows _ h3, ← htk]
      simp only [hnl]
      rw [Nat.add_mul, List.take_take, Nat.min_eq_left (by omega)]
      have hcl : cur.toList.length = c * sz := by rw [Array.length_toList, hs]
      have hA : (cur.toList.take (i * sz) ++ news.flatten).length = i * sz + news.length * sz := by rw [List.length_append, List.length_take, hcl, hnl]; omega
      rw [List.take_append, hA, List.take_of_length_le (by omega), List.drop_take]
    · intro r hr
      rcases List.mem_append.1 hr with hr | hr
      · rcases List.mem_append.1 hr with hr | hr
        · exact h3 r (List.mem_of_mem_take hr)
        · exact hl r hr
      · exact h3 r (List.mem_of_mem_drop hr)
/-- append(s[:i], x...), where s has room for all of it -/
theorem wp_append_cut {e t : TypeId} {sz : Nat} {ad : Addr} {N c : Nat} {rows news : List (List Value)} (h : OwnS e sz w (.slice (some ad) N c) rows) (hgd : o.guard = none) (s x : Operand)
    (ho : o.op = .call { callee := .builtin .append, args := #[s, x], argTypes := #[t, t] }) (z : Value) (bytes : Nat) (ht : P.underlying t = some (.slice e)) (hinfo : (P.info? e).map (fun i => (i.zero, i.size, i.bytes)) = some (some z, sz, bytes))
    (i : Nat) (hin : i + news.length ≤ N) (b : Addr) (c2 : Nat) (hs : a.eval s = .slice (some ad) i c) (hx : a.eval x = .slice (some b) news.length c2) (hl : ∀ r ∈ news, r.length = sz) (hnews : ∀ j u, news.flatten[j]? = some u → w.cell? (b.add j) = some u) (h1 : ∀ r ∈ news, ∀ u ∈ r, u.oneCell' = true)
    (hK : ∀ w', OwnS e sz w' (.slice (some ad) N c) (rows.take i ++ news ++ rows.drop (i + news.length)) → Turns [ad.block] w w' → wpList P ops Q rest (a.put o.dst (.slice (some ad) (i + news.length) c)) w') : wpList P ops Q (o :: rest) a w := by
  refine wpList_plain hgd fun K' hK' => ?_
  obtain ⟨i0, hi, hzz⟩ := Option.map_eq_some_iff.1 hinfo
  simp only [Prod.mk.injEq] at hzz
  obtain ⟨w', hrun, r1, r2⟩ := run_append_cut (P := P) (t := t) (ty := o.type) h i0 ht hi hzz.2.1 i hin b c2 hl hnews (fun u hu => by
    obtain ⟨r, hr, hu⟩ := List.mem_flatten.1 hu
    exact h1 r hr u hu)
  unfold Oper.wp
  simp [execOp, ho, resolve, invoke, builtin, hs, hx, hrun, Result.andThen]
  exact hK' _ _ (hK w' r1 r2)
end
end Go.Proofs.Ytphhfdlhkginkaa.Hu
end
section
/- Words of this work: a region of open order with several great operations (calls), each alone when it comes up, and reading operations that may come up earlier or later: one walk, in an order that is told. No program in sight. -/
set_option linter.unusedVariables false
set_option linter.unusedSimpArgs false
namespace Go.Proofs.Ytphhfdlhkginkaa.Hf
open Go
section
variable {P : Program} {ops : Array Oper} {md : Region.Mode} {Q : Exit → Act → World → Prop}
theorem held_grow {S S' : World → Prop} (hS : ∀ W, S' W → S W) : ∀ (fuel : Nat) (listed : Array Bool) (a : Act) (w : World), wpAnyH P md ops Q S' fuel listed a w → wpAnyH P md ops Q S fuel listed a w
  | 0, _, _, _, h => h
  | fuel + 1, _, _, _, h => ⟨h.1, fun i hi => wpOp_mono (fun a' w' h' => ⟨hS _ h'.1, held_grow hS fuel _ a' w' h'.2⟩) (h.2 i hi)⟩
/-- The result of a reading operation, the same in every world that meets S. -/
def readUpon (P : Program) (o : Oper) (a : Act) (S : World → Prop) (next : Act → Prop) : Result Next → Prop
  | .ok (.value v) _ => (∀ W, S W → (execOp a.eval o).run P W = .ok (.value v) W) ∧ next (a.put o.dst v)
  | _ => False
def readAt (P : Program) (o : Oper) (a : Act) (S : World → Prop) (w : World) (next : Act → Prop) : Prop := readUpon P o a S next ((execOp a.eval o).run P w)
/-- One walk in the order told: (i, true): operation i reads; (i, false): it is alone. -/
def flo (P : Program) (ops : Array Oper) (Q : Exit → Act → World → Prop) : List (Nat × Bool) → (World → Prop) → Act → World → Prop
  | [], _, a, w => Q .normal a w
  | (i, true) :: r, S, a, w => ∃ o, ops[i]? = some o ∧ if Region.wanted o (yielded ops a.tmps) then readAt P o a S w (fun a' => flo P ops Q r S a' w) else flo P ops Q r S (a.put o.dst undef) w
  | (i, false) :: r, S, a, w => wpOp P ops Q i (fun a' w' => ∃ S' : World → Prop, (∀ W, S' W → S W) ∧ S' w' ∧ flo P ops Q r S' a' w') a w
def floB (md : Region.Mode) (ops : Array Oper) : List (Nat × Bool) → Array Bool → Bool
  | [], listed => (Region.ready md ops listed).isEmpty
  | (i, true) :: r, listed => (Region.ready md ops listed).contains i && Region.free md ops listed i && floB md ops r (listed.setIfInBounds i true)
  | (i, false) :: r, listed => decide (Region.ready md ops listed = [i]) && floB md ops r (listed.setIfInBounds i true)
theorem held_of_flo (hsel : Region.noSelect ops = true) (hQ : ∀ c d v a w, Q (.panic c) (a.put d v) w → Q (.panic c) a w) : ∀ (r : List (Nat × Bool)) (S : World → Prop) (listed : Array Bool) (a : Act) (w : World),
    floB md ops r listed = true → S w → flo P ops Q r S a w → wpAnyH P md ops Q S r.length listed a w
  | [], S, listed, a, w, hB, hS, h => by
    simp only [floB, List.isEmpty_iff] at hB
    exact ⟨hB, h⟩
  | (i, true) :: r, S, listed, a, w, hB, hS, h => by
    simp only [floB, Bool.and_eq_true] at hB
    obtain ⟨⟨hr, hf⟩, hB'⟩ := hB
    obtain ⟨o, ho, h⟩ := h
    split at h
    · rename_i hw
      unfold readAt at h
      cases hrun : (execOp a.eval o).run P w with
      | ok n w' =>
        rw [hrun] at h
        cases n <;> simp only [readUpon] at h
        exact wpAnyH_take ho hsel hf hr (fun c a w => hQ c _ _ a w) (.inl ⟨hw, h.1⟩) hS (held_of_flo hsel hQ r S _ _ w hB' hS h.2)
      | halt x w' =>
        rw [hrun] at h
        simp only [readUpon] at h
    · rename_i hw
      exact wpAnyH_take ho hsel hf hr (fun c a w => hQ c _ _ a w) (.inr ⟨by simpa using hw, rfl⟩) hS (held_of_flo hsel hQ r S _ _ w hB' hS h)
  | (i, false) :: r, S, listed, a, w, hB, hS, h => by
    simp only [floB, Bool.and_eq_true, decide_eq_true_eq] at hB
    obtain ⟨hr, hB'⟩ := hB
    refine wpAnyH_all hr (by simp) (fun j hj => ?_)
    have : j = i := by simpa using hj
    subst this
    refine wpOp_mono (fun a' w' h' => ?_) h
    obtain ⟨S', hS', hw', hf⟩ := h'
    exact ⟨hS' _ hw', held_grow hS' _ _ _ _ (held_of_flo hsel hQ r S' _ a' w' hB' hw' hf)⟩
theorem floB_len {md : Region.Mode} {ops : Array Oper} : ∀ (r : List (Nat × Bool)) (listed : Array Bool), floB md ops r listed = true → (Region.ready md ops (r.foldl (fun l x => l.setIfInBounds x.1 true) listed)) = []
  | [], _, h => by simpa [floB] using h
  | (i, true) :: r, listed, h => by
    simp only [floB, Bool.and_eq_true] at h
    exact floB_len r _ h.2
  | (i, false) :: r, listed, h => by
    simp only [floB, Bool.and_eq_true] at h
    exact floB_len r _ h.2
/-- The beginning. -/
theorem wp_region_flo {id : Nat} {a : Act} {w : World} {l : List Oper} (r : List (Nat × Bool)) (S : World → Prop) (hm : P.follows .mixedOrders = true) (hn : r.length = l.length) (hB : (Region.noSelect l.toArray && floB .any l.toArray r (Array.replicate l.toArray.size false)) = true)
    (hQ : ∀ c d v a w, Q (.panic c) (a.put d v) w → Q (.panic c) a w) (hS : S w.drew) (h : flo P l.toArray Q r S a w.drew) : (Code.region id l.toArray true).wp P Q a w := by
  simp only [Bool.and_eq_true] at hB
  have := held_of_flo (md := .any) hB.1 hQ r S _ a w.drew hB.2 hS h
  refine wp_region_held (S := S) hm ?_
  have e : l.toArray.size = r.length := by simp [hn]
  rw [e] at this ⊢
  exact this
theorem flo_read {i : Nat} {r : List (Nat × Bool)} {S : World → Prop} {a : Act} {w : World} (o : Oper) (ho : ops[i]? = some o)
    (h : ∀ K : Act → Prop, (∀ a, flo P ops Q r S a w → K a) → if Region.wanted o (yielded ops a.tmps) then readAt P o a S w K else K (a.put o.dst undef)) : flo P ops Q ((i, true) :: r) S a w :=
  ⟨o, ho, h _ (fun _ h => h)⟩
theorem flo_end {S : World → Prop} {a : Act} {w : World} (h : Q .normal a w) : flo P ops Q [] S a w := h
/-- What is owed behind an operation that is alone. -/
def floQ (P : Program) (ops : Array Oper) (Q : Exit → Act → World → Prop) (r : List (Nat × Bool)) (S : World → Prop) : Exit → Act → World → Prop
  | .normal, a, w => ∃ S' : World → Prop, (∀ W, S' W → S W) ∧ S' w ∧ flo P ops Q r S' a w
  | x, a, w => Q x a w
theorem flo_alone {i : Nat} {r : List (Nat × Bool)} {S : World → Prop} {a : Act} {w : World} (o : Oper) (ho : ops[i]? = some o) (h : wpList P ops (floQ P ops Q r S) [o] a w) : flo P ops Q ((i, false) :: r) S a w := by
  show wpOp P ops Q i _ a w
  unfold wpOp
  simp only [ho]
  have h1 : if Region.wanted o (yielded ops a.tmps) = true then Oper.wp P o a w (fun a' w' => floQ P ops Q r S .normal a' w') (floQ P ops Q r S) ∨ (o.asks P a w ∧ LetsOut (floQ P ops Q r S)) else floQ P ops Q r S .normal (a.put o.dst undef) w := h
  split
  · rename_i hw
    simp only [hw, if_true] at h1
    rcases h1 with h1 | h1
    · refine .inl ?_
      unfold Oper.wp at *
      generalize (execOp a.eval o).run P w = x at *
      cases x with
      | ok n w' =>
        cases n <;> simp only [Oper.upon] at h1 ⊢
        case enter f args => exact h1.mono fun e w'' h2 => by cases e <;> exact h2
        all_goals exact h1
      | halt x w' => cases x <;> simp only [Oper.upon] at h1 ⊢ <;> exact h1
    · exact .inr h1
  · rename_i hw
    simp only [hw] at h1
    exact h1
attribute [go_sem] readAt readUpon
end
end Go.Proofs.Ytphhfdlhkginkaa.Hf
end
section
/- Words of this work: as XHf, but what is owed behind each operation that is alone is that operation's own: a store behind which a read's cell is another one may stand in the region, if it waits for the read. No program in sight. -/
set_option linter.unusedVariables false
set_option linter.unusedSimpArgs false
namespace Go.Proofs.Ytphhfdlhkginkaa.Hg
open Go Hf
section
variable {P : Program} {ops : Array Oper} {md : Region.Mode} {Q : Exit → Act → World → Prop}
/-- Behind operation i the world is as it was, or G i holds of it. -/
def anyI (P : Program) (md : Region.Mode) (ops : Array Oper) (Q : Exit → Act → World → Prop) (G : Nat → World → Prop) : Nat → Array Bool → Act → World → Prop
  | 0, listed, a, w => Region.ready md ops listed = [] ∧ Q .normal a w
  | fuel + 1, listed, a, w =>
    (Region.ready md ops listed = [] → Q .normal a w) ∧
    ∀ i ∈ Region.ready md ops listed, wpOp P ops Q i (fun a' w' => (w' = w ∨ G i w') ∧ anyI P md ops Q G fuel (listed.setIfInBounds i true) a' w') a w
theorem any_of_I {G : Nat → World → Prop} : ∀ (fuel : Nat) (listed : Array Bool) (a : Act) (w : World), anyI P md ops Q G fuel listed a w → wpAny P md ops Q fuel listed a w
  | 0, _, _, _, h => h
  | fuel + 1, _, _, _, h => ⟨h.1, fun i hi => wpOp_mono (fun a' w' h' => any_of_I fuel _ a' w' h'.2) (h.2 i hi)⟩
theorem I_grow {G G' : Nat → World → Prop} (hG : ∀ j W, G' j W → G j W) : ∀ (fuel : Nat) (listed : Array Bool) (a : Act) (w : World), anyI P md ops Q G' fuel listed a w → anyI P md ops Q G fuel listed a w
  | 0, _, _, _, h => h
  | fuel + 1, _, _, _, h => ⟨h.1, fun i hi => wpOp_mono (fun a' w' h' => ⟨h'.1.imp id (hG i w'), I_grow hG fuel _ a' w' h'.2⟩) (h.2 i hi)⟩
theorem I_first {G : Nat → World → Prop} {S : World → Prop} {i : Nat} {oi : Oper} {v : Value} (hi : ops[i]? = some oi) (hsel : ∀ (j : Nat) (o : Oper) cs b, ops[j]? = some o → o.op ≠ .select cs b)
    (hQ : ∀ c a w, Q (.panic c) (a.put oi.dst v) w → Q (.panic c) a w) :
    ∀ (fuel : Nat) (listed : Array Bool) (a : Act) (w : World),
      (∀ j oj, ops[j]? = some oj → j ≠ i → listed.getD j true = false → (∀ e ∈ oj.after, Region.binds md e = true → e.on ≠ i) → oi.apart ops oj = true ∧ ∀ W, G j W → S W) →
      i ∈ Region.ready md ops listed → YieldsIf P ops S oi v a → S w →
      anyI P md ops Q G fuel (listed.setIfInBounds i true) (a.put oi.dst v) w → anyI P md ops Q G (fuel + 1) listed a w := by
  intro fuel
  induction fuel with
  | zero =>
    intro listed a w _ hr hy hS H
    refine ⟨fun h => (by rw [h] at hr; cases hr), fun j hj => ?_⟩
    by_cases hji : j = i
    · subst hji; exact hy.wpOp hi hS ⟨.inl rfl, H⟩
    · have := ready_mono hj hji
      rw [H.1] at this
      cases this
  | succ fuel ih =>
    intro listed a w hfree hr hy hS H
    refine ⟨fun h => (by rw [h] at hr; cases hr), fun j hj => ?_⟩
    by_cases hji : j = i
    · subst hji; exact hy.wpOp hi hS ⟨.inl rfl, H⟩
    · have h1 := H.2 j (ready_mono hj hji)
      obtain ⟨hjun, oj, hoj, hall⟩ := mem_ready.1 hj
      have hnot : ∀ e ∈ oj.after, Region.binds md e = true → e.on ≠ i := fun e he hb heq => by
        have h1 := hall e he hb
        have h0 := (mem_ready.1 hr).1
        rw [heq] at h1
        rcases Nat.lt_or_ge i listed.size with h' | h'
        · simp [h'] at h0 h1; rw [h0] at h1; cases h1
        · simp [Array.getElem?_eq_none h'] at h1
      have h2 := wpOp_putIf hoj (hfree j oj hoj hji hjun hnot).1 (fun cs b => hsel i oi cs b hi) (fun cs b => hsel j oj cs b hoj) hQ hy h1
      have hfree' : ∀ k ok, ops[k]? = some ok → k ≠ i → (listed.setIfInBounds j true).getD k true = false →
          (∀ e ∈ ok.after, Region.binds md e = true → e.on ≠ i) → oi.apart ops ok = true ∧ ∀ W, G k W → S W := fun k ok hk hki hun hno => by
        refine hfree k ok hk hki ?_ hno
        by_cases hjk : j = k
        · subst hjk; exact hjun
        · rw [getD_set_ne true hjk] at hun; exact hun
      refine wpOp_mono (fun a' w' h3 => ?_) h2
      have hS' : S w' := by
        rcases h3.2.1 with h4 | h4
        · rw [h4]; exact hS
        · exact (hfree j oj hoj hji hjun hnot).2 w' h4
      refine ⟨h3.2.1, ih (listed.setIfInBounds j true) a' w' hfree' (ready_mono hr (Ne.symm hji)) h3.1 hS' ?_⟩
      rw [Array.setIfInBounds_comm _ _ hji]
      exact h3.2.2
/-- operation j waits for operation i -/
def waits (md : Region.Mode) (ops : Array Oper) (j i : Nat) : Bool := match ops[j]? with | some oj => oj.after.any (fun e => Region.binds md e && e.on == i) | none => true
abbrev Step := Nat × Bool × List Nat
def alone_ (r : List Step) (j : Nat) : Bool := r.any fun x => x.1 == j && !x.2.1
/-- One walk in the order told: (i, true, J): operation i reads, J: those that are alone, and may come up ahead of it; (i, false, _): it is alone. -/
def flo2 (P : Program) (ops : Array Oper) (Q : Exit → Act → World → Prop) : List Step → (Nat → World → Prop) → Act → World → Prop
  | [], _, a, w => Q .normal a w
  | (i, true, J) :: r, G, a, w => ∃ o, ops[i]? = some o ∧ ∃ S : World → Prop, S w ∧ (∀ j ∈ J, ∀ W, G j W → S W) ∧ if Region.wanted o (yielded ops a.tmps) then readAt P o a S w (fun a' => flo2 P ops Q r G a' w) else flo2 P ops Q r G (a.put o.dst undef) w
  | (i, false, _) :: r, G, a, w => wpOp P ops Q i (fun a' w' => G i w' ∧ ∃ G' : Nat → World → Prop, (∀ j W, G' j W → G j W) ∧ flo2 P ops Q r G' a' w') a w
def floB2 (md : Region.Mode) (ops : Array Oper) : List Step → Array Bool → Bool
  | [], listed => (Region.ready md ops listed).isEmpty
  | (i, true, J) :: r, listed => (Region.ready md ops listed).contains i && Region.free md ops listed i && (List.range ops.size).all (fun j => j == i || listed.getD j true || waits md ops j i || !alone_ r j || J.contains j) && floB2 md ops r (listed.setIfInBounds i true)
  | (i, false, _) :: r, listed => decide (Region.ready md ops listed = [i]) && floB2 md ops r (listed.setIfInBounds i true)
def only (r : List Step) (G : Nat → World → Prop) : Nat → World → Prop := fun j W => alone_ r j = true ∧ G j W
theorem only_tail {x : Step} {r : List Step} {G G' : Nat → World → Prop} (h : ∀ j W, G' j W → G j W) : ∀ j W, only r G' j W → only (x :: r) G j W := fun j W ⟨h1, h2⟩ => ⟨by unfold alone_ at *; rw [List.any_cons, h1, Bool.or_true], h j W h2⟩
theorem I_of_flo2 (hsel : Region.noSelect ops = true) (hQ : ∀ c d v a w, Q (.panic c) (a.put d v) w → Q (.panic c) a w) : ∀ (r : List Step) (G : Nat → World → Prop) (listed : Array Bool) (a : Act) (w : World),
    floB2 md ops r listed = true → flo2 P ops Q r G a w → anyI P md ops Q (only r G) r.length listed a w
  | [], G, listed, a, w, hB, h => by
    simp only [floB2, List.isEmpty_iff] at hB
    exact ⟨hB, h⟩
  | (i, true, J) :: r, G, listed, a, w, hB, h => by
    simp only [floB2, Bool.and_eq_true] at hB
    obtain ⟨⟨⟨hr, hf⟩, hJ⟩, hB'⟩ := hB
    obtain ⟨o, ho, S, hS, hGS, h⟩ := h
    have hfr : ∀ j oj, ops[j]? = some oj → j ≠ i → listed.getD j true = false → (∀ e ∈ oj.after, Region.binds md e = true → e.on ≠ i) → o.apart ops oj = true ∧ ∀ W, only ((i, true, J) :: r) G j W → S W := fun j oj hj hji hun hno => by
      refine ⟨Region.free_spec ho hf j oj hj hji hun hno, fun W hW => ?_⟩
      obtain ⟨h1, h2⟩ := hW
      have hlt : j < ops.size := (Array.getElem?_eq_some_iff.1 hj).1
      have h3 := List.all_eq_true.1 hJ j (List.mem_range.2 hlt)
      have h4 : waits md ops j i = false := by
        unfold waits
        rw [hj]
        simp only
        rw [Bool.eq_false_iff]
        intro hc
        obtain ⟨k, hk, he⟩ := Array.any_eq_true.1 hc
        simp only [Bool.and_eq_true, beq_iff_eq] at he
        exact hno _ (Array.getElem_mem hk) he.1 he.2
      have h5 : alone_ r j = true := by
        unfold alone_ at h1 ⊢
        rw [List.any_cons] at h1
        simpa using h1
      have h6 : (j == i) = false := by simpa using hji
      rw [h4, h5, h6, hun] at h3
      simp only [Bool.or_false, Bool.not_true, Bool.false_or] at h3
      exact hGS j (by simpa using h3) W h2
    have hr' : i ∈ Region.ready md ops listed := by simpa using hr
    split at h
    · rename_i hw
      unfold readAt at h
      cases hrun : (execOp a.eval o).run P w with
      | ok n w' =>
        rw [hrun] at h
        cases n <;> simp only [readUpon] at h
        exact I_first ho (Region.noSelect_spec hsel) (fun c a w => hQ c _ _ a w) r.length listed a w hfr hr' (.inl ⟨hw, h.1⟩) hS (I_grow (only_tail (fun _ _ h => h)) _ _ _ _ (I_of_flo2 hsel hQ r G _ _ w hB' h.2))
      | halt x w' =>
        rw [hrun] at h
        simp only [readUpon] at h
    · rename_i hw
      exact I_first ho (Region.noSelect_spec hsel) (fun c a w => hQ c _ _ a w) r.length listed a w hfr hr' (.inr ⟨by simpa using hw, rfl⟩) hS (I_grow (only_tail (fun _ _ h => h)) _ _ _ _ (I_of_flo2 hsel hQ r G _ _ w hB' h))
  | (i, false, J) :: r, G, listed, a, w, hB, h => by
    simp only [floB2, Bool.and_eq_true, decide_eq_true_eq] at hB
    obtain ⟨hr, hB'⟩ := hB
    refine ⟨fun h0 => (by rw [hr] at h0; cases h0), fun j hj => ?_⟩
    rw [hr] at hj
    have : j = i := by simpa using hj
    subst this
    refine wpOp_mono (fun a' w' h' => ?_) h
    obtain ⟨h1, G', hG', hf⟩ := h'
    exact ⟨.inr ⟨by unfold alone_; simp, h1⟩, I_grow (only_tail hG') _ _ _ _ (I_of_flo2 hsel hQ r G' _ a' w' hB' hf)⟩
/-- The beginning. -/
theorem wp_region_flo2 {id : Nat} {a : Act} {w : World} {l : List Oper} (r : List Step) (G : Nat → World → Prop) (hm : P.follows .mixedOrders = true) (hn : r.length = l.length) (hB : (Region.noSelect l.toArray && floB2 .any l.toArray r (Array.replicate l.toArray.size false)) = true)
    (hQ : ∀ c d v a w, Q (.panic c) (a.put d v) w → Q (.panic c) a w) (h : flo2 P l.toArray Q r G a w.drew) : (Code.region id l.toArray true).wp P Q a w := by
  simp only [Bool.and_eq_true] at hB
  have := any_of_I _ _ _ _ (I_of_flo2 (md := .any) hB.1 hQ r G _ a w.drew hB.2 h)
  refine wp_region_any hm ?_
  have e : l.toArray.size = r.length := by simp [hn]
  rw [e] at this ⊢
  exact this
theorem flo2_read {i : Nat} {J : List Nat} {r : List Step} {G : Nat → World → Prop} {a : Act} {w : World} (o : Oper) (ho : ops[i]? = some o) (S : World → Prop) (hS : S w) (hJ : ∀ j ∈ J, ∀ W, G j W → S W)
    (h : ∀ K : Act → Prop, (∀ a, flo2 P ops Q r G a w → K a) → if Region.wanted o (yielded ops a.tmps) then readAt P o a S w K else K (a.put o.dst undef)) : flo2 P ops Q ((i, true, J) :: r) G a w :=
  ⟨o, ho, S, hS, hJ, h _ (fun _ h => h)⟩
theorem flo2_end {G : Nat → World → Prop} {a : Act} {w : World} (h : Q .normal a w) : flo2 P ops Q [] G a w := h
/-- What is owed behind an operation that is alone. -/
def floQ2 (P : Program) (ops : Array Oper) (Q : Exit → Act → World → Prop) (i : Nat) (r : List Step) (G : Nat → World → Prop) : Exit → Act → World → Prop
  | .normal, a, w => G i w ∧ ∃ G' : Nat → World → Prop, (∀ j W, G' j W → G j W) ∧ flo2 P ops Q r G' a w
  | x, a, w => Q x a w
theorem flo2_alone {i : Nat} {J : List Nat} {r : List Step} {G : Nat → World → Prop} {a : Act} {w : World} (o : Oper) (ho : ops[i]? = some o) (h : wpList P ops (floQ2 P ops Q i r G) [o] a w) : flo2 P ops Q ((i, false, J) :: r) G a w := by
  show wpOp P ops Q i _ a w
  unfold wpOp
  simp only [ho]
  have h1 : if Region.wanted o (yielded ops a.tmps) = true then Oper.wp P o a w (fun a' w' => floQ2 P ops Q i r G .normal a' w') (floQ2 P ops Q i r G) ∨ (o.asks P a w ∧ LetsOut (floQ2 P ops Q i r G)) else floQ2 P ops Q i r G .normal (a.put o.dst undef) w := h
  split
  · rename_i hw
    simp only [hw, if_true] at h1
    rcases h1 with h1 | h1
    · refine .inl ?_
      unfold Oper.wp at *
      generalize (execOp a.eval o).run P w = x at *
      cases x with
      | ok n w' =>
        cases n <;> simp only [Oper.upon] at h1 ⊢
        case enter f args => exact h1.mono fun e w'' h2 => by cases e <;> exact h2
        all_goals exact h1
      | halt x w' => cases x <;> simp only [Oper.upon] at h1 ⊢ <;> exact h1
    · exact .inr h1
  · rename_i hw
    simp only [hw] at h1
    exact h1
end
end Go.Proofs.Ytphhfdlhkginkaa.Hg
end
section
/- Words of this work: a region of open order whose first operations only read, whose one great operation waits for all of them, and whose last operations only read, too. No program in sight. -/
set_option linter.unusedVariables false
set_option linter.unusedSimpArgs false
namespace Go.Proofs.Ytphhfdlhkginkaa.Hr
open Go
section
variable {P : Program} {ops : Array Oper} {md : Region.Mode} {w : World}
/-- Every operation behind the n-th waits for one from the n-th on. -/
def backB (md : Region.Mode) (ops : Array Oper) (n : Nat) : Bool :=
  (List.range ops.size).all fun t => decide (t ≤ n) || (List.range t).any fun j => decide (n ≤ j) && Region.waitsFor md ops t j
theorem back_waits {n : Nat} {listed : Array Bool} (hs : Region.sinkB md ops n = true) (hc : backB md ops n = true) (hn : n < ops.size) (inv : HeadInv md ops n listed) :
    ∀ (d i : Nat), n - i = d → i < n → listed.getD i true = false → ∀ t, n ≤ t → t ∉ Region.ready md ops listed := by
  intro d
  induction d using Nat.strongRecOn with
  | _ d ih =>
    intro i hd hi hun t ht hr
    obtain ⟨_, ot, hot, hall⟩ := mem_ready.1 hr
    have htlt : t < ops.size := (Array.getElem?_eq_some_iff.1 hot).1
    by_cases htn : t = n
    · subst htn
      have h1 := List.all_eq_true.1 hs i (List.mem_range.2 hi)
      obtain ⟨j, hj, hj2⟩ := List.any_eq_true.1 h1
      simp only [Bool.and_eq_true, decide_eq_true_eq] at hj2
      obtain ⟨oj, hoj, e, he, hb, hon⟩ := Region.waitsFor_spec hj2.2
      have hjle : j ≤ t := by have := List.mem_range.1 hj; omega
      by_cases hjt : j = t
      · subst hjt
        have : oj = ot := Option.some.inj (hoj.symm.trans hot)
        subst this
        have h2 := hall e he hb
        rw [hon, getD_both hun] at h2
        cases h2
      · cases hl : listed.getD j false with
        | true =>
          have h2 := inv.closed j oj hoj hl e he hb
          rw [hon, getD_both hun] at h2
          cases h2
        | false =>
          have hjs : j < listed.size := by rw [inv.size]; omega
          exact ih (t - j) (by omega) j rfl (by omega) (getD_in hjs hl) t (Nat.le_refl _) hr
    · have h1 := List.all_eq_true.1 hc t (List.mem_range.2 htlt)
      simp only [Bool.or_eq_true, decide_eq_true_eq] at h1
      rcases h1 with h1 | h1
      · omega
      · obtain ⟨j, hj, hj2⟩ := List.any_eq_true.1 h1
        simp only [Bool.and_eq_true, decide_eq_true_eq] at hj2
        have hjt := List.mem_range.1 hj
        obtain ⟨o', ho', e, he, hb, hon⟩ := Region.waitsFor_spec hj2.2
        have : o' = ot := Option.some.inj (ho'.symm.trans hot)
        subst this
        have h2 := hall e he hb
        rw [hon, getD_both (inv.tail j hj2.1 (by omega))] at h2
        cases h2
theorem head_first {n i : Nat} {oi : Oper} {v : Value} {L : Array Bool → Act → Prop} (hi : ops[i]? = some oi) (hsel : ∀ (j : Nat) (o : Oper) cs b, ops[j]? = some o → o.op ≠ .select cs b)
    (hs : Region.sinkB md ops n = true) (hc : backB md ops n = true) (hn : n < ops.size) (hin : i < n)
    (hdone : ∀ listed a, L listed a → ∀ j ∈ Region.ready md ops listed, n ≤ j) :
    ∀ (f : Nat) (listed : Array Bool) (a : Act), HeadInv md ops n listed →
      (∀ j oj, ops[j]? = some oj → j ≠ i → listed.getD j true = false → (∀ e ∈ oj.after, Region.binds md e = true → e.on ≠ i) → oi.apart ops oj = true) →
      i ∈ Region.ready md ops listed → YieldsAt P ops w oi v a →
      wpAnyL P md ops w n L f (listed.setIfInBounds i true) (a.put oi.dst v) → wpAnyL P md ops w n L (f + 1) listed a := by
  intro f
  induction f with
  | zero =>
    intro listed a inv _ hr hy H
    have hun := (mem_ready.1 hr).1
    refine ⟨fun h => (by rw [h] at hr; cases hr), fun j hj => ?_⟩
    have hjn : j < n := by
      rcases Nat.lt_or_ge j n with h | h
      · exact h
      · exact absurd hj (back_waits hs hc hn inv _ i rfl hin hun j h)
    refine ⟨hjn, ?_⟩
    by_cases hji : j = i
    · subst hji; exact hy.stOp hi H
    · have := hdone _ _ H j (ready_mono hj hji)
      omega
  | succ f ih =>
    intro listed a inv hfree hr hy H
    have hun := (mem_ready.1 hr).1
    refine ⟨fun h => (by rw [h] at hr; cases hr), fun j hj => ?_⟩
    have hjn : j < n := by
      rcases Nat.lt_or_ge j n with h | h
      · exact h
      · exact absurd hj (back_waits hs hc hn inv _ i rfl hin hun j h)
    refine ⟨hjn, ?_⟩
    by_cases hji : j = i
    · subst hji; exact hy.stOp hi H
    · have h1 := (H.2 j (ready_mono hj hji)).2
      obtain ⟨hjun, oj, hoj, hall⟩ := mem_ready.1 hj
      have hnot : ∀ e ∈ oj.after, Region.binds md e = true → e.on ≠ i := fun e he hb heq => by
        have h1 := hall e he hb
        rw [heq, getD_both hun] at h1
        cases h1
      have h2 := stOp_put hoj (hfree j oj hoj hji hjun hnot) (fun cs b => hsel i oi cs b hi) (fun cs b => hsel j oj cs b hoj) hy h1
      have hfree' : ∀ k ok, ops[k]? = some ok → k ≠ i → (listed.setIfInBounds j true).getD k true = false →
          (∀ e ∈ ok.after, Region.binds md e = true → e.on ≠ i) → oi.apart ops ok = true := fun k ok hk hki hun hno => by
        refine hfree k ok hk hki ?_ hno
        by_cases hjk : j = k
        · subst hjk; exact hjun
        · rw [getD_set_ne true hjk] at hun; exact hun
      refine stOp_mono (fun a' h3 => ih (listed.setIfInBounds j true) a' (inv.set hj hjn) hfree' (ready_mono hr (Ne.symm hji)) h3.1 ?_) h2
      rw [Array.setIfInBounds_comm _ _ hji]
      exact h3.2
def lexMid (md : Region.Mode) (ops : Array Oper) (g : Nat) : Nat → Nat → Array Bool → Bool
  | 0, k, listed => decide (Region.ready md ops listed = [k]) && Region.lexFrom md ops g (k + 1) (listed.setIfInBounds k true)
  | f + 1, k, listed => (Region.ready md ops listed).contains k && Region.free md ops listed k && lexMid md ops g f (k + 1) (listed.setIfInBounds k true)
def midB (md : Region.Mode) (ops : Array Oper) (n : Nat) : Bool :=
  Region.noSelect ops && decide (n < ops.size) && Region.sinkB md ops n && backB md ops n && lexMid md ops (ops.size - n - 1) n 0 (Array.replicate ops.size false)
theorem head_lex {n g : Nat} {Lq : Act → Prop} (hsel : Region.noSelect ops = true) (hs : Region.sinkB md ops n = true) (hc : backB md ops n = true) (hn : n < ops.size) :
    ∀ (l : List Oper) (k : Nat) (listed : Array Bool) (a : Act), (∀ j, j < l.length → l[j]? = ops[k + j]?) → k + l.length = n → HeadInv md ops n listed →
    lexMid md ops g l.length k listed = true → wpStill P ops w Lq l a →
    wpAnyL P md ops w n (fun listed' a' => (Region.ready md ops listed' = [n] ∧ Region.lexFrom md ops g (n + 1) (listed'.setIfInBounds n true) = true) ∧ Lq a') l.length listed a
  | [], k, listed, a, _, hk, _, hB, h => by
    have : k = n := by simpa using hk
    subst this
    exact ⟨by simpa [lexMid] using hB, h⟩
  | o :: l, k, listed, a, hl, hk, inv, hB, h => by
    have h0 : ops[k]? = some o := by simpa using (hl 0 (by simp)).symm
    simp only [List.length_cons, lexMid, Bool.and_eq_true] at hB
    obtain ⟨⟨hr, hf⟩, hB'⟩ := hB
    have hkn : k < n := by simp only [List.length_cons] at hk; omega
    have hr' : k ∈ Region.ready md ops listed := by simpa using hr
    have hst : stOp P ops w k (wpStill P ops w Lq l) a := by unfold stOp; simp only [h0]; exact h
    obtain ⟨v, hy, hK⟩ := yieldsAt_of_stOp h0 hst
    exact head_first h0 (Region.noSelect_spec hsel) hs hc hn hkn (fun listed' a' hL j hj => by rw [hL.1.1] at hj; simp at hj; omega) l.length listed a inv (Region.free_spec h0 hf) hr' hy
      (head_lex hsel hs hc hn l (k + 1) _ _ (fun j hj => by have := hl (j + 1) (by simp; omega); simpa [Nat.add_assoc, Nat.add_comm 1 j] using this) (by simp only [List.length_cons] at hk; omega) (inv.set hr' hkn) hB' hK)
/-- What is owed behind the great operation: the rest, each of which only reads. -/
def midQ (P : Program) (ops : Array Oper) (Q : Exit → Act → World → Prop) (l : List Oper) : Exit → Act → World → Prop
  | .normal, a, w => wpStill P ops w (fun a' => Q .normal a' w) l a
  | x, a, w => Q x a w
theorem midQ_out {Q : Exit → Act → World → Prop} {l : List Oper} (h : LetsOut (midQ P ops Q l)) : LetsOut Q := h
theorem wpOp_mid {Q : Exit → Act → World → Prop} {l : List Oper} {i : Nat} {a : Act} {w : World} {K K' : Act → World → Prop} (h : ∀ a w, K a w → K' a w)
    (hh : wpOp P ops (midQ P ops Q l) i K a w) : wpOp P ops Q i K' a w := by
  have h1 := wpOp_mono h hh
  clear hh
  unfold wpOp at *
  split
  · simpa [*] using h1
  · rename_i o ho
    simp only [ho] at h1
    split
    · rename_i hw
      simp only [hw, if_true] at h1
      rcases h1 with h1 | h1
      · refine .inl ?_
        unfold Oper.wp at *
        generalize (execOp a.eval o).run P w = r at *
        cases r with
        | ok n w' =>
          cases n <;> simp only [Oper.upon] at h1 ⊢
          case enter f args => exact h1.mono fun e w'' h2 => by cases e <;> first | exact h2 | exact midQ_out h2
          all_goals exact h1
        | halt x w' => cases x <;> simp only [Oper.upon] at h1 ⊢ <;> exact h1
      · exact .inr ⟨h1.1, midQ_out h1.2⟩
    · rename_i hw
      simp only [hw] at h1
      exact h1
theorem wp_region_mid {id : Nat} {Q : Exit → Act → World → Prop} {a : Act} {w : World} {l : List Oper} (n : Nat) (o : Oper) (hm : P.follows .mixedOrders = true) (hB : midB .any l.toArray n = true) (ho : l[n]? = some o)
    (h : wpStill P l.toArray { w with drawn := w.drawn + 1 } (fun a' => wpList P l.toArray (midQ P l.toArray Q (l.drop (n + 1))) [o] a' { w with drawn := w.drawn + 1 }) (l.take n) a) : (Code.region id l.toArray true).wp P Q a w := by
  simp only [midB, Bool.and_eq_true, decide_eq_true_eq] at hB
  obtain ⟨⟨⟨⟨hsel, hn⟩, hs⟩, hc⟩, hlex⟩ := hB
  have hn' : n < l.length := by simpa using hn
  have htl : (l.take n).length = n := by simp; omega
  have hdl : (l.drop (n + 1)).length = l.toArray.size - n - 1 := by simp; omega
  have inv0 : HeadInv .any l.toArray n (Array.replicate l.toArray.size false) :=
    ⟨by simp, fun j oj _ hl => (by rw [getD_replicate_false] at hl; cases hl), fun t _ ht => getD_in (by simpa using ht) (getD_replicate_false _ _)⟩
  have H := head_lex (md := .any) (g := l.toArray.size - n - 1) hsel hs hc hn (l.take n) 0 _ a (fun j hj => by
    have hj' : j < n := by rw [htl] at hj; exact hj
    simp [hj']) (by simpa using htl) inv0 (by rw [htl]; exact hlex) h
  refine wp_region_any hm ?_
  have := wpAny_of_head (Q' := Q) (g := (l.toArray.size - n - 1) + 1) (fun listed a' hL => by
    obtain ⟨⟨hr, hf⟩, hw⟩ := hL
    refine ⟨fun h0 => (by rw [h0] at hr; cases hr), fun i hi => ?_⟩
    rw [hr] at hi
    have hik : i = n := by simpa using hi
    subst hik
    have hw2 : wpOp P l.toArray (midQ P l.toArray Q (l.drop (i + 1))) i (fun a'' w'' => wpStill P l.toArray w'' (fun a3 => Q .normal a3 w'') (l.drop (i + 1)) a'') a' { w with drawn := w.drawn + 1 } := by
      unfold wpOp
      have : l.toArray[i]? = some o := by simpa using ho
      simp only [this]
      exact hw
    refine wpOp_mid (fun a'' w'' h'' => ?_) hw2
    have h3 := wpAnyS_lex (md := .any) (Q := fun a3 => Q .normal a3 w'') hsel (l.drop (i + 1)) (i + 1) (listed.setIfInBounds i true) a'' (fun j => by simp [List.getElem?_drop]) (by rw [hdl]; exact hf) h''
    rw [hdl] at h3
    exact wpAny_of_still (fun a4 h4 => h4) _ _ _ h3) _ _ _ H
  have hsz : l.toArray.size = l.length := by simp
  have e : n + ((l.toArray.size - n - 1) + 1) = l.toArray.size := by omega
  rw [htl, e] at this
  exact this
end
end Go.Proofs.Ytphhfdlhkginkaa.Hr
end
section
/- Words of this work: a scope with one label to which the run jumps back: the pass from the label is walked once, and serves the first time, too. No program in sight. -/
set_option linter.unusedVariables false
namespace Go.Proofs.Ytphhfdlhkginkaa.Ht
section
variable {P : Program} {a : Act} {w : World} {Q : Exit → Act → World → Prop}
theorem wp_scope_once {c rest : Code} (l : Nat) (J : Act → World → Prop) (μ : Act → World → Nat) (hf : findLabel c l = some (Code.skip.seq rest))
    (pass : ∀ a w, J a w → rest.wp P (Exit.jump l (fun a' w' => J a' w' ∧ μ a' w' < μ a w) Q) a w)
    (first : (∀ a w, J a w → rest.wp P (Exit.jump l J Q) a w) → c.wp P (Exit.jump l J Q) a w) : (Code.scope c).wp P Q a w :=
  wp_scope_jumps l J μ hf (first fun a w h => wp_mono (pass a w h) (by
    intro e a w h
    cases e with
    | goto l' => exact ⟨h.1, h.2.1⟩
    | _ => exact h)) (fun a w h => wp_seq (wp_skip (pass a w h)))
end
end Go.Proofs.Ytphhfdlhkginkaa.Ht
end
section
/- Words of this work: a map filled by inserts in whatever order. No program in sight. -/
set_option linter.unusedVariables false
set_option linter.unusedSimpArgs false
namespace Go.Proofs.Ytphhfdlhkginkaa.Hq
open Go.RowKit Hm
section
variable {P : Program} {w : World} {b : Nat} {l : List (Int × Value)} {ops : Array Oper} {rest : List Oper} {o : Oper} {a : Act} {Q : Exit → Act → World → Prop}
theorem wp_insert (h : IMap w b l) (hg : o.guard = none) (m x y : Operand) (t kt et : TypeId) (hop : o.op = Op.insert t m x y)
    (ht : P.underlying t = some (.map kt et)) (hk : P.underlying kt = some (.int .i64))
    (hm : a.eval m = .map (some b)) (k : Int) (hx : a.eval x = .int .i64 k) (v : Value) (hy : a.eval y = v)
    (hK : ∀ w', IMap w' b (put_ l k v) → Turns [b] w w' → wpList P ops Q rest (a.put o.dst undef) w') :
    wpList P ops Q (o :: rest) a w := by
  refine wpList_plain hg fun K' hK' => ?_
  obtain ⟨w', hrun, r1, r2⟩ := run_update h ht hk k v
  unfold Oper.wp
  simp [execOp, hop, hm, hx, hy, hrun, Result.andThen]
  exact hK' _ _ (hK w' r1 r2)
end
theorem put_fresh {l : List (Int × Value)} {k : Int} {v : Value} (h : ∀ p ∈ l, p.1 ≠ k) : put_ l k v = l ++ [(k, v)] := by
  unfold put_
  rw [if_neg]
  intro hc
  obtain ⟨p, hp, he⟩ := List.any_eq_true.1 hc
  exact h p hp (by simpa using he)
theorem once_perm {l m : List (Int × Value)} (h : l.Perm m) (ho : Once m) : Once l := by
  unfold Once at *
  exact ((h.map (·.1)).nodup_iff).2 ho
theorem at_perm {l m : List (Int × Value)} (h : l.Perm m) (ho : Once m) (k : Int) : at_ l k = at_ m k := by
  have hl := once_perm h ho
  by_cases hk : ∃ p ∈ m, p.1 = k
  · obtain ⟨p, hp, rfl⟩ := hk
    rw [at_some ho (k := p.1) (v := p.2) hp, at_some hl (k := p.1) (v := p.2) (h.mem_iff.2 hp)]
  · rw [at_none (fun p hp e => hk ⟨p, hp, e⟩), at_none (fun p hp e => hk ⟨p, h.mem_iff.1 hp, e⟩)]
/-- of the inserts g those of rem are left; nothing else has turned since w0 -/
structure Fill (w0 : World) (m : Nat) (pr : Nat → Int × Value) (g rem : List Nat) (w : World) : Prop where
  sub : ∀ i ∈ rem, i ∈ g
  nd : rem.Nodup
  map : ∃ l, IMap w m l ∧ (l ++ rem.map pr).Perm (g.map pr)
  t : Turns [] w0 w
theorem Fill.start {w0 w : World} {m : Nat} {pr : Nat → Int × Value} {g : List Nat} (hm : IMap w m []) (hg : g.Nodup) (t : Turns [] w0 w) : Fill w0 m pr g g w := ⟨fun i hi => hi, hg, ⟨[], hm, by simp⟩, t⟩
theorem Fill.step {w0 w w' : World} {m : Nat} {pr : Nat → Int × Value} {g rem : List Nat} {l : List (Int × Value)} (h : Fill w0 m pr g rem w) (hl : IMap w m l) (hp : (l ++ rem.map pr).Perm (g.map pr)) (ho : Once (g.map pr)) (hm : w0.heap.size ≤ m) {i : Nat} (hi : i ∈ rem) (k : Int) (v : Value) (hpr : pr i = (k, v)) (h1 : IMap w' m (put_ l k v)) (h2 : Turns [m] w w') : Fill w0 m pr g (rem.erase i) w' := by
  have hO : Once (l ++ rem.map pr) := once_perm hp ho
  unfold Once at hO
  rw [List.map_append, List.nodup_append] at hO
  have hne : ∀ p ∈ l, p.1 ≠ k := fun p hp' e => hO.2.2 p.1 (List.mem_map.2 ⟨p, hp', rfl⟩) k (List.mem_map.2 ⟨pr i, List.mem_map.2 ⟨i, hi, rfl⟩, by rw [hpr]⟩) e
  rw [put_fresh hne] at h1
  refine ⟨fun j hj => h.sub j (List.mem_of_mem_erase hj), h.nd.erase i, ⟨l ++ [(k, v)], h1, ?_⟩, h.t.then h2 (by simpa using hm)⟩
  have e1 : (rem.map pr).Perm ((k, v) :: (rem.erase i).map pr) := by
    have := (List.perm_cons_erase hi).map pr
    rw [List.map_cons, hpr] at this
    exact this
  refine List.Perm.trans ?_ hp
  rw [List.append_assoc]
  exact List.Perm.append_left l e1.symm
theorem Fill.done {w0 w : World} {m : Nat} {pr : Nat → Int × Value} {g : List Nat} (h : Fill w0 m pr g [] w) (ho : Once (g.map pr)) : ∃ l, IMap w m l ∧ ∀ k, at_ l k = at_ (g.map pr) k := by
  obtain ⟨l, h1, h2⟩ := h.map
  simp only [List.map_nil, List.append_nil] at h2
  exact ⟨l, h1, fun k => at_perm h2 ho k⟩
end Go.Proofs.Ytphhfdlhkginkaa.Hq
end
section
/- Words of this work: as XHg, where several great operations may come up at once: two of them (each order is walked), or a group of them (told by an invariant of those that are left). No program in sight. -/
set_option linter.unusedVariables false
set_option linter.unusedSimpArgs false
namespace Go.Proofs.Ytphhfdlhkginkaa.Hi
open Go Hf Hg
section
variable {P : Program} {ops : Array Oper} {md : Region.Mode} {Q : Exit → Act → World → Prop}
inductive Tr where
  | done : Tr
  | read (i : Nat) (J : List Nat) (t : Tr) : Tr
  | alone (i : Nat) (t : Tr) : Tr
  | fork (i : Nat) (t : Tr) (j : Nat) (u : Tr) : Tr
  | group (g : List Nat) (t : Tr) : Tr
def sz : Tr → Nat
  | .done => 0
  | .read _ _ t => sz t + 1
  | .alone _ t => sz t + 1
  | .fork _ t _ _ => sz t + 1
  | .group g t => sz t + g.length
def great : Tr → Nat → Bool
  | .done, _ => false
  | .read _ _ t, k => great t k
  | .alone i t, k => i == k || great t k
  | .fork i t j u, k => i == k || j == k || great t k || great u k
  | .group g t, k => g.contains k || great t k
def flo3 (P : Program) (ops : Array Oper) (Q : Exit → Act → World → Prop) : Tr → (Nat → World → Prop) → Act → World → Prop
  | .done, _, a, w => Q .normal a w
  | .read i J t, G, a, w => ∃ o, ops[i]? = some o ∧ ∃ S : World → Prop, S w ∧ (∀ j ∈ J, ∀ W, G j W → S W) ∧ if Region.wanted o (yielded ops a.tmps) then readAt P o a S w (fun a' => flo3 P ops Q t G a' w) else flo3 P ops Q t G (a.put o.dst undef) w
  | .alone i t, G, a, w => wpOp P ops Q i (fun a' w' => G i w' ∧ ∃ G' : Nat → World → Prop, (∀ j W, G' j W → G j W) ∧ flo3 P ops Q t G' a' w') a w
  | .fork i t j u, G, a, w => wpOp P ops Q i (fun a' w' => G i w' ∧ ∃ G' : Nat → World → Prop, (∀ j W, G' j W → G j W) ∧ flo3 P ops Q t G' a' w') a w ∧ wpOp P ops Q j (fun a' w' => G j w' ∧ ∃ G' : Nat → World → Prop, (∀ j W, G' j W → G j W) ∧ flo3 P ops Q u G' a' w') a w
  | .group g t, G, a, w => ∃ K : List Nat → Act → World → Prop, K g a w ∧ (∀ rem a w, K rem a w → ∀ i ∈ rem, wpOp P ops Q i (fun a' w' => G i w' ∧ K (rem.erase i) a' w') a w) ∧ ∀ a w, K [] a w → flo3 P ops Q t G a w
def setAll (listed : Array Bool) (D : List Nat) : Array Bool := D.foldl (fun l i => l.setIfInBounds i true) listed
def subs : List Nat → List (List Nat)
  | [] => [[]]
  | x :: r => subs r ++ (subs r).map (x :: ·)
def groupB (md : Region.Mode) (ops : Array Oper) (g : List Nat) (listed : Array Bool) : Bool :=
  (subs g).all fun D => D.length == g.length || decide (Region.ready md ops (setAll listed D) = g.filter (fun x => !D.contains x))
def floB3 (md : Region.Mode) (ops : Array Oper) : Tr → Array Bool → Bool
  | .done, listed => (Region.ready md ops listed).isEmpty
  | .read i J t, listed => (Region.ready md ops listed).contains i && Region.free md ops listed i && (List.range ops.size).all (fun j => j == i || listed.getD j true || waits md ops j i || !great t j || J.contains j) && floB3 md ops t (listed.setIfInBounds i true)
  | .alone i t, listed => decide (Region.ready md ops listed = [i]) && floB3 md ops t (listed.setIfInBounds i true)
  | .fork i t j u, listed => decide (Region.ready md ops listed = [i, j]) && decide (sz u = sz t) && floB3 md ops t (listed.setIfInBounds i true) && floB3 md ops u (listed.setIfInBounds j true)
  | .group g t, listed => decide g.Nodup && groupB md ops g listed && floB3 md ops t (setAll listed g)
def only3 (t : Tr) (G : Nat → World → Prop) : Nat → World → Prop := fun j W => great t j = true ∧ G j W
theorem only3_mono {t u : Tr} {G G' : Nat → World → Prop} (ht : ∀ j, great t j = true → great u j = true) (h : ∀ j W, G' j W → G j W) : ∀ j W, only3 t G' j W → only3 u G j W := fun j W ⟨h1, h2⟩ => ⟨ht j h1, h j W h2⟩
theorem filter_subs (p : Nat → Bool) : ∀ g : List Nat, g.filter p ∈ subs g
  | [] => by simp [subs]
  | x :: r => by
    rw [List.filter_cons]
    unfold subs
    split
    · exact List.mem_append_right _ (List.mem_map.2 ⟨_, filter_subs p r, rfl⟩)
    · exact List.mem_append_left _ (filter_subs p r)
theorem setAll_perm {base : Array Bool} {D E : List Nat} (h : D.Perm E) : setAll base D = setAll base E := by
  induction h generalizing base with
  | nil => rfl
  | cons x _ ih => exact ih
  | swap x y l =>
    show setAll ((base.setIfInBounds y true).setIfInBounds x true) l = setAll ((base.setIfInBounds x true).setIfInBounds y true) l
    by_cases e : x = y
    · rw [e]
    · rw [Array.setIfInBounds_comm _ _ (Ne.symm e)]
  | trans _ _ ih1 ih2 => exact ih1.trans ih2
theorem group_sound {G : Nat → World → Prop} {m : Nat} {g : List Nat} {base : Array Bool} {K : List Nat → Act → World → Prop} (hK : ∀ rem a w, K rem a w → ∀ i ∈ rem, wpOp P ops Q i (fun a' w' => G i w' ∧ K (rem.erase i) a' w') a w)
    (hend : ∀ a w, K [] a w → anyI P md ops Q G m (setAll base g) a w) (hnd : g.Nodup) (hB : groupB md ops g base = true) : ∀ (n : Nat) (D : List Nat) (a : Act) (w : World), D.Nodup → (∀ x ∈ D, x ∈ g) → g.length = D.length + n → K (g.filter (fun x => !D.contains x)) a w → anyI P md ops Q G (m + n) (setAll base D) a w
  | 0, D, a, w, hD, hs, hl, h => by
    have hp0 : (g.filter (fun x => D.contains x)).Perm D := (List.perm_ext_iff_of_nodup (hnd.filter _) hD).2 (fun x => by
      simp only [List.mem_filter, List.contains_iff_mem]
      exact ⟨fun h => h.2, fun h => ⟨hs x h, h⟩⟩)
    have hg : g.filter (fun x => D.contains x) = g := List.filter_eq_self.2 (List.length_filter_eq_length_iff.1 (by rw [hp0.length_eq]; omega))
    rw [hg] at hp0
    have hp := hp0.symm
    have e : g.filter (fun x => !D.contains x) = [] := List.filter_eq_nil_iff.2 (fun x hx => by simpa using hp.mem_iff.2 hx)
    rw [e] at h
    rw [setAll_perm hp]
    exact hend a w h
  | n + 1, D, a, w, hD, hs, hl, h => by
    have hp : (g.filter (fun x => D.contains x)).Perm D := (List.perm_ext_iff_of_nodup (hnd.filter _) hD).2 (fun x => by
      simp only [List.mem_filter, List.contains_iff_mem]
      exact ⟨fun h => h.2, fun h => ⟨hs x h, h⟩⟩)
    have hc := List.all_eq_true.1 hB _ (filter_subs (fun x => D.contains x) g)
    have hlen := hp.length_eq
    have hne : ((g.filter (fun x => D.contains x)).length == g.length) = false := by rw [hlen]; simp; omega
    rw [hne, Bool.false_or, decide_eq_true_eq, setAll_perm hp] at hc
    have e2 : g.filter (fun x => !(g.filter (fun x => D.contains x)).contains x) = g.filter (fun x => !D.contains x) := List.filter_congr (fun x hx => by
      congr 1
      rw [Bool.eq_iff_iff]
      simp only [List.contains_iff_mem]
      exact hp.mem_iff)
    rw [e2] at hc
    refine ⟨fun h0 => ?_, fun i hi => ?_⟩
    · rw [hc] at h0
      have : ∀ x ∈ g, x ∈ D := fun x hx => by simpa using List.filter_eq_nil_iff.1 h0 x hx
      have hg : g.filter (fun x => D.contains x) = g := List.filter_eq_self.2 (fun x hx => by simpa using this x hx)
      rw [hg] at hlen
      omega
    · rw [hc] at hi
      obtain ⟨hi1, hi2⟩ := List.mem_filter.1 hi
      have hi3 : i ∉ D := by simpa using hi2
      have e3 : (g.filter (fun x => !D.contains x)).erase i = g.filter (fun x => !(D ++ [i]).contains x) := by
        rw [List.Nodup.erase_eq_filter (hnd.filter _) i, List.filter_filter]
        refine List.filter_congr (fun x _ => ?_)
        by_cases hx : x = i <;> simp [hx]
      refine wpOp_mono (fun a' w' h' => ⟨.inr h'.1, ?_⟩) (hK _ a w h i hi)
      have h2 := h'.2
      rw [e3] at h2
      have := group_sound hK hend hnd hB n (D ++ [i]) a' w' (List.nodup_append.2 ⟨hD, by simp, fun x hx y hy e => by simp at hy; subst hy; subst e; exact hi3 hx⟩) (fun x hx => by
        rcases List.mem_append.1 hx with h | h
        · exact hs x h
        · simp at h; subst h; exact hi1) (by rw [List.length_append, List.length_singleton]; omega) h2
      unfold setAll at this ⊢
      rw [List.foldl_append] at this
      exact this
theorem I_of_flo3 (hsel : Region.noSelect ops = true) (hQ : ∀ c d v a w, Q (.panic c) (a.put d v) w → Q (.panic c) a w) : ∀ (t : Tr) (G : Nat → World → Prop) (listed : Array Bool) (a : Act) (w : World),
    floB3 md ops t listed = true → flo3 P ops Q t G a w → anyI P md ops Q (only3 t G) (sz t) listed a w
  | .done, G, listed, a, w, hB, h => by
    simp only [floB3, List.isEmpty_iff] at hB
    exact ⟨hB, h⟩
  | .read i J t, G, listed, a, w, hB, h => by
    simp only [floB3, Bool.and_eq_true] at hB
    obtain ⟨⟨⟨hr, hf⟩, hJ⟩, hB'⟩ := hB
    obtain ⟨o, ho, S, hS, hGS, h⟩ := h
    have hfr : ∀ j oj, ops[j]? = some oj → j ≠ i → listed.getD j true = false → (∀ e ∈ oj.after, Region.binds md e = true → e.on ≠ i) → o.apart ops oj = true ∧ ∀ W, only3 (.read i J t) G j W → S W := fun j oj hj hji hun hno => by
      refine ⟨Region.free_spec ho hf j oj hj hji hun hno, fun W hW => ?_⟩
      obtain ⟨h1, h2⟩ := hW
      have hlt : j < ops.size := (Array.getElem?_eq_some_iff.1 hj).1
      have h3 := List.all_eq_true.1 hJ j (List.mem_range.2 hlt)
      have h4 : waits md ops j i = false := by
        unfold waits
        rw [hj]
        simp only
        rw [Bool.eq_false_iff]
        intro hc
        obtain ⟨k, hk, he⟩ := Array.any_eq_true.1 hc
        simp only [Bool.and_eq_true, beq_iff_eq] at he
        exact hno _ (Array.getElem_mem hk) he.1 he.2
      have h5 : great t j = true := h1
      have h6 : (j == i) = false := by simpa using hji
      rw [h4, h5, h6, hun] at h3
      simp only [Bool.or_false, Bool.not_true, Bool.false_or] at h3
      exact hGS j (by simpa using h3) W h2
    have hr' : i ∈ Region.ready md ops listed := by simpa using hr
    split at h
    · rename_i hw
      unfold readAt at h
      cases hrun : (execOp a.eval o).run P w with
      | ok n w' =>
        rw [hrun] at h
        cases n <;> simp only [readUpon] at h
        exact I_first ho (Region.noSelect_spec hsel) (fun c a w => hQ c _ _ a w) (sz t) listed a w hfr hr' (.inl ⟨hw, h.1⟩) hS (I_of_flo3 hsel hQ t G _ _ w hB' h.2)
      | halt x w' =>
        rw [hrun] at h
        simp only [readUpon] at h
    · rename_i hw
      exact I_first ho (Region.noSelect_spec hsel) (fun c a w => hQ c _ _ a w) (sz t) listed a w hfr hr' (.inr ⟨by simpa using hw, rfl⟩) hS (I_of_flo3 hsel hQ t G _ _ w hB' h)
  | .alone i t, G, listed, a, w, hB, h => by
    simp only [floB3, Bool.and_eq_true, decide_eq_true_eq] at hB
    obtain ⟨hr, hB'⟩ := hB
    refine ⟨fun h0 => (by rw [hr] at h0; cases h0), fun j hj => ?_⟩
    rw [hr] at hj
    have : j = i := by simpa using hj
    subst this
    refine wpOp_mono (fun a' w' h' => ?_) h
    obtain ⟨h1, G', hG', hf⟩ := h'
    exact ⟨.inr ⟨by unfold great; simp, h1⟩, I_grow (only3_mono (fun k hk => by unfold great; rw [hk, Bool.or_true]) hG') _ _ _ _ (I_of_flo3 hsel hQ t G' _ a' w' hB' hf)⟩
  | .fork i t k u, G, listed, a, w, hB, h => by
    simp only [floB3, Bool.and_eq_true, decide_eq_true_eq] at hB
    obtain ⟨⟨⟨hr, hsz⟩, hB1⟩, hB2⟩ := hB
    refine ⟨fun h0 => (by rw [hr] at h0; cases h0), fun j hj => ?_⟩
    rw [hr] at hj
    have : j = i ∨ j = k := by simpa using hj
    rcases this with rfl | rfl
    · refine wpOp_mono (fun a' w' h' => ?_) h.1
      obtain ⟨h1, G', hG', hf⟩ := h'
      exact ⟨.inr ⟨by unfold great; simp, h1⟩, I_grow (only3_mono (fun k hk => by unfold great; rw [hk]; simp) hG') _ _ _ _ (I_of_flo3 hsel hQ t G' _ a' w' hB1 hf)⟩
    · refine wpOp_mono (fun a' w' h' => ?_) h.2
      obtain ⟨h1, G', hG', hf⟩ := h'
      have := I_of_flo3 hsel hQ u G' _ a' w' hB2 hf
      rw [hsz] at this
      exact ⟨.inr ⟨by unfold great; simp, h1⟩, I_grow (only3_mono (fun k hk => by unfold great; rw [hk]; simp) hG') _ _ _ _ this⟩
  | .group g t, G, listed, a, w, hB, h => by
    simp only [floB3, Bool.and_eq_true, decide_eq_true_eq] at hB
    obtain ⟨⟨hnd, hB1⟩, hB2⟩ := hB
    obtain ⟨K, h1, h2, h3⟩ := h
    have h2' : ∀ rem a w, (K rem a w ∧ ∀ i ∈ rem, g.contains i = true) → ∀ i ∈ rem, wpOp P ops Q i (fun a' w' => only3 (.group g t) G i w' ∧ (K (rem.erase i) a' w' ∧ ∀ k ∈ rem.erase i, g.contains k = true)) a w := fun rem a w hk i hi =>
      wpOp_mono (fun a' w' h' => ⟨⟨by unfold great; rw [hk.2 i hi, Bool.true_or], h'.1⟩, h'.2, fun k hkm => hk.2 k (List.mem_of_mem_erase hkm)⟩) (h2 rem a w hk.1 i hi)
    have e : g.filter (fun x => !([] : List Nat).contains x) = g := List.filter_eq_self.2 (fun x _ => by simp)
    have := group_sound (K := fun rem a w => K rem a w ∧ ∀ i ∈ rem, g.contains i = true) (base := listed) h2' (fun a w hk => I_grow (only3_mono (fun k hk => by unfold great; rw [hk, Bool.or_true]) (fun _ _ h => h)) _ _ _ _ (I_of_flo3 hsel hQ t G _ a w hB2 (h3 a w hk.1))) hnd hB1 g.length [] a w (by simp) (by simp) (by simp) (by rw [e]; exact ⟨h1, fun i hi => by simpa using hi⟩)
    exact this
/-- The beginning. -/
theorem wp_region_flo3 {id : Nat} {a : Act} {w : World} {l : List Oper} (t : Tr) (G : Nat → World → Prop) (hm : P.follows .mixedOrders = true) (hn : sz t = l.length) (hB : (Region.noSelect l.toArray && floB3 .any l.toArray t (Array.replicate l.toArray.size false)) = true)
    (hQ : ∀ c d v a w, Q (.panic c) (a.put d v) w → Q (.panic c) a w) (h : flo3 P l.toArray Q t G a w.drew) : (Code.region id l.toArray true).wp P Q a w := by
  simp only [Bool.and_eq_true] at hB
  have := any_of_I _ _ _ _ (I_of_flo3 (md := .any) hB.1 hQ t G _ a w.drew hB.2 h)
  refine wp_region_any hm ?_
  have e : l.toArray.size = sz t := by simp [hn]
  rw [e] at this ⊢
  exact this
theorem flo3_read {i : Nat} {J : List Nat} {t : Tr} {G : Nat → World → Prop} {a : Act} {w : World} (o : Oper) (ho : ops[i]? = some o) (S : World → Prop) (hS : S w) (hJ : ∀ j ∈ J, ∀ W, G j W → S W)
    (h : ∀ K : Act → Prop, (∀ a, flo3 P ops Q t G a w → K a) → if Region.wanted o (yielded ops a.tmps) then readAt P o a S w K else K (a.put o.dst undef)) : flo3 P ops Q (.read i J t) G a w :=
  ⟨o, ho, S, hS, hJ, h _ (fun _ h => h)⟩
theorem flo3_end {G : Nat → World → Prop} {a : Act} {w : World} (h : Q .normal a w) : flo3 P ops Q .done G a w := h
/-- What is owed behind a great operation. -/
def floQ3 (Q : Exit → Act → World → Prop) (R : Act → World → Prop) : Exit → Act → World → Prop
  | .normal, a, w => R a w
  | x, a, w => Q x a w
theorem wpOp_of_list {i : Nat} {a : Act} {w : World} {R : Act → World → Prop} (o : Oper) (ho : ops[i]? = some o) (h : wpList P ops (floQ3 Q R) [o] a w) : wpOp P ops Q i R a w := by
  unfold wpOp
  simp only [ho]
  have h1 : if Region.wanted o (yielded ops a.tmps) = true then Oper.wp P o a w (fun a' w' => floQ3 Q R .normal a' w') (floQ3 Q R) ∨ (o.asks P a w ∧ LetsOut (floQ3 Q R)) else floQ3 Q R .normal (a.put o.dst undef) w := h
  split
  · rename_i hw
    simp only [hw, if_true] at h1
    rcases h1 with h1 | h1
    · refine .inl ?_
      unfold Oper.wp at *
      generalize (execOp a.eval o).run P w = x at *
      cases x with
      | ok n w' =>
        cases n <;> simp only [Oper.upon] at h1 ⊢
        case enter f args => exact h1.mono fun e w'' h2 => by cases e <;> exact h2
        all_goals exact h1
      | halt x w' => cases x <;> simp only [Oper.upon] at h1 ⊢ <;> exact h1
    · exact .inr h1
  · rename_i hw
    simp only [hw] at h1
    exact h1
theorem flo3_alone {i : Nat} {t : Tr} {G : Nat → World → Prop} {a : Act} {w : World} (o : Oper) (ho : ops[i]? = some o) (h : wpList P ops (floQ3 Q (fun a' w' => G i w' ∧ ∃ G' : Nat → World → Prop, (∀ j W, G' j W → G j W) ∧ flo3 P ops Q t G' a' w')) [o] a w) : flo3 P ops Q (.alone i t) G a w :=
  wpOp_of_list o ho h
theorem flo3_fork {i j : Nat} {t u : Tr} {G : Nat → World → Prop} {a : Act} {w : World} (o : Oper) (ho : ops[i]? = some o) (p : Oper) (hp : ops[j]? = some p)
    (h : wpList P ops (floQ3 Q (fun a' w' => G i w' ∧ ∃ G' : Nat → World → Prop, (∀ j W, G' j W → G j W) ∧ flo3 P ops Q t G' a' w')) [o] a w)
    (k : wpList P ops (floQ3 Q (fun a' w' => G j w' ∧ ∃ G' : Nat → World → Prop, (∀ j W, G' j W → G j W) ∧ flo3 P ops Q u G' a' w')) [p] a w) : flo3 P ops Q (.fork i t j u) G a w :=
  ⟨wpOp_of_list o ho h, wpOp_of_list p hp k⟩
theorem flo3_group {g : List Nat} {t : Tr} {G : Nat → World → Prop} {a : Act} {w : World} (K : List Nat → Act → World → Prop) (h1 : K g a w) (h2 : ∀ rem a w, K rem a w → ∀ i ∈ rem, wpOp P ops Q i (fun a' w' => G i w' ∧ K (rem.erase i) a' w') a w) (h3 : ∀ a w, K [] a w → flo3 P ops Q t G a w) : flo3 P ops Q (.group g t) G a w :=
  ⟨K, h1, h2, h3⟩
end
end Go.Proofs.Ytphhfdlhkginkaa.Hi
end
section
/- Words of this work: bytes that are read, as a string. No program in sight. -/
set_option linter.unusedVariables false
set_option linter.unusedSimpArgs false
namespace Go.Proofs.Ytphhfdlhkginkaa.Hb
open Go.RowKit Hm Hs
/-- the bytes, as a string -/
def strB (l : List Int) : ByteArray := l.foldl (fun r n => r.push (UInt8.ofNat n.toNat)) ByteArray.empty
theorem RdS.str {P : Program} {w : World} {v : Value} {l : List Int} (h : RdS 1 w v (bys l)) {src dst e : TypeId} (hs : P.underlying src = some (.slice e)) (he : P.underlying e = some (.int .u8)) (hd : P.underlying dst = some .string) :
    (convert src dst v).run P w = .ok (.string (strB l)) w := by
  have h0 := h
  obtain ⟨A, c, rfl, _, _, hn, hf, _⟩ := h
  cases A with
  | none =>
    have hc := hn rfl
    subst hc
    have hl : l = [] := by
      by_cases hl : l = []
      · exact hl
      · have : 0 < (bys l).length := by rw [bys_len]; exact Nat.pos_of_ne_zero (fun h0 => hl (List.length_eq_zero_iff.1 h0))
        obtain ⟨ad, h1, _⟩ := hf.2 this
        cases h1
    subst hl
    exact run_convert_bytes_nil w src e hs he 0 0 dst hd
  | some ad =>
    rw [run_convert_bytes_string w src dst e _ _ _ hs he hd]
    refine run_bytesToString w ad _ _ l ?_
    have hc := h0.cells (by decide) ad _ c rfl
    rw [bys_flat] at hc
    have := run_loadCells_list (P := P) (w := w) ad (l.map (Value.int .u8)) hc
    simpa using this
theorem RdS.of_blk {w : World} {b : Nat} {l : List Int} {t : TypeId} {cs : Array Value} {fr : Nat × Nat} (h : w.heap[b]? = some (.cells cs t fr)) (hx : cs.toList = l.map (Value.int .u8)) (c : Nat) (hc : l.length ≤ c) (hm : c ≤ 9223372036854775807) : RdS 1 w (.slice (some ⟨b, 0, Option.none⟩) l.length c) (bys l) :=
  ⟨some ⟨b, 0, Option.none⟩, c, by simp, by simpa using hc, hm, by simp, ⟨by simp; omega, fun _ => ⟨_, rfl, fun j r hj => by
    unfold bys at hj
    rw [List.getElem?_map] at hj
    cases hl : l[j]? with
    | none => rw [hl] at hj; cases hj
    | some x =>
      rw [hl] at hj
      simp only [Option.map_some, Option.some.injEq] at hj
      subst hj
      refine ⟨rfl, fun i u hu => ?_⟩
      cases i with
      | zero =>
        simp only [List.getElem?_cons_zero, Option.some.injEq] at hu
        subst hu
        rw [Nat.mul_one, Nat.add_zero, add_zero_]
        simp only [World.cell?, h, Option.isSome_none, Bool.false_eq_true, if_false]
        rw [← Array.getElem?_toList, hx, List.getElem?_map, hl]
        rfl
      | succ i => simp at hu⟩⟩, by intro r hr; obtain ⟨x, _, rfl⟩ := List.mem_map.1 hr; rfl⟩
theorem RdS.take {w : World} {A : Option Addr} {n c sz k : Nat} {rows : List (List Value)} (h : RdS sz w (.slice A n c) rows) (hk : k ≤ rows.length) : RdS sz w (.slice A k c) (rows.take k) := by
  obtain ⟨A', c', hv, hc, hm, hn, hf, hl⟩ := h
  injection hv with e1 e2 e3
  subst e1 e3
  have hlen : (rows.take k).length = k := by rw [List.length_take]; omega
  refine ⟨A, c, by rw [hlen], by omega, hm, hn, ⟨by have := hf.1; omega, fun hp => ?_⟩, fun r hr => hl r (List.mem_of_mem_take hr)⟩
  obtain ⟨ad, e, hh⟩ := hf.2 (by omega)
  refine ⟨ad, e, fun j r hj => hh j r ?_⟩
  rw [List.getElem?_take] at hj
  split at hj
  · exact hj
  · cases hj
theorem bys_take (l : List Int) (k : Nat) : (bys l).take k = bys (l.take k) := by unfold bys; rw [List.map_take]
end Go.Proofs.Ytphhfdlhkginkaa.Hb
end
section
/- Words of this work: going through a list by a predicate: the first place, what is kept. No program in sight. -/
set_option linter.unusedVariables false
set_option linter.unusedSimpArgs false
namespace Go.Proofs.Ytphhfdlhkginkaa.Ia
def ixFrom {α : Type} (p : α → Bool) : List α → Nat → Int
  | [], _ => -1
  | x :: r, j => if p x then (j : Int) else ixFrom p r (j + 1)
theorem ixFrom_is {α : Type} (p : α → Bool) : ∀ (R : List α) (j : Nat), (ixFrom p R j = -1 ∧ ∀ x ∈ R, p x = false) ∨ ∃ (i : Nat) (x : α), R[i]? = some x ∧ p x = true ∧ (∀ k, k < i → ∀ y, R[k]? = some y → p y = false) ∧ ixFrom p R j = ((j + i : Nat) : Int)
  | [], j => .inl ⟨rfl, by simp⟩
  | x :: r, j => by
    unfold ixFrom
    cases h : p x with
    | true => exact .inr ⟨0, x, rfl, h, fun k hk => by omega, by simp⟩
    | false =>
      rcases ixFrom_is p r (j + 1) with ⟨h1, h2⟩ | ⟨i, y, h1, h2, h3, h4⟩
      · refine .inl ⟨by simpa using h1, fun y hy => ?_⟩
        rcases List.mem_cons.1 hy with rfl | hy
        · exact h
        · exact h2 y hy
      · refine .inr ⟨i + 1, y, by simpa using h1, h2, fun k hk z hz => ?_, ?_⟩
        · cases k with
          | zero => simp at hz; subst hz; exact h
          | succ k => exact h3 k (by omega) z (by simpa using hz)
        · simp only [Bool.false_eq_true, if_false]
          rw [h4]
          congr 1
          omega
theorem drop_cons {α : Type} {R : List α} {j : Nat} {x : α} (h : R[j]? = some x) : R.drop j = x :: R.drop (j + 1) := by
  obtain ⟨h1, rfl⟩ := List.getElem?_eq_some_iff.1 h
  exact List.drop_eq_getElem_cons h1
/-- the list, while it is gone through: q are kept ahead, j have been seen -/
structure Mid {α : Type} (p : α → Bool) (l C : List α) (q j : Nat) : Prop where
  len : C.length = l.length
  kept : C.take q = (l.take j).filter (fun x => !p x)
  rest : C.drop j = l.drop j
  le : q < j
  ln : q = ((l.take j).filter (fun x => !p x)).length
theorem Mid.at_ {α : Type} {p : α → Bool} {l C : List α} {q j : Nat} (h : Mid p l C q j) {x : α} (hx : l[j]? = some x) : C[j]? = some x := by
  have := congrArg (fun l => l[0]?) h.rest
  simpa [List.getElem?_drop, hx] using this
theorem take_next {α : Type} {l : List α} {j : Nat} {x : α} (hx : l[j]? = some x) : l.take (j + 1) = l.take j ++ [x] := by rw [List.take_add_one, hx]; rfl
theorem Mid.skip {α : Type} {p : α → Bool} {l C : List α} {q j : Nat} (h : Mid p l C q j) {x : α} (hx : l[j]? = some x) (hp : p x = true) : Mid p l C q (j + 1) := by
  have e : (l.take (j + 1)).filter (fun x => !p x) = (l.take j).filter (fun x => !p x) := by rw [take_next hx, List.filter_append]; simp [hp]
  refine ⟨h.len, by rw [e]; exact h.kept, ?_, by have := h.le; omega, by rw [e]; exact h.ln⟩
  have := congrArg (List.drop 1) h.rest
  simpa [List.drop_drop] using this
theorem Mid.keep {α : Type} {p : α → Bool} {l C : List α} {q j : Nat} (h : Mid p l C q j) {x : α} (hx : l[j]? = some x) (hp : p x = false) : Mid p l (C.set q x) (q + 1) (j + 1) := by
  have hj := (List.getElem?_eq_some_iff.1 hx).1
  have hle := h.le
  have hlen := h.len
  have e : (l.take (j + 1)).filter (fun x => !p x) = (l.take j).filter (fun x => !p x) ++ [x] := by rw [take_next hx, List.filter_append]; simp [hp]
  refine ⟨by rw [List.length_set]; exact h.len, ?_, ?_, by omega, ?_⟩
  · rw [e, ← h.kept, List.take_add_one, List.getElem?_set_self (by omega), List.take_set_of_le (Nat.le_refl _)]
    rfl
  · rw [List.drop_set_of_lt (by omega)]
    have := congrArg (List.drop 1) h.rest
    simpa [List.drop_drop] using this
  · rw [e, List.length_append, ← h.ln]
    rfl
theorem Mid.done {α : Type} {p : α → Bool} {l C : List α} {q : Nat} (h : Mid p l C q l.length) : C.take q = l.filter (fun x => !p x) ∧ q = (l.filter (fun x => !p x)).length := by
  have h1 := h.kept
  have h2 := h.ln
  rw [List.take_length] at h1 h2
  exact ⟨h1, h2⟩
theorem Mid.start {α : Type} {p : α → Bool} {l : List α} {i : Nat} {x : α} (hx : l[i]? = some x) (hp : p x = true) (hb : ∀ k, k < i → ∀ y, l[k]? = some y → p y = false) : Mid p l l i (i + 1) := by
  have hi := (List.getElem?_eq_some_iff.1 hx).1
  have e0 : (l.take i).filter (fun x => !p x) = l.take i := List.filter_eq_self.2 (fun y hy => by
    obtain ⟨k, hk⟩ := List.getElem?_of_mem hy
    rw [List.getElem?_take] at hk
    split at hk
    · rename_i hki
      rw [hb k hki y hk]; rfl
    · cases hk)
  have e : (l.take (i + 1)).filter (fun x => !p x) = l.take i := by rw [take_next hx, List.filter_append, e0]; simp [hp]
  exact ⟨rfl, by rw [e], rfl, by omega, by rw [e, List.length_take]; omega⟩
end Go.Proofs.Ytphhfdlhkginkaa.Ia
end
section
/- Words of this work: slices of elements of several cells: copy, make, an append of a make, an element laid in. No program in sight. -/
set_option linter.unusedVariables false
set_option linter.unusedSimpArgs false
namespace Go.Proofs.Ytphhfdlhkginkaa.He
open Go.RowKit Go.MapKept Hm Hs Hx Hy Hz Hu
theorem chunks (sz : Nat) : ∀ (k : Nat) (L : List Value), L.length = k * sz → ∃ rows : List (List Value), rows.length = k ∧ (∀ r ∈ rows, r.length = sz) ∧ rows.flatten = L
  | 0, L, h => ⟨[], rfl, by simp, by rw [Nat.zero_mul] at h; simp [List.eq_nil_of_length_eq_zero h]⟩
  | k + 1, L, h => by
    rw [Nat.succ_mul] at h
    obtain ⟨rows, h1, h2, h3⟩ := chunks sz k (L.drop sz) (by rw [List.length_drop]; omega)
    refine ⟨L.take sz :: rows, by simp [h1], fun r hr => ?_, by rw [List.flatten_cons, h3, List.take_append_drop]⟩
    rcases List.mem_cons.1 hr with rfl | hr
    · rw [List.length_take]; omega
    · exact h2 r hr
section
variable {e : TypeId} {sz : Nat} {w : World} {rows : List (List Value)}
theorem OwnS.take_ {A : Option Addr} {N c : Nat} (h : OwnS e sz w (.slice A N c) rows) {n : Nat} (hn : n ≤ N) : OwnS e sz w (.slice A n c) (rows.take n) := by
  obtain ⟨⟨h1, h2⟩, h3⟩ := h
  have hl3 : ∀ r ∈ rows.take n, r.length = sz := fun r hr => h3 r (List.mem_of_mem_take hr)
  rcases h2 with ⟨hv, h0⟩ | ⟨g, cap, cur, hv, hg, hh, hl, hm, hs, ht⟩
  · injection hv with e1 e2 e3
    subst e1 e2 e3
    obtain rfl : n = 0 := by omega
    exact OwnS.nil e sz w
  · injection hv with e1 e2 e3
    subst e1 e2 e3
    have hln : (rows.take n).length = n := by rw [List.length_take]; omega
    refine ⟨⟨flatten_len hl3, .inr ⟨g, c, cur, by rw [hln], hg, hh, by omega, hm, hs, ?_⟩⟩, hl3⟩
    rw [hln, flatten_take rows n h3, ← ht, List.take_take, Nat.min_eq_left (Nat.mul_le_mul_right _ hn)]
/-- within the room -/
theorem OwnS.extend {A : Option Addr} {n c : Nat} (h : OwnS e sz w (.slice A n c) rows) (m : Nat) (hm : n + m ≤ c) : ∃ ext : List (List Value), ext.length = m ∧ OwnS e sz w (.slice A (n + m) c) (rows ++ ext) := by
  obtain ⟨⟨h1, h2⟩, h3⟩ := h
  rcases h2 with ⟨hv, h0⟩ | ⟨g, cap, cur, hv, hg, hh, hl, hmx, hs, ht⟩
  · injection hv with e1 e2 e3
    subst e1 e2 e3
    obtain rfl : m = 0 := by omega
    refine ⟨[], rfl, ?_⟩
    rw [List.append_nil, List.eq_nil_of_length_eq_zero h0]
    exact OwnS.nil e sz w
  · injection hv with e1 e2 e3
    subst e1 e2 e3
    have hmul : (rows.length + m) * sz ≤ c * sz := Nat.mul_le_mul_right _ hm
    rw [Nat.add_mul] at hmul
    obtain ⟨ext, k1, k2, k3⟩ := chunks sz m ((cur.toList.drop (rows.length * sz)).take (m * sz)) (by rw [List.length_take, List.length_drop, Array.length_toList]; omega)
    have hl3 : ∀ r ∈ rows ++ ext, r.length = sz := fun r hr => by
      rcases List.mem_append.1 hr with hr | hr
      · exact h3 r hr
      · exact k2 r hr
    have hln : (rows ++ ext).length = rows.length + m := by rw [List.length_append, k1]
    refine ⟨ext, k1, ⟨flatten_len hl3, .inr ⟨g, c, cur, by rw [hln], hg, hh, by omega, hmx, hs, ?_⟩⟩, hl3⟩
    rw [hln, List.flatten_append, k3, ← ht, Nat.add_mul, List.take_add]
theorem OwnS.flat {A : Option Addr} {N c : Nat} (h : OwnS e sz w (.slice A N c) rows) : N = rows.length := by
  obtain ⟨A', c', hv, _⟩ := h.form
  injection hv
end
section
variable {P : Program} {w : World} {ops : Array Oper} {rest : List Oper} {o : Oper} {a : Act} {Q : Exit → Act → World → Prop}
theorem run_copy_own {e dT sT ty : TypeId} {sz : Nat} {ad : Addr} {N c : Nat} {rows news : List (List Value)} (h : OwnS e sz w (.slice (some ad) N c) rows) (hu : P.underlying dT = some (.slice e)) (hs : (P.info? e).map (·.size) = some sz)
    (q dLen dCap : Nat) (b : Addr) (sLen sCap : Nat) (hn : news.length = min sLen dLen) (hfit : q + news.length ≤ N) (hl : ∀ r ∈ news, r.length = sz) (hnews : ∀ j u, news.flatten[j]? = some u → w.cell? (b.add j) = some u) (h1 : ∀ u ∈ news.flatten, u.oneCell' = true) :
    ∃ w', (Builtin.copy_ #[dT, sT] ty #[.slice (some (ad.add (q * sz))) dLen dCap, .slice (some b) sLen sCap]).run P w = .ok (goInt news.length) w' ∧ OwnS e sz w' (.slice (some ad) N c) (rows.take q ++ news ++ rows.drop (q + news.length)) ∧ Turns [ad.block] w w' := by
  obtain ⟨⟨h1', h2⟩, h3⟩ := h
  rcases h2 with ⟨hv, _⟩ | ⟨g, cap, cur, hv, hg, hh, hl', hm, hsz, htk⟩
  · cases hv
  · injection hv with e1 e2 e3
    injection e1 with e1
    subst e1 e2 e3
    rw [add_zero_]
    have hnl := flatten_len hl
    have hsum : (q + news.length) * sz ≤ rows.length * sz := Nat.mul_le_mul_right _ hfit
    have hle : rows.length * sz ≤ c * sz := Nat.mul_le_mul_right _ hl'
    rw [Nat.add_mul] at hsum
    have hld := run_loadCells_list (P := P) w b news.flatten hnews
    have hst := run_storeCells_at P g (q * sz) e news.flatten 0 cur w hh (by rw [hnl]; omega) h1
    rw [hnl] at hld
    refine ⟨w.setRow g (cur.toList.take (q * sz + 0) ++ news.flatten ++ cur.toList.drop (q * sz + 0 + news.flatten.length)).toArray, ?_, ⟨⟨?_, .inr ⟨g, c, _, ?_, hg, setRow_heap w g cur _ e (0, 0) hh, ?_, hm, ?_, ?_⟩⟩, ?_⟩, (setRow_turns w g _).mono (by simp)⟩
    · cases hq : P.info? e with
      | none => simp [hq] at hs
      | some i =>
        have hi : i.size = sz := by simpa [hq] using hs
        have hmn : Nat.min sLen dLen = news.length := hn.symm
        simp [Builtin.copy_, run_underlying hu, Builtin.lenOf, Builtin.firstCells, sizeOf, typeInfo, hq, hi, hmn, hld, hst]
    · refine flatten_len (fun r hr => ?_)
      rcases List.mem_append.1 hr with hr | hr
      · rcases List.mem_append.1 hr with hr | hr
        · exact h3 r (List.mem_of_mem_take hr)
        · exact hl r hr
      · exact h3 r (List.mem_of_mem_drop hr)
    · rw [List.length_append, List.length_append, List.length_take, List.length_drop]
      congr 1
      omega
    · rw [List.length_append, List.length_append, List.length_take, List.length_drop]
      omega
    · simp only [List.size_toArray, List.length_append, List.length_take, List.length_drop, Array.length_toList, hnl, hsz, Nat.add_zero]
      omega
    · have hlen : (rows.take q ++ news ++ rows.drop (q + news.length)).length = rows.length := by
        rw [List.length_append, List.length_append, List.length_take, List.length_drop]
        omega
      have hfl : rows.flatten.length = rows.length * sz := flatten_len h3
      rw [hlen, List.flatten_append, List.flatten_append, flatten_take rows q h3, flatten_drop rows _ h3, ← htk]
      simp only [hnl, Nat.add_zero]
      rw [Nat.add_mul, List.take_take, Nat.min_eq_left (by omega)]
      have hcl : cur.toList.length = c * sz := by rw [Array.length_toList, hsz]
      have hA : (cur.toList.take (q * sz) ++ news.flatten).length = q * sz + news.length * sz := by rw [List.length_append, List.length_take, hcl, hnl]; omega
      rw [List.take_append, hA, List.take_of_length_le (by omega), List.drop_take]
    · intro r hr
      rcases List.mem_append.1 hr with hr | hr
      · rcases List.mem_append.1 hr with hr | hr
        · exact h3 r (List.mem_of_mem_take hr)
        · exact hl r hr
      · exact h3 r (List.mem_of_mem_drop hr)
theorem wp_copy_own {e dT sT : TypeId} {sz : Nat} {ad : Addr} {N c : Nat} {rows news : List (List Value)} (h : OwnS e sz w (.slice (some ad) N c) rows) (hgd : o.guard = none) (d s : Operand) (ho : o.op = .call { callee := .builtin .copy, args := #[d, s], argTypes := #[dT, sT] }) (hu : P.underlying dT = some (.slice e)) (hs : (P.info? e).map (·.size) = some sz)
    (q dLen dCap : Nat) (b : Addr) (sLen sCap : Nat) (hd : a.eval d = .slice (some (ad.add (q * sz))) dLen dCap) (hsv : a.eval s = .slice (some b) sLen sCap) (hn : news.length = min sLen dLen) (hfit : q + news.length ≤ N) (hl : ∀ r ∈ news, r.length = sz) (hnews : ∀ j u, news.flatten[j]? = some u → w.cell? (b.add j) = some u) (h1 : ∀ r ∈ news, ∀ u ∈ r, u.oneCell' = true)
    (hK : ∀ w', OwnS e sz w' (.slice (some ad) N c) (rows.take q ++ news ++ rows.drop (q + news.length)) → Turns [ad.block] w w' → wpList P ops Q rest (a.put o.dst (goInt news.length)) w') : wpList P ops Q (o :: rest) a w := by
  refine wpList_plain hgd fun K' hK' => ?_
  obtain ⟨w', hrun, r1, r2⟩ := run_copy_own (P := P) (sT := sT) (ty := o.type) h hu hs q dLen dCap b sLen sCap hn hfit hl hnews (fun u hu => by
    obtain ⟨r, hr, hu⟩ := List.mem_flatten.1 hu
    exact h1 r hr u hu)
  unfold Oper.wp
  simp [execOp, ho, resolve, invoke, builtin, hd, hsv, hrun, Result.andThen]
  exact hK' _ _ (hK w' r1 r2)
/-- nothing goes over -/
theorem wp_copy_nothing {e dT sT : TypeId} {sz : Nat} (hgd : o.guard = none) (d s : Operand) (ho : o.op = .call { callee := .builtin .copy, args := #[d, s], argTypes := #[dT, sT] }) (hu : P.underlying dT = some (.slice e)) (hs : (P.info? e).map (·.size) = some sz)
    (D B : Option Addr) (dLen dCap sLen sCap : Nat) (hd : a.eval d = .slice D dLen dCap) (hsv : a.eval s = .slice B sLen sCap) (hn : min sLen dLen = 0)
    (hK : wpList P ops Q rest (a.put o.dst (goInt 0)) w) : wpList P ops Q (o :: rest) a w := by
  refine wpList_plain hgd fun K' hK' => ?_
  have hl : ∀ (x : Addr), (loadCells x 0).run P w = .ok #[] w := fun x => by simpa using run_loadCells_list (P := P) w x [] (by simp)
  have hmn : Nat.min sLen dLen = 0 := hn
  have hrun : (Builtin.copy_ #[dT, sT] o.type #[.slice D dLen dCap, .slice B sLen sCap]).run P w = .ok (goInt 0) w := by
    cases hq : P.info? e with
    | none => simp [hq] at hs
    | some i => cases D <;> cases B <;> simp [Builtin.copy_, run_underlying hu, Builtin.lenOf, Builtin.firstCells, sizeOf, typeInfo, hq, hmn, storeCells, hl]
  unfold Oper.wp
  simp [execOp, ho, resolve, invoke, builtin, hd, hsv, hrun, Result.andThen]
  exact hK' _ _ hK
theorem add0 (ad : Addr) : ad.add 0 = ad := by unfold Addr.add; simp
/-- all of a slice goes over into one of one's own that is as long -/
theorem wp_copy_full {e dT sT : TypeId} {sz : Nat} {ad : Addr} {N c : Nat} {sv : Value} {rows news : List (List Value)} (h : OwnS e sz w (.slice (some ad) N c) rows) (hsrc : RdS sz w sv news) (hN : news.length = N) (hsz0 : 0 < sz) (hgd : o.guard = none) (d s : Operand) (ho : o.op = .call { callee := .builtin .copy, args := #[d, s], argTypes := #[dT, sT] }) (hu : P.underlying dT = some (.slice e)) (hs : (P.info? e).map (·.size) = some sz)
    (hd : a.eval d = .slice (some ad) N c) (hsv : a.eval s = sv) (h1 : ∀ r ∈ news, ∀ u ∈ r, u.oneCell' = true)
    (hK : ∀ w', OwnS e sz w' (.slice (some ad) N c) news → Turns [ad.block] w w' → wpList P ops Q rest (a.put o.dst (goInt N)) w') : wpList P ops Q (o :: rest) a w := by
  have hrl := OwnS.flat h
  have hrd := hsrc
  obtain ⟨A, c', hv, hc, hm, hn, hf, hl⟩ := hsrc
  by_cases h0 : N = 0
  · subst h0
    have e1 : news = [] := List.eq_nil_of_length_eq_zero hN
    have e2 : rows = [] := List.eq_nil_of_length_eq_zero hrl.symm
    subst e1 e2
    refine wp_copy_nothing hgd d s ho hu hs (some ad) A 0 c 0 c' hd (by rw [hsv, hv]; rfl) rfl ?_
    exact hK w h (Turns.refl _ _)
  · obtain ⟨b, hA, _⟩ := hf.2 (by omega)
    subst hA
    refine wp_copy_own (news := news) h hgd d s ho hu hs 0 N c b news.length c' (by rw [Nat.zero_mul, add0]; exact hd) (by rw [hsv, hv]) (by omega) (by omega) hl (hrd.cells hsz0 b _ c' hv) h1 ?_
    intro w' O t
    rw [hN]
    refine hK w' ?_ t
    have : rows.take 0 ++ news ++ rows.drop (0 + news.length) = news := by
      rw [List.take_zero, List.nil_append, List.drop_of_length_le (by omega), List.append_nil]
    rw [this] at O
    exact O
/-- make([]T, n), T of sz cells: n rows -/
theorem wp_make_n {e : TypeId} {sz : Nat} (hgd : o.guard = none) (l c : Operand) (t : TypeId) (hop : o.op = Op.makeSlice t l c) (z : Value) (bytes : Nat) (ht : P.underlying t = some (.slice e))
    (hinfo : (P.info? e).map (fun i => (i.zero, i.size, i.bytes)) = some (some z, sz, bytes)) (kl kc : IntKind) (n : Nat) (hl : a.eval l = .int kl (n : Int)) (hc : a.eval c = .int kc (n : Int))
    (hb : bytes * n ≤ 281474976710656) (hn : n ≤ 281474976710656)
    (h : ∀ w' rows, rows.length = n → OwnS e sz w' (.slice (some ⟨w.heap.size, 0, none⟩) n n) rows → Turns [] w w' → wpList P ops Q rest (a.put o.dst (.slice (some ⟨w.heap.size, 0, none⟩) n n)) w') :
    wpList P ops Q (o :: rest) a w := by
  obtain ⟨i0, hi, hzz⟩ := Option.map_eq_some_iff.1 hinfo
  simp only [Prod.mk.injEq] at hzz
  obtain ⟨hz0, hz1, hz2⟩ := hzz
  refine wpList_make_full w hgd l c t hop 0 e i0 z sz ht hi hz0 hz1 kl kc (n : Int) (n : Int) n hl hc rfl rfl (by rw [hz2]; exact hb) (by unfold maxLen; omega) (Nat.zero_le _) ?_
  intro w' ho hg
  obtain ⟨rows, k1, k2, k3⟩ := chunks sz n _ ho.1
  refine h w' rows k1 ⟨by rw [k1, k3]; exact ho, k2⟩ ⟨hg.os, hg.tape, hg.output, hg.size, fun k hk _ => hg.block k hk (by simp)⟩
/-- append(s[:i], make(S, k)...), where there is no room for it -/
theorem wp_append_zeros {e t tn : TypeId} {sz : Nat} {ad : Addr} {N c : Nat} {rows : List (List Value)} (h : OwnS e sz w (.slice (some ad) N c) rows) (hgd : o.guard = none) (s x : Operand)
    (ho : o.op = .call { callee := .builtin .append, args := #[s, x], argTypes := #[t, tn] }) (z : Value) (bytes : Nat) (kn kq : IntKind) (ht : P.underlying t = some (.slice e)) (htn : P.underlying tn = some (.int kn)) (hinfo : (P.info? e).map (fun i => (i.zero, i.size, i.bytes)) = some (some z, sz, bytes)) (hz : z.cells.size = sz) (hs0 : 0 < sz)
    (i k : Nat) (hi : i ≤ N) (hk : 0 < k) (hg : c < i + k) (hs : a.eval s = .slice (some ad) i c) (hx : a.eval x = .int kq (k : Int)) (hbig : (i + k) * bytes ≤ 140737488355328) (hbig2 : i + k ≤ 140737488355328)
    (hK : ∀ w' G ext, ext.length = k → OwnS e sz w' (.slice (some ⟨w.heap.size, 0, none⟩) (i + k) G) (rows.take i ++ ext) → i + k ≤ G → G ≤ 9223372036854775807 → Turns [] w w' → wpList P ops Q rest (a.put o.dst (.slice (some ⟨w.heap.size, 0, none⟩) (i + k) G)) w') : wpList P ops Q (o :: rest) a w := by
  refine wpList_plain hgd fun K' hK' => ?_
  obtain ⟨i0, hi0, hzz⟩ := Option.map_eq_some_iff.1 hinfo
  simp only [Prod.mk.injEq] at hzz
  obtain ⟨hz0, hz1, hz2⟩ := hzz
  have ht0 := OwnS.take_ h hi
  have hfl := ht0.1.1
  have hln : (rows.take i).length = i := (OwnS.flat ht0).symm
  have hfl2 : (rows.take i).flatten.length = i * sz := by rw [flatten_len ht0.2, hln]
  have hcells := ht0.reads.cells hs0 ad i c rfl
  have hold : (Builtin.firstCells i0.size i (.slice (some ad) i c)).run P w.drew = .ok (rows.take i).flatten.toArray w.drew := by
    have := run_loadCells_list (P := P) w.drew ad (rows.take i).flatten hcells
    rw [hfl2] at this
    rw [hz1]
    simpa [Builtin.firstCells] using this
  have hcl : c ≤ 9223372036854775807 := by obtain ⟨A', c', hv, _, hm, _⟩ := h.form; injection hv with e1 e2 e3; omega
  have hkb : k * bytes ≤ (i + k) * bytes := Nat.mul_le_mul_right _ (by omega)
  have hrun := Lib.run_append_grow_zeros (P := P) w t tn o.type e i0 z kq kn ht htn hi0 hz0 (some ad) i c _ hold k hk (by omega) hg (by omega) (by rw [hz2]; omega) (by rw [hz2]; exact growslice_fits hg hbig)
  have hG := grownCap_ge w (i + k) c e
  have hGm := grownCap_le_maxLen w (i + k) c e (by unfold maxLen; omega)
  generalize grownCap w (i + k) c e = G at *
  generalize hcs : (rows.take i).flatten.toArray ++ Builtin.zeroCells z.cells k ++ Builtin.zeroCells z.cells (G - (i + k)) = cs at *
  have hmul : (i + k) * sz ≤ G * sz := Nat.mul_le_mul_right _ hG
  have hcsz : cs.size = G * sz := by
    rw [← hcs, Array.size_append, Array.size_append, size_zeroCells, size_zeroCells, hz, List.size_toArray, hfl2, ← Nat.add_mul, ← Nat.add_mul]
    congr 1
    omega
  rw [Nat.add_mul] at hmul
  obtain ⟨ext, k1, k2, k3⟩ := chunks sz k ((cs.toList.drop (i * sz)).take (k * sz)) (by rw [List.length_take, List.length_drop, Array.length_toList]; omega)
  have htake : cs.toList.take (i * sz) = (rows.take i).flatten := by
    rw [← hcs]
    simp only [Array.toList_append, List.append_assoc]
    rw [List.take_append_of_le_length (by rw [hfl2]; exact Nat.le_refl _), List.take_of_length_le (by rw [hfl2]; exact Nat.le_refl _)]
  have hl3 : ∀ r ∈ rows.take i ++ ext, r.length = sz := fun r hr => by
    rcases List.mem_append.1 hr with hr | hr
    · exact ht0.2 r hr
    · exact k2 r hr
  have hlnn : (rows.take i ++ ext).length = i + k := by rw [List.length_append, hln, k1]
  unfold Oper.wp
  simp [execOp, ho, resolve, invoke, builtin, hs, hx, hrun, Result.andThen]
  refine hK' _ _ (hK _ G ext k1 ⟨⟨flatten_len hl3, .inr ⟨w.heap.size, G, cs, by rw [hlnn], Nat.zero_le _, (heap_alloc w.drew (.cells cs e)).1, by omega, hGm, hcsz, ?_⟩⟩, hl3⟩ hG (by unfold maxLen at hGm; omega) ((Turns.refl [] w).drew.alloc _))
  rw [hlnn, List.flatten_append, k3, Nat.add_mul, List.take_add, htake]
end
theorem ins_grow {α : Type} {l ext : List α} {i : Nat} {x : α} (hi : i ≤ l.length) (he : ext.length = l.length + 1 - i) : ((l.take i ++ ext).take i ++ [x] ++ (l.take i ++ ext).drop (i + [x].length)).take (i + 1) ++ l.drop i ++ ((l.take i ++ ext).take i ++ [x] ++ (l.take i ++ ext).drop (i + [x].length)).drop (i + 1 + (l.drop i).length) = l.take i ++ x :: l.drop i := by
  have h1 : (l.take i).length = i := by rw [List.length_take]; omega
  have h2 : (l.take i ++ ext).take i = l.take i := by rw [List.take_append_of_le_length (by omega), List.take_of_length_le (by omega)]
  rw [h2]
  have h3 : (l.take i ++ [x] ++ (l.take i ++ ext).drop (i + [x].length)).length = l.length + 1 := by
    simp only [List.length_append, List.length_drop, h1, he, List.length_cons, List.length_nil]
    omega
  obtain ⟨M, hM⟩ : ∃ M, l.take i ++ [x] ++ (l.take i ++ ext).drop (i + [x].length) = M := ⟨_, rfl⟩
  rw [hM] at h3 ⊢
  have a : M.take (i + 1) = l.take i ++ [x] := by
    rw [← hM, List.take_append_of_le_length (by simp only [List.length_append, h1, List.length_cons, List.length_nil]; omega), List.take_of_length_le (by simp only [List.length_append, h1, List.length_cons, List.length_nil]; omega)]
  have b : M.drop (i + 1 + (l.drop i).length) = [] := List.drop_of_length_le (by rw [h3, List.length_drop]; omega)
  rw [a, b, List.append_nil, List.append_assoc]
  rfl
theorem ins_shift {α : Type} {l ext : List α} {i : Nat} {x : α} (hi : i < l.length) (he : ext.length = 1) : (((l ++ ext).take (i + 1) ++ l.drop i ++ (l ++ ext).drop (i + 1 + (l.drop i).length)).take i ++ [x] ++ ((l ++ ext).take (i + 1) ++ l.drop i ++ (l ++ ext).drop (i + 1 + (l.drop i).length)).drop (i + [x].length)) = l.take i ++ x :: l.drop i := by
  have h0 : (l ++ ext).drop (i + 1 + (l.drop i).length) = [] := List.drop_of_length_le (by rw [List.length_append, List.length_drop]; omega)
  have h1 : ((l ++ ext).take (i + 1)).length = i + 1 := by rw [List.length_take, List.length_append]; omega
  rw [h0, List.append_nil]
  have h2 : ((l ++ ext).take (i + 1) ++ l.drop i).take i = l.take i := by
    rw [List.take_append_of_le_length (by omega), List.take_take, Nat.min_eq_left (by omega), List.take_append_of_le_length (by omega)]
  have h3 : ((l ++ ext).take (i + 1) ++ l.drop i).drop (i + [x].length) = l.drop i := by
    have : i + [x].length = ((l ++ ext).take (i + 1)).length := by rw [h1]; rfl
    rw [this, List.drop_left]
  rw [h2, h3, List.append_assoc]
  rfl
theorem take_drop_ext {α : Type} {l ext : List α} {i : Nat} (hi : i ≤ l.length) : ((l ++ ext).drop i).take (l.length - i) = l.drop i := by
  rw [List.drop_append_of_le_length hi, List.take_append_of_le_length (by rw [List.length_drop]; omega), List.take_of_length_le (by rw [List.length_drop]; omega)]
end Go.Proofs.Ytphhfdlhkginkaa.He
end
section
/- Words of this work: arguments opened to cells: whole numbers, bools, strings, structs and arrays of these, slices of all. No program in sight. -/
set_option linter.unusedVariables false
set_option linter.unusedSimpArgs false
namespace Go.Proofs.Ytphhfdlhkginkaa.Ho
open Go.RowKit Go.Deep Go.ChangeShapes Go.WideShapes Hm

/-- One cell's kind. -/
inductive Sc where
  | int (k : IntKind)
  | bool
  | str
def Sc.ok : Sc → Value → Prop
  | .int k, v => ∃ n, v = .int k n ∧ (Lit.int k n).wf = true
  | .bool, v => ∃ b, v = .bool b
  | .str, v => ∃ s : ByteArray, v = .string s ∧ s.size ≤ maxLen
inductive Oks : List Sc → List Value → Prop
  | nil : Oks [] []
  | cons {k : Sc} {ks : List Sc} {v : Value} {vs : List Value} (h : k.ok v) (hs : Oks ks vs) : Oks (k :: ks) (v :: vs)
theorem Oks.len {ks : List Sc} {vs : List Value} (h : Oks ks vs) : vs.length = ks.length := by induction h <;> simp [*]
theorem Oks.append {ks ks' : List Sc} {vs vs' : List Value} (h : Oks ks vs) (h' : Oks ks' vs') : Oks (ks ++ ks') (vs ++ vs') := by
  induction h with
  | nil => exact h'
  | cons h _ ih => exact .cons h ih
theorem Oks.int {k : IntKind} {ks : List Sc} {vs : List Value} (h : Oks (.int k :: ks) vs) : ∃ n r, vs = .int k n :: r ∧ (Lit.int k n).wf = true ∧ Oks ks r := by
  cases h with
  | cons h hs =>
    obtain ⟨n, rfl, hw⟩ := h
    exact ⟨n, _, rfl, hw, hs⟩
theorem Oks.bool {ks : List Sc} {vs : List Value} (h : Oks (.bool :: ks) vs) : ∃ n r, vs = .bool n :: r ∧ Oks ks r := by
  cases h with
  | cons h hs =>
    obtain ⟨n, rfl⟩ := h
    exact ⟨n, _, rfl, hs⟩
theorem Oks.none {vs : List Value} (h : Oks [] vs) : vs = [] := by cases h; rfl
/-- A type whose cells are of the kinds ks, whatever it is that is read. -/
def Flat (P : Program) (t : TypeId) (ks : List Sc) : Prop :=
  P.cellsOf t = ks.length ∧ ∀ {H : Type} (enc : TypeId × Value → H) (w : World) (base : Nat) (sp : Nat → Bool) (held : Bool) (fuel : Nat) (cs : List Value) (y : DataW H × List MemPlace), DataW.trod enc P w base sp held fuel t cs = some y → Oks ks cs
section
variable {P : Program} {t : TypeId}
theorem flat_int {k : IntKind} (ht : P.underlying t = some (.int k)) (hC : P.cellsOf t = 1) : Flat P t [.int k] :=
  ⟨hC, fun enc w base sp held fuel cs y h => by
    obtain ⟨n, rfl, _, hw⟩ := DataW.trod_int ht h
    exact .cons ⟨n, rfl, hw⟩ .nil⟩
theorem flat_bool (ht : P.underlying t = some .bool) (hC : P.cellsOf t = 1) : Flat P t [.bool] :=
  ⟨hC, fun enc w base sp held fuel cs y h => by
    obtain ⟨b, rfl, _⟩ := DataW.trod_bool ht h
    exact .cons ⟨b, rfl⟩ .nil⟩
theorem flat_str (ht : P.underlying t = some .string) (hC : P.cellsOf t = 1) : Flat P t [.str] :=
  ⟨hC, fun enc w base sp held fuel cs y h => by
    obtain ⟨s, rfl, _, hs⟩ := DataW.trod_string ht h
    exact .cons ⟨s, rfl, hs⟩ .nil⟩
/-- Fields one behind the other. -/
inductive Fields (P : Program) : Nat → List Field → List Sc → Prop
  | nil (off : Nat) : Fields P off [] []
  | cons {off : Nat} {f : Field} {fs : List Field} {ks rest : List Sc} (ho : f.offset = off) (hf : Flat P f.type ks) (hs : Fields P (off + ks.length) fs rest) : Fields P off (f :: fs) (ks ++ rest)
theorem fields_oks {H : Type} {enc : TypeId × Value → H} {w : World} {base : Nat} {sp : Nat → Bool} {held : Bool} {n : Nat} {cs : List Value} {off : Nat} {fs : List Field} {ks : List Sc} (h : Fields P off fs ks)
    (hlen : off + ks.length = cs.length) (hf : ∀ f ∈ fs, ∃ y, DataW.trod enc P w base sp held n f.type ((cs.drop f.offset).take (P.cellsOf f.type)) = some y) : Oks ks (cs.drop off) := by
  induction h with
  | nil off =>
    simp only [List.length_nil, Nat.add_zero] at hlen
    rw [hlen, List.drop_length]
    exact .nil
  | @cons off f fs ks rest ho hfl hs ih =>
    obtain ⟨y, hy⟩ := hf f (by simp)
    have h1 := hfl.2 _ _ _ _ _ _ _ _ hy
    rw [ho, hfl.1] at h1
    rw [List.length_append] at hlen
    have h2 := ih (by omega) (fun g hg => hf g (by simp [hg]))
    have e : cs.drop off = (cs.drop off).take ks.length ++ cs.drop (off + ks.length) := by
      rw [← List.drop_drop, List.take_append_drop]
    rw [e]
    exact h1.append h2
theorem flat_fields {fs : Array Field} {ks : List Sc} (ht : P.underlying t = some (.struct fs)) (h : Fields P 0 fs.toList ks) (hC : P.cellsOf t = ks.length) : Flat P t ks :=
  ⟨hC, fun enc w base sp held fuel cs y hy => by
    obtain ⟨xs, n, _, _, hlen, hxl, hf⟩ := DataW.trod_struct ht hy
    have := fields_oks (enc := enc) (w := w) (base := base) (sp := sp) (held := held) (n := n) (cs := cs) h (by omega) (fun f hfm => by
      obtain ⟨j, hj, rfl⟩ := List.mem_iff_getElem.1 hfm
      have hj' : j < fs.size := by simpa using hj
      have := hf j fs[j] (by simp)
      rw [List.getElem?_eq_getElem (by omega)] at this
      exact ⟨_, by simpa using this⟩)
    simpa using this⟩
theorem flat_struct {l : List Field} {ks : List Sc} (ht : P.underlying t = some (.struct l.toArray)) (h : Fields P 0 l ks) (hC : P.cellsOf t = ks.length) : Flat P t ks := flat_fields ht (by simpa using h) hC
theorem fnil {off : Nat} : Fields P off [] [] := .nil off
theorem fcons {off : Nat} {f : Field} {fs : List Field} {ks rest out : List Sc} (ho : f.offset = off) (hf : Flat P f.type ks) (hs : Fields P (off + ks.length) fs rest) (e : out = ks ++ rest) : Fields P off (f :: fs) out := e ▸ .cons ho hf hs
theorem rep_oks {ks : List Sc} : ∀ (n : Nat) (cs : List Value), cs.length = n * ks.length → (∀ i, i < n → Oks ks ((cs.drop (i * ks.length)).take ks.length)) → Oks (List.replicate n ks).flatten cs
  | 0, cs, hl, _ => by
    have : cs = [] := List.eq_nil_of_length_eq_zero (by simpa using hl)
    subst this
    exact .nil
  | n + 1, cs, hl, h => by
    rw [Nat.succ_mul] at hl
    have h0 := h 0 (by omega)
    rw [Nat.zero_mul, List.drop_zero] at h0
    have h1 := rep_oks (ks := ks) n (cs.drop ks.length) (by rw [List.length_drop, hl]; omega) (fun i hi => by
      have := h (i + 1) (by omega)
      rw [Nat.succ_mul, Nat.add_comm (i * ks.length)] at this
      rw [List.drop_drop]
      exact this)
    rw [List.replicate_succ, List.flatten_cons, ← List.take_append_drop ks.length cs]
    exact h0.append h1
theorem flat_array {e : TypeId} {n : Nat} {ks : List Sc} (ht : P.underlying t = some (.array n e)) (he : Flat P e ks) (hC : P.cellsOf t = n * ks.length) : Flat P t (List.replicate n ks).flatten :=
  ⟨by rw [hC]; simp [List.length_flatten], fun enc w base sp held fuel cs y hy => by
    obtain ⟨xs, m, _, _, hlen, hxl, hf⟩ := DataW.trod_array ht hy
    refine rep_oks n cs (by omega) (fun i hi => ?_)
    have := hf i hi
    rw [List.getElem?_eq_getElem (by omega), he.1] at this
    exact he.2 _ _ _ _ _ _ _ _ this⟩
theorem okWide_array {w : World} {r : Reach} {base : Nat} {v : Value} {n : Nat} {e : TypeId} (ht : P.underlying t = some (.array n e)) (h : Value.okWide P w r base t v) : ∃ cs, v = .agg cs ∧ cs.size = P.cellsOf t := by
  simp only [Value.okWide, ht] at h
  obtain ⟨cs, h1, h2, _⟩ := h
  exact ⟨cs, h1, h2⟩
/-- A slice of such elements. -/
theorem open_flat {H : Type} {enc : TypeId × Value → H} {w : World} {sp : Nat → Bool} {held : Bool} {e : TypeId} {ks : List Sc} (ht : P.underlying t = some (.slice e)) (he : Flat P e ks) {fuel : Nat} {v : Value} {y : DataW H × List MemPlace}
    (h : DataW.trod enc P w 0 sp held fuel t [v] = some y) : ∃ A c rows, v = .slice A rows.length c ∧ rows.length ≤ c ∧ FlatRow w A ks.length rows ∧ ∀ r ∈ rows, Oks ks r := by
  rcases open_slice ht h with ⟨hcs, _⟩ | ⟨a, len, cap, m, n, D, Pl, hcs, _, hl, hm, hmm, _, hi⟩
  · simp only [List.cons.injEq, and_true] at hcs
    exact ⟨none, 0, [], by rw [hcs]; rfl, Nat.le_refl _, ⟨by simp, by simp⟩, by simp⟩
  · simp only [List.cons.injEq, and_true] at hcs
    have hlm : len ≤ m := by rw [hmm]; split <;> omega
    have hall : ∀ i, i < len → ∃ r, w.cells? 0 (a.add (i * ks.length)) ks.length = some r ∧ Oks ks r := fun i hil => by
      obtain ⟨cs', hc, ht'⟩ := hi i (by omega)
      rw [he.1] at hc
      exact ⟨cs', hc, he.2 _ _ _ _ _ _ _ _ ht'⟩
    obtain ⟨f, hf⟩ : ∃ f : Nat → List Value, ∀ i, i < len → w.cells? 0 (a.add (i * ks.length)) ks.length = some (f i) ∧ Oks ks (f i) :=
      ⟨fun i => if hx : i < len then (hall i hx).choose else [], fun i hx => by simp only [hx, dif_pos]; exact (hall i hx).choose_spec⟩
    refine ⟨some a, cap, (List.range len).map f, by rw [hcs]; simp, by simpa using hl, ⟨by simp only [List.length_map, List.length_range]; unfold maxLen at hm; omega, fun _ => ⟨a, rfl, fun j c hj => ?_⟩⟩, fun r hr => ?_⟩
    · rw [List.getElem?_map] at hj
      have hjl : j < len := by
        rcases Nat.lt_or_ge j len with h' | h'
        · exact h'
        · rw [List.getElem?_eq_none (by simpa using h')] at hj; cases hj
      rw [List.getElem?_range hjl] at hj
      simp only [Option.map_some, Option.some.injEq] at hj
      subst hj
      obtain ⟨h1, h2⟩ := hf j hjl
      obtain ⟨_, hcl, hat⟩ := World.cells?_some h1
      refine ⟨h2.len, fun i u hu => ?_⟩
      have hil : i < ks.length := by have := (List.getElem?_eq_some_iff.1 hu).1; have := h2.len; omega
      rw [← Go.Deep.add_add, hat i hil, hu]
    · obtain ⟨i, hi', rfl⟩ := List.mem_map.1 hr
      exact (hf i (List.mem_range.1 hi')).2
/-- Rows that are read one by one are the rows of a list. -/
theorem rows_of {α : Type} {f : α → List Value} {p : α → Prop} : ∀ {rows : List (List Value)}, (∀ r ∈ rows, ∃ a, r = f a ∧ p a) → ∃ as : List α, rows = as.map f ∧ ∀ a ∈ as, p a
  | [], _ => ⟨[], rfl, by simp⟩
  | r :: rs, h => by
    obtain ⟨a, rfl, ha⟩ := h r (by simp)
    obtain ⟨as, e, hp⟩ := rows_of (rows := rs) (fun x hx => h x (by simp [hx]))
    exact ⟨a :: as, by rw [e]; rfl, by intro x hx; rcases List.mem_cons.1 hx with rfl | hx; exact ha; exact hp x hx⟩
theorem int_bd {a : Int} (h : (Lit.int .i64 a).wf = true) : -9223372036854775808 ≤ a ∧ a ≤ 9223372036854775807 := by
  simp [Lit.wf, IntKind.min, IntKind.max, IntKind.signed, IntKind.bits] at h
  exact h
theorem u8_bd {a : Int} (h : (Lit.int .u8 a).wf = true) : 0 ≤ a ∧ a ≤ 255 := by
  simp [Lit.wf, IntKind.min, IntKind.max, IntKind.signed, IntKind.bits] at h
  exact h
theorem u16_bd {a : Int} (h : (Lit.int .u16 a).wf = true) : 0 ≤ a ∧ a ≤ 65535 := by
  simp [Lit.wf, IntKind.min, IntKind.max, IntKind.signed, IntKind.bits] at h
  exact h
theorem u64_bd {a : Int} (h : (Lit.int .u64 a).wf = true) : 0 ≤ a ∧ a ≤ 18446744073709551615 := by
  simp [Lit.wf, IntKind.min, IntKind.max, IntKind.signed, IntKind.bits] at h
  exact h
end
end Go.Proofs.Ytphhfdlhkginkaa.Ho
end
section
/- Words of this work: arguments opened to cells, also slices within: each cell's kind is a predicate of the world and the value. No program in sight. -/
set_option linter.unusedVariables false
set_option linter.unusedSimpArgs false
namespace Go.Proofs.Ytphhfdlhkginkaa.Hn
open Go.RowKit Go.Deep Go.ChangeShapes Go.WideShapes Hm Ho Hs

abbrev Kd := World → Value → Prop
inductive Kds (w : World) : List Kd → List Value → Prop
  | nil : Kds w [] []
  | cons {k : Kd} {ks : List Kd} {v : Value} {vs : List Value} (h : k w v) (hs : Kds w ks vs) : Kds w (k :: ks) (v :: vs)
section
variable {P : Program} {t : TypeId} {w : World} {k : Kd} {ks ks' : List Kd} {vs vs' : List Value}
theorem Kds.len (h : Kds w ks vs) : vs.length = ks.length := by induction h <;> simp [*]
theorem Kds.append (h : Kds w ks vs) (h' : Kds w ks' vs') : Kds w (ks ++ ks') (vs ++ vs') := by
  induction h with
  | nil => exact h'
  | cons h _ ih => exact .cons h ih
theorem Kds.out (h : Kds w (k :: ks) vs) : ∃ v r, vs = v :: r ∧ k w v ∧ Kds w ks r := by
  cases h with
  | cons h hs => exact ⟨_, _, rfl, h, hs⟩
theorem Kds.none (h : Kds w [] vs) : vs = [] := by cases h; rfl
def kInt (k : IntKind) : Kd := fun _ v => ∃ n, v = .int k n ∧ (Lit.int k n).wf = true
def kBool : Kd := fun _ v => ∃ b, v = .bool b
def kStr : Kd := fun _ v => ∃ s : ByteArray, v = .string s ∧ s.size ≤ maxLen
def kSlice (ks : List Kd) : Kd := fun w v => ∃ A c rows, v = .slice A rows.length c ∧ rows.length ≤ c ∧ c ≤ 9223372036854775807 ∧ (A = none → c = 0) ∧ FlatRow w A ks.length rows ∧ ∀ r ∈ rows, Kds w ks r
def kPtr (ks : List Kd) : Kd := fun w v => v = .pointer none ∨ ∃ a cs, v = .pointer (some a) ∧ w.cells? 0 a ks.length = some cs ∧ Kds w ks cs
/-- A type whose cells are of the kinds ks, whatever it is that is read. -/
def Nest (P : Program) (t : TypeId) (ks : List Kd) : Prop :=
  P.cellsOf t = ks.length ∧ ∀ {H : Type} (enc : TypeId × Value → H) (w : World) (sp : Nat → Bool) (held : Bool) (fuel : Nat) (cs : List Value) (y : DataW H × List MemPlace), DataW.trod enc P w 0 sp held fuel t cs = some y → Kds w ks cs
theorem nInt {k : IntKind} (ht : P.underlying t = some (.int k)) (hC : P.cellsOf t = 1) : Nest P t [kInt k] :=
  ⟨hC, fun enc w sp held fuel cs y h => by
    obtain ⟨n, rfl, _, hw⟩ := DataW.trod_int ht h
    exact .cons ⟨n, rfl, hw⟩ .nil⟩
theorem nBool (ht : P.underlying t = some .bool) (hC : P.cellsOf t = 1) : Nest P t [kBool] :=
  ⟨hC, fun enc w sp held fuel cs y h => by
    obtain ⟨b, rfl, _⟩ := DataW.trod_bool ht h
    exact .cons ⟨b, rfl⟩ .nil⟩
theorem nStr (ht : P.underlying t = some .string) (hC : P.cellsOf t = 1) : Nest P t [kStr] :=
  ⟨hC, fun enc w sp held fuel cs y h => by
    obtain ⟨s, rfl, _, hs⟩ := DataW.trod_string ht h
    exact .cons ⟨s, rfl, hs⟩ .nil⟩
theorem nPtr {e : TypeId} (ht : P.underlying t = some (.pointer e)) (he : Nest P e ks) (hC : P.cellsOf t = 1) : Nest P t [kPtr ks] :=
  ⟨hC, fun enc w sp held fuel cs y h => by
    rcases DataW.trod_pointer ht h with ⟨rfl, _⟩ | ⟨a, cs', y', n, _, rfl, _, hc, hy⟩
    · exact .cons (.inl rfl) .nil
    · rw [he.1] at hc
      exact .cons (.inr ⟨a, cs', rfl, hc, he.2 _ _ _ _ _ _ _ hy⟩) .nil⟩
theorem nSlice {e : TypeId} (ht : P.underlying t = some (.slice e)) (he : Nest P e ks) (hC : P.cellsOf t = 1) : Nest P t [kSlice ks] :=
  ⟨hC, fun enc w sp held fuel cs y h => by
    rcases open_slice ht h with ⟨rfl, _⟩ | ⟨a, len, cap, m, n, D, Pl, rfl, _, hl, hm, hmm, _, hi⟩
    · exact .cons ⟨Option.none, 0, [], rfl, Nat.le_refl _, by decide, fun _ => rfl, ⟨by simp, by simp⟩, by simp⟩ .nil
    · have hlm : len ≤ m := by rw [hmm]; split <;> omega
      have hall : ∀ i, i < len → ∃ r, w.cells? 0 (a.add (i * ks.length)) ks.length = some r ∧ Kds w ks r := fun i hil => by
        obtain ⟨cs', hc, ht'⟩ := hi i (by omega)
        rw [he.1] at hc
        exact ⟨cs', hc, he.2 _ _ _ _ _ _ _ ht'⟩
      obtain ⟨f, hf⟩ : ∃ f : Nat → List Value, ∀ i, i < len → w.cells? 0 (a.add (i * ks.length)) ks.length = some (f i) ∧ Kds w ks (f i) :=
        ⟨fun i => if hx : i < len then (hall i hx).choose else [], fun i hx => by simp only [hx, dif_pos]; exact (hall i hx).choose_spec⟩
      unfold maxLen at hm
      refine .cons ⟨some a, cap, (List.range len).map f, by simp, by simpa using hl, by omega, by simp, ⟨by simp only [List.length_map, List.length_range]; omega, fun _ => ⟨a, rfl, fun j c hj => ?_⟩⟩, fun r hr => ?_⟩ .nil
      · rw [List.getElem?_map] at hj
        have hjl : j < len := by
          rcases Nat.lt_or_ge j len with h' | h'
          · exact h'
          · rw [List.getElem?_eq_none (by simpa using h')] at hj; cases hj
        rw [List.getElem?_range hjl] at hj
        simp only [Option.map_some, Option.some.injEq] at hj
        subst hj
        obtain ⟨h1, h2⟩ := hf j hjl
        obtain ⟨_, hcl, hat⟩ := World.cells?_some h1
        refine ⟨h2.len, fun i u hu => ?_⟩
        have hil : i < ks.length := by have := (List.getElem?_eq_some_iff.1 hu).1; have := h2.len; omega
        rw [← Go.Deep.add_add, hat i hil, hu]
      · obtain ⟨i, hi', rfl⟩ := List.mem_map.1 hr
        exact (hf i (List.mem_range.1 hi')).2⟩
/-- Fields one behind the other. -/
inductive NFields (P : Program) : Nat → List Field → List Kd → Prop
  | nil (off : Nat) : NFields P off [] []
  | cons {off : Nat} {f : Field} {fs : List Field} {ks rest : List Kd} (ho : f.offset = off) (hf : Nest P f.type ks) (hs : NFields P (off + ks.length) fs rest) : NFields P off (f :: fs) (ks ++ rest)
theorem nfields_ok {H : Type} {enc : TypeId × Value → H} {sp : Nat → Bool} {held : Bool} {n : Nat} {cs : List Value} {off : Nat} {fs : List Field} (h : NFields P off fs ks)
    (hlen : off + ks.length = cs.length) (hf : ∀ f ∈ fs, ∃ y, DataW.trod enc P w 0 sp held n f.type ((cs.drop f.offset).take (P.cellsOf f.type)) = some y) : Kds w ks (cs.drop off) := by
  induction h with
  | nil off =>
    simp only [List.length_nil, Nat.add_zero] at hlen
    rw [hlen, List.drop_length]
    exact .nil
  | @cons off f fs ks rest ho hfl hs ih =>
    obtain ⟨y, hy⟩ := hf f (by simp)
    have h1 := hfl.2 _ _ _ _ _ _ _ hy
    rw [ho, hfl.1] at h1
    rw [List.length_append] at hlen
    have h2 := ih (by omega) (fun g hg => hf g (by simp [hg]))
    have e : cs.drop off = (cs.drop off).take ks.length ++ cs.drop (off + ks.length) := by
      rw [← List.drop_drop, List.take_append_drop]
    rw [e]
    exact h1.append h2
theorem nStruct {l : List Field} (ht : P.underlying t = some (.struct l.toArray)) (h : NFields P 0 l ks) (hC : P.cellsOf t = ks.length) : Nest P t ks :=
  ⟨hC, fun enc w sp held fuel cs y hy => by
    obtain ⟨xs, n, _, _, hlen, hxl, hf⟩ := DataW.trod_struct ht hy
    have := nfields_ok (enc := enc) (w := w) (sp := sp) (held := held) (n := n) (cs := cs) h (by omega) (fun f hfm => by
      obtain ⟨j, hj, rfl⟩ := List.mem_iff_getElem.1 hfm
      have hj' : j < l.toArray.size := by simpa using hj
      have := hf j l[j] (by simp)
      rw [List.getElem?_eq_getElem (by omega)] at this
      exact ⟨_, by simpa using this⟩)
    simpa using this⟩
theorem nnil {off : Nat} : NFields P off [] [] := .nil off
theorem ncons {off : Nat} {f : Field} {fs : List Field} {ks rest out : List Kd} (ho : f.offset = off) (hf : Nest P f.type ks) (hs : NFields P (off + ks.length) fs rest) (e : out = ks ++ rest) : NFields P off (f :: fs) out := e ▸ .cons ho hf hs
theorem rep_kds : ∀ (n : Nat) (cs : List Value), cs.length = n * ks.length → (∀ i, i < n → Kds w ks ((cs.drop (i * ks.length)).take ks.length)) → Kds w (List.replicate n ks).flatten cs
  | 0, cs, hl, _ => by
    have : cs = [] := List.eq_nil_of_length_eq_zero (by simpa using hl)
    subst this
    exact .nil
  | n + 1, cs, hl, h => by
    rw [Nat.succ_mul] at hl
    have h0 := h 0 (by omega)
    rw [Nat.zero_mul, List.drop_zero] at h0
    have h1 := rep_kds n (cs.drop ks.length) (by rw [List.length_drop, hl]; omega) (fun i hi => by
      have := h (i + 1) (by omega)
      rw [Nat.succ_mul, Nat.add_comm (i * ks.length)] at this
      rw [List.drop_drop]
      exact this)
    rw [List.replicate_succ, List.flatten_cons, ← List.take_append_drop ks.length cs]
    exact h0.append h1
theorem nArray {e : TypeId} {n : Nat} (ht : P.underlying t = some (.array n e)) (he : Nest P e ks) (hC : P.cellsOf t = n * ks.length) : Nest P t (List.replicate n ks).flatten :=
  ⟨by rw [hC]; simp [List.length_flatten], fun enc w sp held fuel cs y hy => by
    obtain ⟨xs, m, _, _, hlen, hxl, hf⟩ := DataW.trod_array ht hy
    refine rep_kds n cs (by omega) (fun i hi => ?_)
    have := hf i hi
    rw [List.getElem?_eq_getElem (by omega), he.1] at this
    exact he.2 _ _ _ _ _ _ _ this⟩
/-- An argument that is read, opened. -/
theorem open_arg (hN : Nest P t ks) {H : Type} {enc : TypeId × Value → H} {sp : Nat → Bool} {held : Bool} {fuel : Nat} {cs : List Value} {y : DataW H × List MemPlace} (h : DataW.trod enc P w 0 sp held fuel t cs = some y) : Kds w ks cs := hN.2 _ _ _ _ _ _ _ h
theorem kSlice.rds {v : Value} (h : kSlice ks w v) : ∃ rows, RdS ks.length w v rows ∧ ∀ r ∈ rows, Kds w ks r := by
  obtain ⟨A, c, rows, hv, hc, hm, hn, hf, hk⟩ := h
  exact ⟨rows, ⟨A, c, hv, hc, hm, hn, hf, fun r hr => (hk r hr).len⟩, hk⟩
theorem kSlice.bytes {v : Value} (h : kSlice [kInt .u8] w v) : ∃ l : List Int, RdS 1 w v (bys l) ∧ ∀ x ∈ l, 0 ≤ x ∧ x ≤ 255 := by
  obtain ⟨rows, hr, hk⟩ := h.rds
  obtain ⟨l, rfl, hl⟩ := rows_of (f := fun x : Int => [Value.int .u8 x]) (p := fun x => 0 ≤ x ∧ x ≤ 255) (fun r hr => by
    obtain ⟨v, r', rfl, ⟨n, rfl, hw⟩, hs⟩ := (hk r hr).out
    obtain rfl := hs.none
    exact ⟨n, rfl, u8_bd hw⟩)
  exact ⟨l, hr, hl⟩
theorem kSlice.ints {v : Value} (h : kSlice [kInt .i64] w v) : ∃ l : List Int, RdS 1 w v (ins l) ∧ ∀ x ∈ l, -9223372036854775808 ≤ x ∧ x ≤ 9223372036854775807 := by
  obtain ⟨rows, hr, hk⟩ := h.rds
  obtain ⟨l, rfl, hl⟩ := rows_of (f := fun x : Int => [Value.int .i64 x]) (p := fun x => -9223372036854775808 ≤ x ∧ x ≤ 9223372036854775807) (fun r hr => by
    obtain ⟨v, r', rfl, ⟨n, rfl, hw⟩, hs⟩ := (hk r hr).out
    obtain rfl := hs.none
    exact ⟨n, rfl, int_bd hw⟩)
  exact ⟨l, hr, hl⟩
/-- the rows of a slice, as structures -/
theorem kSlice.list {v : Value} {α : Type} {f : α → List Value} {p : α → Prop} (h : kSlice ks w v) (hf : ∀ r, Kds w ks r → ∃ a, r = f a ∧ p a) : ∃ l : List α, RdS ks.length w v (l.map f) ∧ ∀ a ∈ l, p a := by
  obtain ⟨rows, hr, hk⟩ := h.rds
  obtain ⟨l, rfl, hl⟩ := rows_of (f := f) (p := p) (fun r hr => hf r (hk r hr))
  exact ⟨l, hr, hl⟩
end
end Go.Proofs.Ytphhfdlhkginkaa.Hn
end
section
/- Words of this work: one argument, as a row is handed it, opened. No program in sight. -/
set_option linter.unusedVariables false
set_option linter.unusedSimpArgs false
namespace Go.Proofs.Ytphhfdlhkginkaa.Ha
open Go.RowKit Go.Deep Go.ChangeShapes Go.WideShapes Hm Ho Hs Hn
section
variable {P : Program} {t : TypeId} {W : World} {base : Nat} {v : Value} {H : Type} {enc : TypeId × Value → H} {d : DataW H} {p : List MemPlace}
theorem arg_int {k : IntKind} (ht : P.underlying t = some (.int k)) (hC : P.cellsOf t = 1) (h : DataW.Trod enc P W 0 (fun _ => true) true t v d p) (o : Value.okWide P W .any base t v) : ∃ n, v = .int k n ∧ (Lit.int k n).wf = true := by
  obtain ⟨n, rfl⟩ := okWide_int ht o
  obtain ⟨f, g⟩ := h
  obtain ⟨v', r, e, ⟨m, rfl, hw⟩, hs⟩ := (open_arg (w := W) (nInt ht hC) g).out
  simp [Value.cells] at e
  exact ⟨m, by rw [e.1], hw⟩
theorem arg_bool (ht : P.underlying t = some .bool) (o : Value.okWide P W .any base t v) : ∃ b, v = .bool b := okWide_bool ht o
theorem arg_str (ht : P.underlying t = some .string) (hC : P.cellsOf t = 1) (h : DataW.Trod enc P W 0 (fun _ => true) true t v d p) (o : Value.okWide P W .any base t v) : ∃ s : ByteArray, v = .string s ∧ s.size ≤ maxLen := by
  obtain ⟨n, rfl⟩ := okWide_string ht o
  obtain ⟨f, g⟩ := h
  obtain ⟨v', r, e, ⟨m, rfl, hw⟩, hs⟩ := (open_arg (w := W) (nStr ht hC) g).out
  simp [Value.cells] at e
  exact ⟨m, by rw [e.1], hw⟩
theorem arg_slice {e : TypeId} {ks : List Kd} (ht : P.underlying t = some (.slice e)) (he : Nest P e ks) (hC : P.cellsOf t = 1) (h : DataW.Trod enc P W 0 (fun _ => true) true t v d p) (o : Value.okWide P W .any base t v) : kSlice ks W v := by
  obtain ⟨a0, len, cap, rfl⟩ := okWide_slice ht o
  obtain ⟨f, g⟩ := h
  obtain ⟨v', r, e, hk, hs⟩ := (open_arg (w := W) (nSlice ht he hC) g).out
  simp [Value.cells] at e
  rw [e.1]
  exact hk
theorem arg_struct {fs : Array Field} {ks : List Kd} (ht : P.underlying t = some (.struct fs)) (hN : Nest P t ks) (h : DataW.Trod enc P W 0 (fun _ => true) true t v d p) (o : Value.okWide P W .any base t v) : ∃ cs : List Value, v = .agg cs.toArray ∧ Kds W ks cs := by
  obtain ⟨cs, rfl, _⟩ := okWide_struct ht o
  obtain ⟨f, g⟩ := h
  obtain ⟨l⟩ := cs
  exact ⟨l, rfl, open_arg (w := W) hN g⟩
theorem arg_array {n : Nat} {e : TypeId} {ks : List Kd} (ht : P.underlying t = some (.array n e)) (hN : Nest P t ks) (h : DataW.Trod enc P W 0 (fun _ => true) true t v d p) (o : Value.okWide P W .any base t v) : ∃ cs : List Value, v = .agg cs.toArray ∧ Kds W ks cs := by
  obtain ⟨cs, rfl, _⟩ := okWide_array ht o
  obtain ⟨f, g⟩ := h
  obtain ⟨l⟩ := cs
  exact ⟨l, rfl, open_arg (w := W) hN g⟩
end
end Go.Proofs.Ytphhfdlhkginkaa.Ha
end
section
/- Saturating numbers as plain functions. No program in sight. -/
set_option linter.unusedVariables false
set_option linter.unusedSimpArgs false
namespace Go.Proofs.Ytphhfdlhkginkaa.Sm
open Go.RowKit
theorem wr {x : Int} (h0 : -9223372036854775808 ≤ x) (h1 : x ≤ 9223372036854775807) : wrap64 x = x := by unfold wrap64; omega
def fit (x : Int) : Int := min (max x 0) 4611686018427387904
theorem fit_bd (x : Int) : 0 ≤ fit x ∧ fit x ≤ 4611686018427387904 := by unfold fit; omega
theorem fit_id {x : Int} (h0 : 0 ≤ x) (h1 : x ≤ 4611686018427387904) : fit x = x := by unfold fit; omega
theorem fit_fit (x : Int) : fit (fit x) = fit x := fit_id (fit_bd x).1 (fit_bd x).2
def two (a b : Int) : Int := min (fit a + fit b) 4611686018427387904
theorem two_bd (a b : Int) : 0 ≤ two a b ∧ two a b ≤ 4611686018427387904 := by unfold two fit; omega
theorem two_zero (a : Int) : two 0 a = fit a := by unfold two fit; omega
def sub (a b : Int) : Int := max (fit a - fit b) 0
theorem sub_bd (a b : Int) : 0 ≤ sub a b ∧ sub a b ≤ 4611686018427387904 := by unfold sub fit; omega
def sum (l : List Int) : Int := l.foldl two 0
theorem sum_snoc (l : List Int) (x : Int) : sum (l ++ [x]) = two (sum l) x := by unfold sum; rw [List.foldl_append]; rfl
theorem sum_bd (l : List Int) : 0 ≤ sum l ∧ sum l ≤ 4611686018427387904 := by
  rcases List.eq_nil_or_concat l with rfl | ⟨r, x, rfl⟩
  · unfold sum; decide
  · rw [List.concat_eq_append, sum_snoc]; exact two_bd _ _
theorem take_snoc {l : List Int} {k : Nat} {x : Int} (h : l[k]? = some x) : l.take (k + 1) = l.take k ++ [x] := by
  obtain ⟨hk, rfl⟩ := List.getElem?_eq_some_iff.1 h
  rw [List.take_succ_eq_append_getElem hk]
theorem step_is (s x : Int) (h0 : 0 ≤ s) (h1 : s ≤ 4611686018427387904) : fit (s + min (fit x) (4611686018427387904 - s)) = two s x := by
  unfold two fit; omega
def mul (a b : Int) : Int := min (fit a * fit b) 4611686018427387904
theorem mul_bd (a b : Int) : 0 ≤ mul a b ∧ mul a b ≤ 4611686018427387904 := by
  have := Int.mul_nonneg (fit_bd a).1 (fit_bd b).1
  unfold mul; omega
theorem uw (x : Int) : IntKind.u64.wrap x = x % 18446744073709551616 := by
  simp [IntKind.wrap, IntKind.signed, IntKind.bits]
theorem and32 (x : Int) (h0 : 0 ≤ x) (h1 : x < 18446744073709551616) : Go.bits .and .u64 x 4294967295 = x % 4294967296 := bits_mask .u64 64 (by decide) (fun n h0 h1 => by rw [uw]; omega) 32 (by decide) x h0 h1
end Go.Proofs.Ytphhfdlhkginkaa.Sm
end
