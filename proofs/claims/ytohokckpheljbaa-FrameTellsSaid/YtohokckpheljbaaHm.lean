/- Words of this work: maps keyed by int64 as lists of pairs; worlds of which only named blocks have turned. No program in sight. -/
import Derived.WalkKit
import Derived.Maps.OwnSet
import Derived.MapKept
import Derived.Deep.Draws
set_option linter.unusedVariables false
set_option linter.unusedSimpArgs false
namespace Go.Proofs.Ytohokckpheljbaa.Hm
open Go.RowKit Go.MapKept

/-- Of the blocks that were there only those of F may have turned. -/
structure Turns (F : List Nat) (w w' : World) : Prop where
  os : w'.os = w.os
  tape : w'.tape = w.tape
  output : w'.output = w.output
  size : w.heap.size ≤ w'.heap.size
  block : ∀ k, k < w.heap.size → k ∉ F → w'.heap[k]? = w.heap[k]?
theorem Turns.refl (F : List Nat) (w : World) : Turns F w w := ⟨rfl, rfl, rfl, Nat.le_refl _, fun _ _ _ => rfl⟩
theorem Turns.trans {F : List Nat} {a b c : World} (h : Turns F a b) (k : Turns F b c) : Turns F a c :=
  ⟨k.os.trans h.os, k.tape.trans h.tape, k.output.trans h.output, Nat.le_trans h.size k.size, fun i hi hF => (k.block i (Nat.lt_of_lt_of_le hi h.size) hF).trans (h.block i hi hF)⟩
theorem Turns.mono {F G : List Nat} {a b : World} (h : Turns F a b) (hG : ∀ k, k ∈ F → k ∈ G) : Turns G a b :=
  ⟨h.os, h.tape, h.output, h.size, fun i hi hF => h.block i hi (fun e => hF (hG _ e))⟩
/-- what turned besides was new -/
theorem Turns.then {F G : List Nat} {a b c : World} (h : Turns F a b) (k : Turns G b c) (hG : ∀ i, i ∈ G → i ∈ F ∨ a.heap.size ≤ i) : Turns F a c :=
  ⟨k.os.trans h.os, k.tape.trans h.tape, k.output.trans h.output, Nat.le_trans h.size k.size, fun i hi hF =>
    (k.block i (Nat.lt_of_lt_of_le hi h.size) (fun e => by rcases hG i e with h1 | h1; exact hF h1; omega)).trans (h.block i hi hF)⟩
theorem Turns.drew {F : List Nat} {a w : World} (h : Turns F a w) : Turns F a w.drew := ⟨h.os, h.tape, h.output, h.size, h.block⟩
theorem Turns.drewN {F : List Nat} {a w : World} (h : Turns F a w) (n : Nat) : Turns F a (w.drewN n) := ⟨h.os, h.tape, h.output, h.size, h.block⟩
theorem Turns.alloc {F : List Nat} {a w : World} (h : Turns F a w) (o : Obj) : Turns F a (w.alloc o) :=
  h.trans ⟨rfl, rfl, rfl, by simp, fun k hk _ => Below.heap_alloc _ _ _ hk⟩
theorem Turns.setCell {F : List Nat} {a w : World} (h : Turns F a w) {p : Addr} (hp : p.block ∈ F ∨ a.heap.size ≤ p.block) (u : Value) : Turns F a (w.setCell p u) :=
  ⟨h.os, h.tape, h.output, by simpa [World.setCell] using h.size, fun k hk hF => by
    rw [Below.heap_setCell _ _ _ _ (fun e => by subst e; rcases hp with h1 | h1; exact hF h1; omega)]
    exact h.block k hk hF⟩
theorem Turns.below {F : List Nat} {a b c : World} (h : Turns F a b) {n : Nat} (k : Below n b c) (hn : a.heap.size ≤ n) : Turns F a c :=
  ⟨k.os.trans h.os, k.tape.trans h.tape, k.output.trans h.output, Nat.le_trans h.size k.size, fun i hi hF => (k.block i (Nat.lt_of_lt_of_le hi hn)).trans (h.block i hi hF)⟩
theorem Turns.grown {F : List Nat} {a b c : World} {row : Option Nat} (h : Turns F a b) (g : b.grownBy c row) (hr : ∀ k, row = some k → k ∈ F ∨ a.heap.size ≤ k) : Turns F a c :=
  ⟨g.os.trans h.os, g.tape.trans h.tape, g.output.trans h.output, Nat.le_trans h.size g.size, fun i hi hF =>
    (g.block i (Nat.lt_of_lt_of_le hi h.size) (fun e => by rcases hr i e.symm with h1 | h1; exact hF h1; omega)).trans (h.block i hi hF)⟩
theorem Turns.isBelow {w w' : World} (h : Turns [] w w') : Below w.heap.size w w' := ⟨h.os, h.tape, h.output, h.size, fun k hk => h.block k hk (by simp)⟩
theorem Turns.of_below {w w' : World} (F : List Nat) (h : Below w.heap.size w w') : Turns F w w' := ⟨h.os, h.tape, h.output, h.size, fun k hk _ => h.block k hk⟩
theorem Turns.cell {F : List Nat} {w w' : World} (h : Turns F w w') {p : Addr} (hp : p.block < w.heap.size) (hF : p.block ∉ F) : w'.cell? p = w.cell? p := World.cell?_of_block (w := w) (h.block p.block hp hF)
theorem Turns.frozen {F : List Nat} {w w' : World} (h : Turns F w w') {p : Addr} (hp : p.block < w.heap.size) (hF : p.block ∉ F) : w'.frozen? p = w.frozen? p := World.frozen?_of_block (w := w) (h.block p.block hp hF)

/-- A block of cells, none frozen. -/
def Blk (w : World) (b : Nat) (cs : Array Value) (t : TypeId) : Prop := w.heap[b]? = some (.cells cs t (0, 0))
theorem Blk.lt {w : World} {b : Nat} {cs : Array Value} {t : TypeId} (h : Blk w b cs t) : b < w.heap.size := (Array.getElem?_eq_some_iff.1 h).1
theorem Blk.cell {w : World} {b : Nat} {cs : Array Value} {t : TypeId} (h : Blk w b cs t) (i : Nat) : w.cell? ⟨b, i, none⟩ = cs[i]? := by
  unfold Blk at h; simp [World.cell?, h]
theorem Blk.frozen {w : World} {b : Nat} {cs : Array Value} {t : TypeId} (h : Blk w b cs t) (i : Nat) : w.frozen? ⟨b, i, none⟩ = false := by
  unfold Blk at h; simp [World.frozen?, h]
theorem Blk.move {w w' : World} {b : Nat} {cs : Array Value} {t : TypeId} (h : Blk w b cs t) (hm : w'.heap[b]? = w.heap[b]?) : Blk w' b cs t := hm.trans h
theorem Blk.new (w : World) (cs : Array Value) (t : TypeId) : Blk (w.alloc (.cells cs t)) w.heap.size cs t := (heap_alloc w _).1
theorem Blk.alloc {w : World} {b : Nat} {cs : Array Value} {t : TypeId} (h : Blk w b cs t) (o : Obj) : Blk (w.alloc o) b cs t := h.move (Below.heap_alloc _ _ _ h.lt)
theorem Blk.set {w : World} {b : Nat} {cs : Array Value} {t : TypeId} (h : Blk w b cs t) (i : Nat) (u : Value) : Blk (w.setCell ⟨b, i, none⟩ u) b (cs.setIfInBounds i u) t := by
  unfold Blk at h ⊢
  simp [World.setCell, Array.getElem?_modify, h]
theorem Blk.far {w : World} {b : Nat} {cs : Array Value} {t : TypeId} (h : Blk w b cs t) {p : Addr} (hp : b ≠ p.block) (u : Value) : Blk (w.setCell p u) b cs t := h.move (Below.heap_setCell _ _ _ _ hp)
theorem Blk.turns {w w' : World} {F : List Nat} {b : Nat} {cs : Array Value} {t : TypeId} (h : Blk w b cs t) (k : Turns F w w') (hF : b ∉ F) : Blk w' b cs t := h.move (k.block b h.lt hF)

/-- A row of elements of sz cells each, as their cells. -/
def FlatRow (w : World) (A : Option Addr) (sz : Nat) (rows : List (List Value)) : Prop :=
  rows.length ≤ 9223372036854775807 ∧ (0 < rows.length → ∃ ad, A = some ad ∧ ∀ j c, rows[j]? = some c → c.length = sz ∧ ∀ i u, c[i]? = some u → w.cell? (ad.add (j * sz + i)) = some u)
theorem FlatRow.at_ {w : World} {A : Option Addr} {sz : Nat} {rows : List (List Value)} (h : FlatRow w A sz rows) {j : Nat} {c : List Value} (hj : rows[j]? = some c) :
    ∃ ad, A = some ad ∧ c.length = sz ∧ ∀ i u, c[i]? = some u → w.cell? (ad.add (j * sz + i)) = some u := by
  obtain ⟨ad, e, hc⟩ := h.2 (by have := (List.getElem?_eq_some_iff.1 hj).1; omega)
  exact ⟨ad, e, hc j c hj⟩
/-- A row of int64s. -/
def IRow (w : World) (A : Option Addr) (xs : List Int) : Prop :=
  xs.length ≤ 9223372036854775807 ∧ (0 < xs.length → ∃ ad, A = some ad ∧ ∀ j x, xs[j]? = some x → w.cell? (ad.add j) = some (.int .i64 x))
theorem IRow.at_ {w : World} {A : Option Addr} {xs : List Int} (h : IRow w A xs) {j : Nat} {x : Int} (hj : xs[j]? = some x) : ∃ ad, A = some ad ∧ w.cell? (ad.add j) = some (.int .i64 x) := by
  obtain ⟨ad, e, hc⟩ := h.2 (by have := (List.getElem?_eq_some_iff.1 hj).1; omega)
  exact ⟨ad, e, hc j x hj⟩
theorem IRow.mv {w w' : World} {A : Option Addr} {xs : List Int} (h : IRow w A xs) (hm : ∀ a v, w.cell? a = some v → w'.cell? a = some v) : IRow w' A xs :=
  ⟨h.1, fun hn => by
    obtain ⟨ad, e, hc⟩ := h.2 hn
    exact ⟨ad, e, fun j x hj => hm _ _ (hc j x hj)⟩⟩
theorem add_zero_ (g j : Nat) : (⟨g, 0, none⟩ : Addr).add j = ⟨g, j, none⟩ := by unfold Addr.add; split <;> simp_all
/-- A field's address as the walk spells it. -/
theorem add_field (ad : Addr) (m j : Nat) (hj : 0 < j) : ad.add (m + j) = ⟨(ad.add m).block, (ad.add m).off + j, none⟩ := by
  unfold Addr.add
  by_cases hm : m = 0
  · subst hm
    simp [Nat.ne_of_gt hj]
  · simp [hm, Nat.add_assoc]
theorem old_cell {n : Nat} {w w' : World} (h : Below n w w') {a : Addr} {v : Value} (hn : w.heap.size ≤ n) (hc : w.cell? a = some v) : w'.cell? a = some v :=
  (h.cell (Nat.lt_of_lt_of_le (World.block_lt_of_cell? w a hc) hn)).trans hc
theorem Turns.old {w w' : World} (h : Turns [] w w') {a : Addr} {v : Value} (hc : w.cell? a = some v) : w'.cell? a = some v := old_cell h.isBelow (Nat.le_refl _) hc
theorem IRow.of_blk {w : World} {b : Nat} {xs : List Int} {t : TypeId} {cs : Array Value} (h : Blk w b cs t) (hx : cs.toList = xs.map (Value.int .i64)) (hl : xs.length ≤ 1000000) : IRow w (some ⟨b, 0, none⟩) xs :=
  ⟨by omega, fun _ => ⟨_, rfl, fun j x hj => by
    rw [add_zero_, h.cell, ← Array.getElem?_toList, hx, List.getElem?_map, hj]
    rfl⟩⟩
/-- A map keyed by int64, as a list of pairs in some order; the stamps are the model's. -/
def IMap (w : World) (b : Nat) (l : List (Int × Value)) : Prop :=
  ∃ es clock, w.heap[b]? = some (.map es clock) ∧ Stamped es clock ∧ es.toList.map (fun e => (e.key, e.val)) = l.map (fun p => (Value.int .i64 p.1, p.2))
theorem IMap.lt {w : World} {b : Nat} {l : List (Int × Value)} (h : IMap w b l) : b < w.heap.size := by
  obtain ⟨es, clock, hb, _⟩ := h
  exact (Array.getElem?_eq_some_iff.1 hb).1
theorem IMap.move {w w' : World} {b : Nat} {l : List (Int × Value)} (h : IMap w b l) (hm : w'.heap[b]? = w.heap[b]?) : IMap w' b l := by
  obtain ⟨es, clock, hb, h1, h2⟩ := h
  exact ⟨es, clock, hm.trans hb, h1, h2⟩
theorem IMap.alloc {w : World} {b : Nat} {l : List (Int × Value)} (h : IMap w b l) (o : Obj) : IMap (w.alloc o) b l := h.move (Below.heap_alloc _ _ _ h.lt)
theorem IMap.far {w : World} {b : Nat} {l : List (Int × Value)} (h : IMap w b l) {p : Addr} (hp : b ≠ p.block) (u : Value) : IMap (w.setCell p u) b l := h.move (Below.heap_setCell _ _ _ _ hp)
theorem IMap.turns {w w' : World} {F : List Nat} {b : Nat} {l : List (Int × Value)} (h : IMap w b l) (k : Turns F w w') (hF : b ∉ F) : IMap w' b l := h.move (k.block b h.lt hF)
theorem IMap.new (w : World) : IMap (w.alloc (.map #[] 0)) w.heap.size [] := ⟨#[], 0, (heap_alloc w _).1, stamped_empty 0, rfl⟩

theorem IMap.drew {w : World} {b : Nat} {l : List (Int × Value)} (h : IMap w b l) : IMap w.drew b l := h
theorem Blk.drew {w : World} {b : Nat} {cs : Array Value} {t : TypeId} (h : Blk w b cs t) : Blk w.drew b cs t := h
theorem Blk.ne_map {w : World} {b m : Nat} {cs : Array Value} {t : TypeId} {l : List (Int × Value)} (h : Blk w b cs t) (k : IMap w m l) : b ≠ m := by
  rintro rfl
  obtain ⟨es, clock, hb, _⟩ := k
  unfold Blk at h
  rw [h] at hb
  injection hb with hb
  cases hb
/-- blocks of two types -/
theorem Blk.ne {w : World} {b b' : Nat} {cs cs' : Array Value} {t t' : TypeId} (h : Blk w b cs t) (k : Blk w b' cs' t') (ht : t ≠ t') : b ≠ b' := by
  rintro rfl
  unfold Blk at h k
  rw [h] at k
  injection k with k
  injection k with _ k
  exact ht k
/-- for looking: the walk stands where 'stop_' is laid -/
structure Mk_ (p : Prop) : Prop where mk :: (out : p)
theorem stop_ {p : Prop} (h : Mk_ p) : p := h.out
/-- what lies at a key -/
def at_ (l : List (Int × Value)) (k : Int) : Option Value := (l.find? (fun p => p.1 == k)).map (·.2)
/-- with a value at a key: at its place, or behind -/
def put_ (l : List (Int × Value)) (k : Int) (v : Value) : List (Int × Value) :=
  if l.any (fun p => p.1 == k) then l.map (fun p => if p.1 == k then (k, v) else p) else l ++ [(k, v)]
def del_ (l : List (Int × Value)) (k : Int) : List (Int × Value) := l.filter (fun p => !(p.1 == k))
def Once (l : List (Int × Value)) : Prop := (l.map (·.1)).Nodup

theorem keys_int {es : Array MapEntry} {l : List (Int × Value)} (h : es.toList.map (fun e => (e.key, e.val)) = l.map (fun p => (Value.int .i64 p.1, p.2))) :
    ∀ x ∈ es.toList, IsKey (.int .i64) x.key := by
  intro x hx
  have : (x.key, x.val) ∈ l.map (fun p => (Value.int .i64 p.1, p.2)) := by rw [← h]; exact List.mem_map.2 ⟨x, hx, rfl⟩
  obtain ⟨p, _, hp⟩ := List.mem_map.1 this
  have e : x.key = .int .i64 p.1 := (congrArg Prod.fst hp).symm
  rw [e]; rfl
theorem pair_at {es : Array MapEntry} {l : List (Int × Value)} (h : es.toList.map (fun e => (e.key, e.val)) = l.map (fun p => (Value.int .i64 p.1, p.2))) {j : Nat} {e : MapEntry} (he : es.toList[j]? = some e) :
    ∃ p, l[j]? = some p ∧ e.key = .int .i64 p.1 ∧ e.val = p.2 := by
  have h1 : (es.toList.map (fun e => (e.key, e.val)))[j]? = some (e.key, e.val) := by rw [List.getElem?_map, he]; rfl
  rw [h, List.getElem?_map] at h1
  cases hp : l[j]? with
  | none => rw [hp] at h1; cases h1
  | some p =>
    rw [hp] at h1
    simp only [Option.map_some, Option.some.injEq, Prod.mk.injEq] at h1
    exact ⟨p, rfl, h1.1.symm, h1.2.symm⟩

section
variable {P : Program} {w : World} {b : Nat} {l : List (Int × Value)} {t kt et : TypeId}
theorem IMap.once (h : IMap w b l) : Once l := by
  obtain ⟨es, clock, _, ⟨_, _, h3⟩, h2⟩ := h
  have e : es.toList.map (·.key) = l.map (fun p => Value.int .i64 p.1) := by
    have := congrArg (List.map Prod.fst) h2
    simpa [List.map_map, Function.comp_def] using this
  rw [e] at h3
  unfold Once
  have : l.map (fun p => Value.int .i64 p.1) = (l.map (·.1)).map (Value.int .i64) := by simp [List.map_map, Function.comp_def]
  rw [this] at h3
  exact (List.pairwise_map.1 h3).imp (fun h e => h (by rw [e]))
/-- the entry of a key: none, or its place -/
theorem IMap.find {es : Array MapEntry} (h : es.toList.map (fun e => (e.key, e.val)) = l.map (fun p => (Value.int .i64 p.1, p.2))) (k : Int) :
    (Instr.findNow (.int .i64) (.int .i64 k) es.toList 0 = some none ∧ (∀ p ∈ l, p.1 ≠ k)) ∨
    ∃ j v, Instr.findNow (.int .i64) (.int .i64 k) es.toList 0 = some (some (j, v)) ∧ l[j]? = some (k, v) := by
  rcases findNow_spec (d := .int .i64) (k := .int .i64 k) rfl es.toList 0 (keys_int h) with ⟨h1, h2⟩ | ⟨j, e, h1, h2, h3⟩
  · refine .inl ⟨h1, fun p hp hk => ?_⟩
    have : (Value.int .i64 p.1, p.2) ∈ es.toList.map (fun e => (e.key, e.val)) := by rw [h]; exact List.mem_map.2 ⟨p, hp, rfl⟩
    obtain ⟨x, hx, he⟩ := List.mem_map.1 this
    refine h2 x hx ?_
    have := congrArg Prod.fst he
    simp only at this
    rw [this, hk]
  · obtain ⟨p, hp, hk, hv⟩ := pair_at h h2
    rw [h3] at hk
    have : p.1 = k := by injection hk with _ hk; exact hk.symm
    refine .inr ⟨j, e.val, by simpa using h1, ?_⟩
    rw [hp, hv, ← this]
theorem at_none {k : Int} (h : ∀ p ∈ l, p.1 ≠ k) : at_ l k = none := by
  unfold at_
  rw [List.find?_eq_none.2 (fun p hp => by simpa using h p hp)]
  rfl
theorem at_some {k : Int} {v : Value} (ho : Once l) (hm : (k, v) ∈ l) : at_ l k = some v := by
  induction l with
  | nil => cases hm
  | cons p r ih =>
    unfold Once at ho
    rw [List.map_cons, List.nodup_cons] at ho
    unfold at_
    rw [List.find?_cons]
    rcases List.mem_cons.1 hm with rfl | hm
    · simp
    · have hne : p.1 ≠ k := fun e => ho.1 (by rw [e]; exact List.mem_map.2 ⟨(k, v), hm, rfl⟩)
      have hb : (p.1 == k) = false := by simpa using hne
      rw [hb]
      exact ih ho.2 hm
theorem run_lookup (h : IMap w b l) (ht : P.underlying t = some (.map kt et)) (hk : P.underlying kt = some (.int .i64)) (k : Int) {z : Value} (hz : (zeroValue et).run P w = .ok z w) (ok : Bool) :
    (Instr.lookup t (.map (some b)) (.int .i64 k) ok).run P w = .ok (if ok then .tuple #[(at_ l k).getD z, .bool (at_ l k).isSome] else (at_ l k).getD z) w := by
  have ho := h.once
  obtain ⟨es, clock, hb, _, hl⟩ := h
  rcases IMap.find hl k with ⟨h1, h2⟩ | ⟨j, v, h1, h2⟩
  · have ha := at_none h2
    simp [Instr.lookup, run_underlying ht, MapKept.run_getObj_map hb, run_checkKey hk (k := .int .i64 k) rfl, run_findKey hk h1, Result.andThen, hz, ha]
  · have ha := at_some ho (List.mem_of_getElem? h2)
    simp [Instr.lookup, run_underlying ht, MapKept.run_getObj_map hb, run_checkKey hk (k := .int .i64 k) rfl, run_findKey hk h1, Result.andThen, ha]
/-- a map's block with other entries -/
theorem setObj_turns {es es' : Array MapEntry} {clock clock' : Nat} (hb : w.heap[b]? = some (.map es clock)) : Turns [b] w { w with heap := w.heap.setIfInBounds b (.map es' clock') } :=
  ⟨rfl, rfl, rfl, by simp, fun k hk hF => (heap_set hb).2 k (by simpa using hF)⟩
theorem put_none {k : Int} {v : Value} (h : ∀ p ∈ l, p.1 ≠ k) : put_ l k v = l ++ [(k, v)] := by
  unfold put_
  rw [if_neg]
  simp only [List.any_eq_true, beq_iff_eq, not_exists, not_and]
  exact fun p hp e => h p hp e
theorem put_at {k : Int} {v v0 : Value} (ho : Once l) {j : Nat} (hj : l[j]? = some (k, v0)) : put_ l k v = l.set j (k, v) := by
  unfold put_
  rw [if_pos (by simp only [List.any_eq_true, beq_iff_eq]; exact ⟨_, List.mem_of_getElem? hj, rfl⟩)]
  induction l generalizing j with
  | nil => simp at hj
  | cons p r ih =>
    unfold Once at ho
    rw [List.map_cons, List.nodup_cons] at ho
    cases j with
    | zero =>
      simp only [List.getElem?_cons_zero, Option.some.injEq] at hj
      subst hj
      simp only [List.map_cons, beq_self_eq_true, if_true, List.set_cons_zero]
      congr 1
      conv => rhs; rw [← List.map_id r]
      refine List.map_congr_left (fun q hq => ?_)
      rw [if_neg]
      · rfl
      · simp only [beq_iff_eq]
        exact fun e => ho.1 (by rw [← e]; exact List.mem_map.2 ⟨q, hq, rfl⟩)
    | succ j =>
      have hj' : r[j]? = some (k, v0) := by simpa using hj
      have hne : p.1 ≠ k := fun e => ho.1 (by rw [e]; exact List.mem_map.2 ⟨_, List.mem_of_getElem? hj', rfl⟩)
      rw [List.map_cons, if_neg (by simpa using hne), List.set_cons_succ, ih ho.2 hj']
theorem run_update (h : IMap w b l) (ht : P.underlying t = some (.map kt et)) (hk : P.underlying kt = some (.int .i64)) (k : Int) (v : Value) :
    ∃ w', (Instr.mapUpdate t (.map (some b)) (.int .i64 k) v).run P w = .ok () w' ∧ IMap w' b (put_ l k v) ∧ Turns [b] w w' := by
  have ho := h.once
  obtain ⟨es, clock, hb, hs, hl⟩ := h
  rcases IMap.find hl k with ⟨h1, h2⟩ | ⟨j, v0, h1, h2⟩
  · refine ⟨{ w with heap := w.heap.setIfInBounds b (.map (es.push { key := .int .i64 k, val := v, born := clock }) (clock + 1)) }, ?_, ?_, setObj_turns hb⟩
    · simp [Instr.mapUpdate, run_underlying ht, MapKept.run_getObj_map hb, run_checkKey hk (k := .int .i64 k) rfl, run_findKey hk h1, Result.andThen, run_setObj_map _ hb]
    · refine ⟨_, _, (heap_set hb).1, stamped_push hs (fun x hx => ?_), ?_⟩
      · have : (x.key, x.val) ∈ l.map (fun p => (Value.int .i64 p.1, p.2)) := by rw [← hl]; exact List.mem_map.2 ⟨x, hx, rfl⟩
        obtain ⟨p, hp, he⟩ := List.mem_map.1 this
        have e : Value.int .i64 p.1 = x.key := congrArg Prod.fst he
        rw [← e]
        exact fun e2 => h2 p hp (by injection e2)
      · rw [put_none h2]
        simp [hl]
  · obtain ⟨e, he, hek⟩ : ∃ e, es.toList[j]? = some e ∧ e.key = .int .i64 k := by
      have : (es.toList.map (fun e => (e.key, e.val)))[j]? = some (.int .i64 k, v0) := by rw [hl, List.getElem?_map, h2]; rfl
      rw [List.getElem?_map] at this
      cases hx : es.toList[j]? with
      | none => rw [hx] at this; cases this
      | some e => rw [hx] at this; simp at this; exact ⟨e, rfl, this.1⟩
    have hea : es[j]? = some e := by simpa using he
    refine ⟨{ w with heap := w.heap.setIfInBounds b (.map (es.modify j fun e => { e with key := .int .i64 k, val := v }) clock) }, ?_, ?_, setObj_turns hb⟩
    · simp [Instr.mapUpdate, run_underlying ht, MapKept.run_getObj_map hb, run_checkKey hk (k := .int .i64 k) rfl, run_findKey hk h1, Result.andThen, run_setObj_map _ hb, hea, hek, Instr.keyThatStays, Instr.sameBits]
    · refine ⟨_, _, (heap_set hb).1, stamped_modify hs j _ (fun _ _ => rfl) (fun e' _ he' => ?_), ?_⟩
      · rw [hea] at he'; injection he' with he'; subst he'; exact hek.symm
      · rw [put_at ho h2, Array.toList_modify, List.map_set, ← hl]
        apply List.ext_getElem?
        intro i
        rw [List.getElem?_map, List.getElem?_modify, List.getElem?_set]
        by_cases hij : j = i
        · subst hij
          have hlt : j < es.toList.length := (List.getElem?_eq_some_iff.1 he).1
          have hlt2 : j < es.size := by simpa using hlt
          simp [he, hlt2]
        · simp [hij]
theorem map_eraseIdx' {α β : Type} (f : α → β) : ∀ (l : List α) (j : Nat), (l.map f).eraseIdx j = (l.eraseIdx j).map f
  | [], _ => by simp
  | _ :: _, 0 => by simp
  | _ :: r, j + 1 => by simp [map_eraseIdx' f r j]
theorem del_none {k : Int} (h : ∀ p ∈ l, p.1 ≠ k) : del_ l k = l := by
  unfold del_
  exact List.filter_eq_self.2 (fun p hp => by simpa using h p hp)
theorem del_at {k : Int} {v0 : Value} (ho : Once l) {j : Nat} (hj : l[j]? = some (k, v0)) : del_ l k = l.eraseIdx j := by
  induction l generalizing j with
  | nil => simp at hj
  | cons p r ih =>
    unfold Once at ho
    rw [List.map_cons, List.nodup_cons] at ho
    cases j with
    | zero =>
      simp only [List.getElem?_cons_zero, Option.some.injEq] at hj
      subst hj
      have e : del_ r k = r := del_none (fun q hq e => ho.1 (by rw [← e]; exact List.mem_map.2 ⟨q, hq, rfl⟩))
      unfold del_ at e ⊢
      rw [List.filter_cons, if_neg (by simp), e]
      rfl
    | succ j =>
      have hj' : r[j]? = some (k, v0) := by simpa using hj
      have hne : p.1 ≠ k := fun e => ho.1 (by rw [e]; exact List.mem_map.2 ⟨_, List.mem_of_getElem? hj', rfl⟩)
      have e := ih ho.2 hj'
      unfold del_ at e ⊢
      rw [List.filter_cons, if_pos (by simpa using hne), e]
      rfl
theorem run_delete (h : IMap w b l) (ht : P.underlying t = some (.map kt et)) (hk : P.underlying kt = some (.int .i64)) (k : Int) (tt ty : TypeId) :
    ∃ w', (Go.Builtin.delete_ #[t, tt] ty #[.map (some b), .int .i64 k]).run P w = .ok (.tuple #[]) w' ∧ IMap w' b (del_ l k) ∧ Turns [b] w w' := by
  have ho := h.once
  obtain ⟨es, clock, hb, hs, hl⟩ := h
  rcases IMap.find hl k with ⟨h1, h2⟩ | ⟨j, v0, h1, h2⟩
  · refine ⟨{ w with heap := w.heap.setIfInBounds b (.map es clock) }, ?_, ?_, setObj_turns hb⟩
    · simp [Go.Builtin.delete_, run_underlying ht, MapKept.run_getObj_map hb, run_checkKey hk (k := .int .i64 k) rfl, run_findKey hk h1, Result.andThen, run_setObj_map _ hb]
    · exact ⟨_, _, (heap_set hb).1, hs, by rw [del_none h2]; exact hl⟩
  · refine ⟨{ w with heap := w.heap.setIfInBounds b (.map (es.eraseIdxIfInBounds j) clock) }, ?_, ?_, setObj_turns hb⟩
    · simp [Go.Builtin.delete_, run_underlying ht, MapKept.run_getObj_map hb, run_checkKey hk (k := .int .i64 k) rfl, run_findKey hk h1, Result.andThen, run_setObj_map _ hb]
    · refine ⟨_, _, (heap_set hb).1, stamped_erase hs j, ?_⟩
      have hlt : j < es.size := by
        have h3 := congrArg List.length hl
        have h4 := (List.getElem?_eq_some_iff.1 h2).1
        simp at h3
        omega
      rw [del_at ho h2, Array.eraseIdxIfInBounds, dif_pos hlt, Array.toList_eraseIdx, ← map_eraseIdx', hl, map_eraseIdx']
theorem run_len (h : IMap w b l) (ht : P.underlying t = some (.map kt et)) (ty : TypeId) : (Go.Builtin.len_ #[t] ty #[.map (some b)]).run P w = .ok (.int .i64 (l.length : Int)) w := by
  obtain ⟨es, clock, hb, hs, hl⟩ := h
  have h3 := congrArg List.length hl
  simp at h3
  simp [Go.Builtin.len_, run_underlying ht, MapKept.run_getObj_map hb, Result.andThen, goInt, h3]
end
section
variable {P : Program} {w : World} {b : Nat} {l : List (Int × Value)} {ops : Array Oper} {rest : List Oper} {o : Oper} {a : Act} {Q : Exit → Act → World → Prop}
theorem wp_lookup (h : IMap w b l) (hg : o.guard = none) (m x : Operand) (t kt et : TypeId) (ok : Bool) (hop : o.op = Op.lookup t m x ok)
    (ht : P.underlying t = some (.map kt et)) (hk : P.underlying kt = some (.int .i64)) (z : Value) (hz : (zeroValue et).run P w = .ok z w)
    (hm : a.eval m = .map (some b)) (k : Int) (hx : a.eval x = .int .i64 k)
    (hK : wpList P ops Q rest (a.put o.dst (if ok then .tuple #[(at_ l k).getD z, .bool (at_ l k).isSome] else (at_ l k).getD z)) w) :
    wpList P ops Q (o :: rest) a w := by
  refine wpList_plain hg fun K' hK' => ?_
  unfold Oper.wp
  simp [execOp, hop, hm, hx, run_lookup h ht hk k hz ok, Result.andThen]
  exact hK' _ _ hK
theorem wp_lookup_ok_some (h : IMap w b l) (hg : o.guard = none) (m x : Operand) (t kt et : TypeId) (hop : o.op = Op.lookup t m x true)
    (ht : P.underlying t = some (.map kt et)) (hk : P.underlying kt = some (.int .i64)) (z : Value) (hz : (zeroValue et).run P w = .ok z w)
    (hm : a.eval m = .map (some b)) (k : Int) (hx : a.eval x = .int .i64 k) (v : Value) (hat : at_ l k = some v)
    (hK : wpList P ops Q rest (a.put o.dst (.tuple #[v, .bool true])) w) : wpList P ops Q (o :: rest) a w := wp_lookup h hg m x t kt et true hop ht hk z hz hm k hx (by simpa [hat] using hK)
theorem wp_lookup_ok_none (h : IMap w b l) (hg : o.guard = none) (m x : Operand) (t kt et : TypeId) (hop : o.op = Op.lookup t m x true)
    (ht : P.underlying t = some (.map kt et)) (hk : P.underlying kt = some (.int .i64)) (z : Value) (hz : (zeroValue et).run P w = .ok z w)
    (hm : a.eval m = .map (some b)) (k : Int) (hx : a.eval x = .int .i64 k) (hat : at_ l k = none)
    (hK : wpList P ops Q rest (a.put o.dst (.tuple #[z, .bool false])) w) : wpList P ops Q (o :: rest) a w := wp_lookup h hg m x t kt et true hop ht hk z hz hm k hx (by simpa [hat] using hK)
theorem wp_lookup_some (h : IMap w b l) (hg : o.guard = none) (m x : Operand) (t kt et : TypeId) (hop : o.op = Op.lookup t m x false)
    (ht : P.underlying t = some (.map kt et)) (hk : P.underlying kt = some (.int .i64)) (z : Value) (hz : (zeroValue et).run P w = .ok z w)
    (hm : a.eval m = .map (some b)) (k : Int) (hx : a.eval x = .int .i64 k) (v : Value) (hat : at_ l k = some v)
    (hK : wpList P ops Q rest (a.put o.dst (v)) w) : wpList P ops Q (o :: rest) a w := wp_lookup h hg m x t kt et false hop ht hk z hz hm k hx (by simpa [hat] using hK)
theorem wp_lookup_none (h : IMap w b l) (hg : o.guard = none) (m x : Operand) (t kt et : TypeId) (hop : o.op = Op.lookup t m x false)
    (ht : P.underlying t = some (.map kt et)) (hk : P.underlying kt = some (.int .i64)) (z : Value) (hz : (zeroValue et).run P w = .ok z w)
    (hm : a.eval m = .map (some b)) (k : Int) (hx : a.eval x = .int .i64 k) (hat : at_ l k = none)
    (hK : wpList P ops Q rest (a.put o.dst (z)) w) : wpList P ops Q (o :: rest) a w := wp_lookup h hg m x t kt et false hop ht hk z hz hm k hx (by simpa [hat] using hK)
theorem wp_update (h : IMap w b l) (hg : o.guard = none) (m x y : Operand) (t kt et : TypeId) (hop : o.op = Op.mapUpdate t m x y)
    (ht : P.underlying t = some (.map kt et)) (hk : P.underlying kt = some (.int .i64))
    (hm : a.eval m = .map (some b)) (k : Int) (hx : a.eval x = .int .i64 k) (v : Value) (hy : a.eval y = v)
    (hK : ∀ w', IMap w' b (put_ l k v) → Turns [b] w w' → wpList P ops Q rest (a.put o.dst undef) w') :
    wpList P ops Q (o :: rest) a w := by
  refine wpList_plain hg fun K' hK' => ?_
  obtain ⟨w', hrun, r1, r2⟩ := run_update h ht hk k v
  unfold Oper.wp
  simp [execOp, hop, hm, hx, hy, hrun, Result.andThen]
  exact hK' _ _ (hK w' r1 r2)
theorem wp_delete (h : IMap w b l) (hg : o.guard = none) (m x : Operand) (t kt et tt : TypeId) (hop : o.op = Op.call { callee := Callee.builtin Builtin.delete, args := #[m, x], argTypes := #[t, tt] })
    (ht : P.underlying t = some (.map kt et)) (hk : P.underlying kt = some (.int .i64))
    (hm : a.eval m = .map (some b)) (k : Int) (hx : a.eval x = .int .i64 k)
    (hK : ∀ w', IMap w' b (del_ l k) → Turns [b] w w' → wpList P ops Q rest (a.put o.dst (.tuple #[])) w') :
    wpList P ops Q (o :: rest) a w := by
  refine wpList_plain hg fun K' hK' => ?_
  obtain ⟨w', hrun, r1, r2⟩ := run_delete h ht hk k tt o.type
  unfold Oper.wp
  simp [execOp, hop, resolve, invoke, builtin, hm, hx, hrun, Result.andThen]
  exact hK' _ _ (hK w' r1 r2)
theorem wp_len (h : IMap w b l) (hg : o.guard = none) (m : Operand) (t kt et : TypeId) (hop : o.op = Op.call { callee := Callee.builtin Builtin.len, args := #[m], argTypes := #[t] })
    (ht : P.underlying t = some (.map kt et)) (hm : a.eval m = .map (some b))
    (hK : wpList P ops Q rest (a.put o.dst (.int .i64 (l.length : Int))) w) :
    wpList P ops Q (o :: rest) a w := by
  refine wpList_plain hg fun K' hK' => ?_
  unfold Oper.wp
  simp [execOp, hop, resolve, invoke, builtin, hm, run_len h ht o.type, Result.andThen]
  exact hK' _ _ hK
end
end Go.Proofs.Ytohokckpheljbaa.Hm
