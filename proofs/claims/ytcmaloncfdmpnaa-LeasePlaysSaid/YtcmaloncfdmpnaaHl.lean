/- Words of this work: a range over a map keyed by int64, entries deleted on the way; the map stays a list of pairs (Hm.IMap). No program in sight. -/
import Derived.Test.YtcmaloncfdmpnaaHm
import Derived.Maps.Range
import Derived.Maps.RangeWalk
set_option linter.unusedVariables false
set_option linter.unusedSimpArgs false
namespace Go.Proofs.Ytcmaloncfdmpnaa.Hl
open Go.RowKit Go.MapKept Go.ChangeMaps Hm
/-- block b holds the map l; block r is an iterator over it; 'left k': the entry at k is still to come -/
def IR (w : World) (b r : Nat) (l : List (Int × Value)) (left : Int → Bool) : Prop :=
  ∃ es clock since seen c0, w.heap[b]? = some (.map es clock) ∧ Stamped es clock ∧ es.toList.map (fun e => (e.key, e.val)) = l.map (fun p => (Value.int .i64 p.1, p.2)) ∧
    w.heap[r]? = some (.mapIter (some b) since seen c0) ∧ (∀ x ∈ es.toList, x.born < since) ∧ (∀ x ∈ es.toList, ∀ k, x.key = .int .i64 k → left k = !seen.contains x.born) ∧ (∀ k, left k = true → ∃ p ∈ l, p.1 = k) ∧ since ≤ c0 ∧ since ≤ clock
variable {P : Program} {w w' : World} {b r : Nat} {l : List (Int × Value)} {left : Int → Bool}
theorem IR.map (h : IR w b r l left) : IMap w b l := by
  obtain ⟨es, clock, _, _, _, hb, hs, hl, _⟩ := h
  exact ⟨es, clock, hb, hs, hl⟩
theorem IR.lt (h : IR w b r l left) : r < w.heap.size := by
  obtain ⟨es, clock, since, seen, c0, _, _, _, hr, _⟩ := h
  exact (Array.getElem?_eq_some_iff.1 hr).1
theorem IR.ne (h : IR w b r l left) : r ≠ b := by
  obtain ⟨es, clock, since, seen, c0, hb, _, _, hr, _⟩ := h
  rintro rfl
  rw [hb] at hr
  cases hr
theorem IR.turns {F : List Nat} (h : IR w b r l left) (t : Turns F w w') (hb : b ∉ F) (hr : r ∉ F) : IR w' b r l left := by
  have h1 := h.map.lt
  have h2 := h.lt
  obtain ⟨es, clock, since, seen, c0, e1, hs, hl, e2, rest⟩ := h
  exact ⟨es, clock, since, seen, c0, (t.block b h1 hb).trans e1, hs, hl, (t.block r h2 hr).trans e2, rest⟩
theorem IR.left_turns {F : List Nat} (h : IR w b r l left) (t : Turns F w w') (hb : b ∉ F) (hr : r ∉ F) : w'.rangeLeft b r = w.rangeLeft b r := by
  have h1 := h.map.lt
  have h2 := h.lt
  unfold World.rangeLeft
  rw [t.block b h1 hb, t.block r h2 hr]
theorem key_of {es : Array MapEntry} (hl : es.toList.map (fun e => (e.key, e.val)) = l.map (fun p => (Value.int .i64 p.1, p.2))) {x : MapEntry} (hx : x ∈ es.toList) : ∃ p ∈ l, x.key = .int .i64 p.1 ∧ x.val = p.2 := by
  have : (x.key, x.val) ∈ l.map (fun p => (Value.int .i64 p.1, p.2)) := by rw [← hl]; exact List.mem_map.2 ⟨x, hx, rfl⟩
  obtain ⟨p, hp, e⟩ := List.mem_map.1 this
  exact ⟨p, hp, (congrArg Prod.fst e).symm, (congrArg Prod.snd e).symm⟩
theorem entry_of {es : Array MapEntry} (hl : es.toList.map (fun e => (e.key, e.val)) = l.map (fun p => (Value.int .i64 p.1, p.2))) {p : Int × Value} (hp : p ∈ l) : ∃ x ∈ es.toList, x.key = .int .i64 p.1 ∧ x.val = p.2 := by
  have : (Value.int .i64 p.1, p.2) ∈ es.toList.map (fun e => (e.key, e.val)) := by rw [hl]; exact List.mem_map.2 ⟨p, hp, rfl⟩
  obtain ⟨x, hx, e⟩ := List.mem_map.1 this
  exact ⟨x, hx, congrArg Prod.fst e, congrArg Prod.snd e⟩
/-- 'range m' -/
theorem IMap.range {t k e : TypeId} (h : IMap w b l) (ht : P.underlying t = some (.map k e)) :
    ∃ w', (Instr.range t (.map (some b))).run P w = .ok (.pointer (some ⟨w.heap.size, 0, none⟩)) w' ∧ IR w' b w.heap.size l (fun k => l.any (fun p => p.1 == k)) ∧ Turns [] w w' := by
  have hlt := h.lt
  obtain ⟨es, clock, hb, hs, hl⟩ := h
  refine ⟨_, run_range_map w t k e b es clock ht hb, ⟨es, clock, clock, #[], clock, ((MapKept.heap_alloc w _).2 b hlt).trans hb, hs, hl, (MapKept.heap_alloc w _).1, hs.1, ?_, ?_, Nat.le_refl _, Nat.le_refl _⟩, (Turns.refl _ _).alloc _⟩
  · intro x hx k hk
    obtain ⟨p, hp, e1, _⟩ := key_of hl hx
    rw [hk] at e1
    have : k = p.1 := by injection e1
    have : l.any (fun p => p.1 == k) = true := List.any_eq_true.2 ⟨p, hp, by simp [this]⟩
    show l.any (fun p => p.1 == k) = _
    rw [this]
    simp
  · intro k hk
    obtain ⟨p, hp, e⟩ := List.any_eq_true.1 hk
    exact ⟨p, hp, by simpa using e⟩
/-- the step -/
theorem IR.next (h : IR w b r l left) (ty : TypeId) :
    ((∀ k, left k = false) ∧ (Instr.next (.pointer (some ⟨r, 0, none⟩)) false ty).run P w = .ok (.tuple #[.bool false]) w) ∨
    ∃ k v w', (k, v) ∈ l ∧ left k = true ∧ (Instr.next (.pointer (some ⟨r, 0, none⟩)) false ty).run P w = .ok (.tuple #[.bool true, .int .i64 k, v]) w' ∧
      IR w' b r l (fun x => left x && !(x == k)) ∧ w'.rangeLeft b r < w.rangeLeft b r ∧ Turns [r] w w' ∧ (Instr.entry (.pointer (some ⟨r, 0, none⟩))).run P w' = .ok (.tuple #[.int .i64 k, v]) w' := by
  have hne := h.ne
  obtain ⟨es, clock, since, seen, c0, hb, hs, hl, hr, hold, hl1, hl2, hsc, hsk⟩ := h
  rcases run_next_at (P := P) w ty r b since c0 seen es clock hr hb hold hsc with ⟨h0, hrun⟩ | ⟨e, he, w1, hal, hrun⟩
  · refine Or.inl ⟨fun k => ?_, hrun⟩
    cases hk : left k
    · rfl
    · obtain ⟨p, hp, rfl⟩ := hl2 k hk
      obtain ⟨x, hx, e1, _⟩ := entry_of hl hp
      rw [hl1 x hx _ e1, all_seen es seen h0 x hx] at hk
      cases hk
  · obtain ⟨hem, hes⟩ := mem_left he
    obtain ⟨p, hp, ek, ev⟩ := key_of hl hem
    have hr1 : w1.heap[r]? = some (.mapIter (some b) since seen c0) := by rcases hal with rfl | rfl <;> exact hr
    have hb1 : w1.heap[b]? = some (.map es clock) := by rcases hal with rfl | rfl <;> exact hb
    have hset := heap_set (o' := .mapIter (some b) since (seen.push e.born) clock) hr1
    have hb' : (setBlock w1 r (.mapIter (some b) since (seen.push e.born) clock)).heap[b]? = some (.map es clock) := (hset.2 b (fun e1 => hne e1.symm)).trans hb1
    have hset1 : (setBlock w1 r (.mapIter (some b) since (seen.push e.born) clock)).heap[r]? = some (.mapIter (some b) since (seen.push e.born) clock) := hset.1
    have hst := (stamped_iff es clock).1 hs
    have hrun2 := hrun
    have hent := run_entry_at (P := P) _ r b since seen es clock e hset.1 hb' hem hst.2.1
    rw [ek, ev] at hrun2 hent
    refine Or.inr ⟨p.1, p.2, _, hp, by rw [hl1 e hem _ ek, hes]; rfl, hrun2, ⟨es, clock, since, seen.push e.born, clock, hb', hs, hl, hset.1, hold, fun x hx k hk => ?_, fun k hk => hl2 k (by simp at hk; exact hk.1), hsk, hsk⟩, ?_, ?_, hent⟩
    · show (left k && !(k == p.1)) = _
      rw [hl1 x hx k hk, contains_push]
      have : (k == p.1) = (x.born == e.born) := by
        by_cases hbe : x.born = e.born
        · obtain rfl := born_inj hst.2.1 hx hem hbe
          rw [hk] at ek
          have : k = p.1 := by injection ek
          simp [this]
        · have h1 : ¬ k = p.1 := fun e1 => hbe (congrArg MapEntry.born (entry_eq_of_key hst.2.2 hx hem (by rw [hk, ek, e1])))
          rw [beq_false_of_ne h1, beq_false_of_ne hbe]
      rw [this]
      cases seen.contains x.born <;> cases (x.born == e.born) <;> rfl
    · unfold World.rangeLeft
      rw [hb', hset1, hb, hr]
      exact left_shrinks es seen e he
    · have hw1 : w1.os = w.os ∧ w1.tape = w.tape ∧ w1.output = w.output ∧ w1.heap = w.heap := by rcases hal with rfl | rfl <;> exact ⟨rfl, rfl, rfl, rfl⟩
      refine ⟨hw1.1, hw1.2.1, hw1.2.2.1, by simp [setBlock, hw1.2.2.2], fun i hi hF => ?_⟩
      rw [← hw1.2.2.2]
      exact hset.2 i (fun e1 => hF (by simp [e1]))
/-- 'delete(m, k)' in the round -/
theorem IR.delete {t kt et : TypeId} (h : IR w b r l left) (ht : P.underlying t = some (.map kt et)) (hk : P.underlying kt = some (.int .i64)) (k : Int) (tt ty : TypeId) :
    ∃ w', (Go.Builtin.delete_ #[t, tt] ty #[.map (some b), .int .i64 k]).run P w = .ok (.tuple #[]) w' ∧ IR w' b r (del_ l k) (fun x => left x && !(x == k)) ∧ w'.rangeLeft b r ≤ w.rangeLeft b r ∧ Turns [b] w w' := by
  have ho := h.map.once
  have hne := h.ne
  obtain ⟨es, clock, since, seen, c0, hb, hs, hl, hr, hold, hl1, hl2, hsc, hsk⟩ := h
  have fin : ∀ es' : Array MapEntry, Stamped es' clock → es'.toList.Sublist es.toList → es'.toList.map (fun e => (e.key, e.val)) = (del_ l k).map (fun p => (Value.int .i64 p.1, p.2)) →
      IR { w with heap := w.heap.setIfInBounds b (.map es' clock) } b r (del_ l k) (fun x => left x && !(x == k)) ∧ World.rangeLeft { w with heap := w.heap.setIfInBounds b (.map es' clock) } b r ≤ w.rangeLeft b r := by
    intro es' hs' hsub hl'
    have e1 : ({ w with heap := w.heap.setIfInBounds b (.map es' clock) } : World).heap[b]? = some (.map es' clock) := (heap_set hb).1
    have e2 : ({ w with heap := w.heap.setIfInBounds b (.map es' clock) } : World).heap[r]? = some (.mapIter (some b) since seen c0) := ((heap_set hb).2 r hne).trans hr
    refine ⟨⟨es', clock, since, seen, c0, e1, hs', hl', e2, fun x hx => hold x (hsub.subset hx), fun x hx k' hk' => ?_, fun k' hk' => ?_, hsc, hsk⟩, ?_⟩
    · obtain ⟨p, hp, ek, _⟩ := key_of hl' hx
      rw [hk'] at ek
      have e3 : k' = p.1 := by injection ek
      have e4 := (List.mem_filter.1 hp).2
      rw [← e3] at e4
      show (left k' && !(k' == k)) = _
      rw [hl1 x (hsub.subset hx) k' hk', e4, Bool.and_true]
    · simp only [Bool.and_eq_true] at hk'
      obtain ⟨p, hp, rfl⟩ := hl2 k' hk'.1
      exact ⟨p, List.mem_filter.2 ⟨hp, hk'.2⟩, rfl⟩
    · unfold World.rangeLeft
      rw [e1, e2, hb, hr]
      have e3 : ∀ a : Array MapEntry, (leftOf a seen).size = (a.toList.filter fun e => !seen.contains e.born).length := fun a => by
        unfold leftOf
        rw [← Array.toList_filter, Array.length_toList]
      show (leftOf es' seen).size ≤ (leftOf es seen).size
      rw [e3, e3]
      exact (hsub.filter _).length_le
  rcases IMap.find hl k with ⟨h1, h2⟩ | ⟨j, v0, h1, h2⟩
  · have hf := fin es hs (List.Sublist.refl _) (by rw [del_none h2]; exact hl)
    refine ⟨{ w with heap := w.heap.setIfInBounds b (.map es clock) }, ?_, hf.1, hf.2, setObj_turns hb⟩
    simp [Go.Builtin.delete_, run_underlying ht, MapKept.run_getObj_map hb, run_checkKey hk (k := .int .i64 k) rfl, run_findKey hk h1, Result.andThen, run_setObj_map _ hb]
  · have hlt : j < es.size := by
      have h3 := congrArg List.length hl
      have h4 := (List.getElem?_eq_some_iff.1 h2).1
      simp at h3
      omega
    have hf := fin (es.eraseIdxIfInBounds j) (stamped_erase hs j) (by rw [Array.eraseIdxIfInBounds, dif_pos hlt, Array.toList_eraseIdx]; exact List.eraseIdx_sublist _ _)
      (by rw [del_at ho h2, Array.eraseIdxIfInBounds, dif_pos hlt, Array.toList_eraseIdx, ← map_eraseIdx', hl, map_eraseIdx'])
    refine ⟨{ w with heap := w.heap.setIfInBounds b (.map (es.eraseIdxIfInBounds j) clock) }, ?_, hf.1, hf.2, setObj_turns hb⟩
    simp [Go.Builtin.delete_, run_underlying ht, MapKept.run_getObj_map hb, run_checkKey hk (k := .int .i64 k) rfl, run_findKey hk h1, Result.andThen, run_setObj_map _ hb]
section
variable {ops : Array Oper} {rest : List Oper} {o : Oper} {a : Act} {Q : Exit → Act → World → Prop}
theorem wp_range (h : IMap w b l) (hg : o.guard = none) (m : Operand) (t k e : TypeId) (hop : o.op = Op.range t m) (ht : P.underlying t = some (.map k e)) (hm : a.eval m = .map (some b))
    (hK : ∀ w', IR w' b w.heap.size l (fun k => l.any (fun p => p.1 == k)) → Turns [] w w' → wpList P ops Q rest (a.put o.dst (.pointer (some ⟨w.heap.size, 0, none⟩))) w') : wpList P ops Q (o :: rest) a w := by
  refine wpList_plain hg fun K' hK' => ?_
  obtain ⟨w', hrun, r1, r2⟩ := IMap.range h ht
  unfold Oper.wp
  simp [execOp, hop, hm, hrun, Result.andThen]
  exact hK' _ _ (hK w' r1 r2)
theorem wp_next (h : IR w b r l left) (hg : o.guard = none) (it : Operand) (hop : o.op = Op.next it false) (hit : a.eval it = .pointer (some ⟨r, 0, none⟩))
    (hDone : (∀ k, left k = false) → wpList P ops Q rest (a.put o.dst (.tuple #[.bool false])) w)
    (hMore : ∀ (k : Int) (v : Value) (w' : World), (k, v) ∈ l → left k = true → IR w' b r l (fun x => left x && !(x == k)) → w'.rangeLeft b r < w.rangeLeft b r → Turns [r] w w' → (Instr.entry (.pointer (some ⟨r, 0, none⟩))).run P w' = .ok (.tuple #[.int .i64 k, v]) w' →
      wpList P ops Q rest (a.put o.dst (.tuple #[.bool true, .int .i64 k, v])) w') : wpList P ops Q (o :: rest) a w := by
  refine wpList_plain hg fun K' hK' => ?_
  unfold Oper.wp
  rcases h.next (P := P) o.type with ⟨hl, hrun⟩ | ⟨k, v, w', hm, hlk, hrun, hrg, hlt, hgr, hen⟩
  · simp [execOp, hop, hit, hrun, Result.andThen]
    exact hK' _ _ (hDone hl)
  · simp [execOp, hop, hit, hrun, Result.andThen]
    exact hK' _ _ (hMore k v w' hm hlk hrg hlt hgr hen)
theorem wp_drop (h : IR w b r l left) (hg : o.guard = none) (m x : Operand) (t kt et tt : TypeId) (hop : o.op = Op.call { callee := Callee.builtin Builtin.delete, args := #[m, x], argTypes := #[t, tt] })
    (ht : P.underlying t = some (.map kt et)) (hk : P.underlying kt = some (.int .i64)) (hm : a.eval m = .map (some b)) (k : Int) (hx : a.eval x = .int .i64 k)
    (hK : ∀ w', IR w' b r (del_ l k) (fun x => left x && !(x == k)) → w'.rangeLeft b r ≤ w.rangeLeft b r → Turns [b] w w' → wpList P ops Q rest (a.put o.dst (.tuple #[])) w') : wpList P ops Q (o :: rest) a w := by
  refine wpList_plain hg fun K' hK' => ?_
  obtain ⟨w', hrun, r1, r2, r3⟩ := h.delete ht hk k tt o.type
  unfold Oper.wp
  simp [execOp, hop, resolve, invoke, builtin, hm, hx, hrun, Result.andThen]
  exact hK' _ _ (hK w' r1 r2 r3)
end
/-- what is left of the list: those that stay, or are still to come -/
def still (pd : Value → Bool) (l : List (Int × Value)) (left : Int → Bool) : List (Int × Value) := l.filter fun p => !pd p.2 || left p.1
theorem still_start (pd : Value → Bool) (l : List (Int × Value)) : still pd l (fun k => l.any (fun p => p.1 == k)) = l := by
  unfold still
  rw [List.filter_eq_self]
  intro p hp
  have : l.any (fun q => q.1 == p.1) = true := List.any_eq_true.2 ⟨p, hp, by simp⟩
  simp [this]
theorem still_end {pd : Value → Bool} {l : List (Int × Value)} {left : Int → Bool} (h : ∀ k, left k = false) : still pd l left = l.filter fun p => !pd p.2 := by
  unfold still
  exact List.filter_congr (fun p _ => by simp [h])
theorem once_eq {l : List (Int × Value)} (h : Once l) {k : Int} {u v : Value} (hu : (k, u) ∈ l) (hv : (k, v) ∈ l) : u = v := by
  induction l with
  | nil => cases hu
  | cons p t ih =>
    unfold Once at h
    rw [List.map_cons, List.nodup_cons] at h
    rcases List.mem_cons.1 hu with rfl | hu1
    · rcases List.mem_cons.1 hv with e | hv1
      · injection e with _ e2; exact e2.symm
      · exact absurd (List.mem_map.2 ⟨_, hv1, rfl⟩) h.1
    · rcases List.mem_cons.1 hv with rfl | hv1
      · exact absurd (List.mem_map.2 ⟨_, hu1, rfl⟩) h.1
      · exact ih h.2 hu1 hv1
theorem still_struck {pd : Value → Bool} {l : List (Int × Value)} {left : Int → Bool} (ho : Once l) {k : Int} {v : Value} (hm : (k, v) ∈ still pd l left) (hp : pd v = true) : del_ (still pd l left) k = still pd l (fun x => left x && !(x == k)) := by
  unfold still del_ at *
  rw [List.filter_filter]
  refine List.filter_congr (fun p hpm => ?_)
  by_cases e : p.1 = k
  · have : p.2 = v := once_eq ho (k := k) (by rw [← e]; exact hpm) (List.mem_filter.1 hm).1
    simp [e, this, hp]
  · have e2 : (p.1 == k) = false := by simpa using e
    simp [e2]
theorem still_stays {pd : Value → Bool} {l : List (Int × Value)} {left : Int → Bool} (ho : Once l) {k : Int} {v : Value} (hm : (k, v) ∈ still pd l left) (hp : pd v = false) : still pd l left = still pd l (fun x => left x && !(x == k)) := by
  unfold still at *
  refine List.filter_congr (fun p hpm => ?_)
  by_cases e : p.1 = k
  · have : p.2 = v := once_eq ho (k := k) (by rw [← e]; exact hpm) (List.mem_filter.1 hm).1
    simp [this, hp]
  · have e2 : (p.1 == k) = false := by simpa using e
    simp [e2]
end Go.Proofs.Ytcmaloncfdmpnaa.Hl
