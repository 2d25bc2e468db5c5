/- Words of this work: several things in memory, apart from each other: each is some blocks, and what holds of them. No program in sight. -/
import Derived.Test.YtohokckpheljbaaHs
import Derived.Test.YtohokckpheljbaaHv
set_option linter.unusedVariables false
set_option linter.unusedSimpArgs false
namespace Go.Proofs.Ytohokckpheljbaa.Hx
open Go.RowKit Hm Hs
/-- A thing: its blocks, and what is said of a world; it stays, if its blocks do. -/
structure Th where
  fp : List Nat
  ok : World → Prop
  lt : ∀ {w : World}, ok w → ∀ k ∈ fp, k < w.heap.size
  mv : ∀ {w w' : World}, ok w → (∀ k ∈ fp, w'.heap[k]? = w.heap[k]?) → ok w'
theorem one_lt {b : Nat} {w : World} (h : b < w.heap.size) : ∀ k ∈ [b], k < w.heap.size := fun k hk => by rw [List.mem_singleton.1 hk]; exact h
/-- a block of cells -/
def tBlk (b : Nat) (cs : Array Value) (t : TypeId) : Th := ⟨[b], fun w => Blk w b cs t, fun h => one_lt h.lt, fun h hm => h.move (hm b (by simp))⟩
/-- a slice of one's own -/
def tOwn (e : TypeId) (sz : Nat) (v : Value) (rows : List (List Value)) : Th := ⟨v.ownBlock.toList, fun w => OwnS e sz w v rows, fun h k hk => h.lt (by simpa using hk), fun h hm => h.move (fun k hk => hm k (by simpa using hk))⟩
/-- a map keyed by int64 -/
def tMap (b : Nat) (l : List (Int × Value)) : Th := ⟨[b], fun w => IMap w b l, fun h => one_lt h.lt, fun h hm => h.move (hm b (by simp))⟩
theorem erase_perm {α : Type} : ∀ {l : List α} {i : Nat} (h : i < l.length), (l[i] :: l.eraseIdx i).Perm l
  | x :: l, 0, _ => List.Perm.refl _
  | x :: l, i + 1, h => by
    have h' : i < l.length := by simpa using h
    simp only [List.getElem_cons_succ, List.eraseIdx_cons_succ]
    exact (List.Perm.swap _ _ _).trans ((erase_perm h').cons x)
def fps (l : List Th) : List Nat := l.flatMap Th.fp
theorem fps_append (a b : List Th) : fps (a ++ b) = fps a ++ fps b := List.flatMap_append
theorem fps_cons (a : Th) (b : List Th) : fps (a :: b) = a.fp ++ fps b := rfl
theorem mem_fps {l : List Th} {k : Nat} : k ∈ fps l ↔ ∃ T ∈ l, k ∈ T.fp := List.mem_flatMap
/-- Two things share no block. -/
def Apart (A B : Th) : Prop := ∀ k ∈ A.fp, k ∉ B.fp
theorem Apart.symm {A B : Th} (h : Apart A B) : Apart B A := fun k hk hk2 => h k hk2 hk
/-- Since w0 only blocks of F have turned, of those that were; the things hold, are apart, and lie in F or in new blocks. -/
structure Sep (F : List Nat) (w0 : World) (l : List Th) (w : World) : Prop where
  t : Turns F w0 w
  ok : ∀ T ∈ l, T.ok w
  ap : l.Pairwise Apart
  mine : ∀ k ∈ fps l, k ∈ F ∨ w0.heap.size ≤ k
/-- The things hold, and are apart. -/
def Got (l : List Th) (w : World) : Prop := Sep (fps l) w l w
section
variable {F : List Nat} {w0 w w' : World} {l l' : List Th}
theorem Sep.start (w : World) : Sep [] w [] w := ⟨Turns.refl _ _, by simp, by simp, by simp [fps]⟩
theorem Got.mk (h : ∀ T ∈ l, T.ok w) (hn : l.Pairwise Apart) : Got l w := ⟨Turns.refl _ _, h, hn, fun k hk => .inl hk⟩
theorem Got.one {T : Th} (h : T.ok w) : Got [T] w := Got.mk (by simpa using h) (by simp)
theorem Got.none (w : World) : Got [] w := Got.mk (by simp) (by simp)
theorem Got.sep (h : Got l w) : Sep (fps l) w l w := h
theorem Sep.perm (h : Sep F w0 l w) (hp : l.Perm l') : Sep F w0 l' w :=
  have hp2 : (fps l).Perm (fps l') := hp.flatMap_right _
  ⟨h.t, fun T hT => h.ok T (hp.mem_iff.2 hT), (hp.pairwise_iff (fun {a b} (h : Apart a b) => h.symm)).1 h.ap, fun k hk => h.mine k (hp2.mem_iff.2 hk)⟩
theorem Sep.at_ (h : Sep F w0 l w) (i : Nat) {T : Th} (hi : l[i]? = some T) : T.ok w := h.ok T (List.mem_of_getElem? hi)
theorem Sep.blk (h : Sep F w0 l w) (i : Nat) {b : Nat} {cs : Array Value} {t : TypeId} (hi : l[i]? = some (tBlk b cs t)) : Blk w b cs t := h.at_ i hi
theorem Sep.own (h : Sep F w0 l w) (i : Nat) {e : TypeId} {sz : Nat} {v : Value} {rows : List (List Value)} (hi : l[i]? = some (tOwn e sz v rows)) : OwnS e sz w v rows := h.at_ i hi
theorem Sep.map (h : Sep F w0 l w) (i : Nat) {b : Nat} {m : List (Int × Value)} (hi : l[i]? = some (tMap b m)) : IMap w b m := h.at_ i hi
theorem Sep.lt (h : Sep F w0 l w) {k : Nat} (hk : k ∈ fps l) : k < w.heap.size := by
  obtain ⟨T, hT, hk⟩ := mem_fps.1 hk
  exact T.lt (h.ok T hT) k hk
/-- nothing of it turned -/
theorem Sep.frame (h : Sep F w0 l w) {G : List Nat} (t : Turns G w w') (hG : ∀ k ∈ fps l, k ∉ G) (hF : ∀ k ∈ G, k ∈ F ∨ w0.heap.size ≤ k) : Sep F w0 l w' :=
  ⟨h.t.then t hF, fun T hT => T.mv (h.ok T hT) (fun k hk => t.block k (T.lt (h.ok T hT) k hk) (hG k (mem_fps.2 ⟨T, hT, hk⟩))), h.ap, h.mine⟩
theorem Sep.turns (h : Sep F w0 l w) (t : Turns [] w w') : Sep F w0 l w' := h.frame t (by simp) (by simp)
theorem Sep.drew (h : Sep F w0 l w) : Sep F w0 l w.drew := h.turns (Turns.refl _ _).drew
theorem Sep.drewN (h : Sep F w0 l w) (n : Nat) : Sep F w0 l (w.drewN n) := h.turns ((Turns.refl _ _).drewN n)
/-- a part of it has become something else -/
theorem Sep.upon {a r a' : List Th} (h : Sep F w0 (a ++ r) w) (k : Sep (fps a) w a' w') : Sep F w0 (a' ++ r) w' := by
  have hap := h.ap
  rw [List.pairwise_append] at hap
  obtain ⟨n1, n2, n3⟩ := hap
  have hA : ∀ i ∈ fps a, i ∈ F ∨ w0.heap.size ≤ i := fun i hi => h.mine i (by rw [fps_append]; exact List.mem_append_left _ hi)
  have n4 : ∀ i ∈ fps a, i ∉ fps r := fun i hi hi2 => by
    obtain ⟨A, hA, hi⟩ := mem_fps.1 hi
    obtain ⟨B, hB, hi2⟩ := mem_fps.1 hi2
    exact n3 A hA B hB i hi hi2
  have hs := h.t.size
  refine ⟨h.t.then k.t hA, ?_, ?_, ?_⟩
  · intro T hT
    rcases List.mem_append.1 hT with hT | hT
    · exact k.ok T hT
    · have h0 := h.ok T (List.mem_append_right _ hT)
      exact T.mv h0 (fun i hi => k.t.block i (T.lt h0 i hi) (fun hi2 => n4 i hi2 (mem_fps.2 ⟨T, hT, hi⟩)))
  · rw [List.pairwise_append]
    refine ⟨k.ap, n2, fun A hA B hB x hx hy => ?_⟩
    rcases k.mine x (mem_fps.2 ⟨A, hA, hx⟩) with h1 | h1
    · exact n4 x h1 (mem_fps.2 ⟨B, hB, hy⟩)
    · have := B.lt (h.ok B (List.mem_append_right _ hB)) x hy
      omega
  · intro i hi
    rw [fps_append] at hi
    rcases List.mem_append.1 hi with hi | hi
    · rcases k.mine i hi with h1 | h1
      · exact hA i h1
      · exact .inr (by omega)
    · exact h.mine i (by rw [fps_append]; exact List.mem_append_right _ hi)
theorem Sep.drop_left {a r : List Th} (h : Sep F w0 (a ++ r) w) : Sep F w0 r w :=
  ⟨h.t, fun T hT => h.ok T (List.mem_append_right _ hT), (List.pairwise_append.1 h.ap).2.1, fun k hk => h.mine k (by rw [fps_append]; exact List.mem_append_right _ hk)⟩
theorem Sep.got_left {a r : List Th} (h : Sep F w0 (a ++ r) w) : Got a w :=
  Got.mk (fun T hT => h.ok T (List.mem_append_left _ hT)) (List.pairwise_append.1 h.ap).1
/-- these, in this order -/
def picks : List Nat → List Th → List Th
  | [], _ => []
  | i :: is, l => match l[i]? with | some x => x :: picks is l | none => picks is l
def restsAux (is : List Nat) : Nat → List Th → List Th
  | _, [] => []
  | k, x :: xs => bif is.contains k then restsAux is (k + 1) xs else x :: restsAux is (k + 1) xs
/-- the others -/
def rests (is : List Nat) (l : List Th) : List Th := restsAux is 0 l
theorem rests_congr {is js : List Nat} : ∀ (l : List Th) (k : Nat), (∀ j, k ≤ j → is.contains j = js.contains j) → restsAux is k l = restsAux js k l
  | [], _, _ => rfl
  | x :: xs, k, h => by
    simp only [restsAux]
    rw [h k (Nat.le_refl _), rests_congr xs (k + 1) (fun j hj => h j (by omega))]
theorem rests_perm {is : List Nat} {i : Nat} (hi : is.contains i = false) : ∀ (l : List Th) (k : Nat) (x : Th), k ≤ i → l[i - k]? = some x → (restsAux is k l).Perm (x :: restsAux (i :: is) k l)
  | [], k, x, _, h => by simp at h
  | y :: ys, k, x, hk, h => by
    by_cases hik : i = k
    · subst hik
      rw [Nat.sub_self] at h
      simp only [List.getElem?_cons_zero, Option.some.injEq] at h
      subst h
      have e1 : (i :: is).contains i = true := by simp
      simp only [restsAux, hi, e1, cond_true, cond_false]
      rw [rests_congr (is := is) (js := i :: is) ys (i + 1) (fun j hj => by
        have : (j == i) = false := by simp; omega
        rw [List.contains_cons, this, Bool.false_or])]
    · have h' : ys[i - (k + 1)]? = some x := by
        rw [show i - k = (i - (k + 1)) + 1 from by omega] at h
        simpa using h
      have ih := rests_perm hi ys (k + 1) x (by omega) h'
      have e1 : (i :: is).contains k = is.contains k := by
        have : (k == i) = false := by simp; omega
        rw [List.contains_cons, this, Bool.false_or]
      simp only [restsAux, e1]
      cases is.contains k with
      | true => simpa using ih
      | false => exact (ih.cons y).trans (List.Perm.swap _ _ _)
theorem rests_nil : ∀ (l : List Th) (k : Nat), restsAux [] k l = l
  | [], _ => rfl
  | x :: xs, k => by simp only [restsAux]; rw [rests_nil xs (k + 1)]; rfl
def okB : List Nat → Nat → Bool
  | [], _ => true
  | i :: is, n => Nat.blt i n && !(is.contains i) && okB is n
theorem split_perm : ∀ (is : List Nat) (l : List Th), okB is l.length = true → (picks is l ++ rests is l).Perm l
  | [], l, _ => by unfold picks rests; rw [rests_nil]; exact List.Perm.refl _
  | i :: is, l, h => by
    simp only [okB, Bool.and_eq_true, Bool.not_eq_true'] at h
    obtain ⟨⟨h1, h2⟩, h3⟩ := h
    have hlt : i < l.length := by simpa [Nat.blt_eq] using h1
    have hx : l[i]? = some l[i] := List.getElem?_eq_getElem hlt
    have e1 : picks (i :: is) l = l[i] :: picks is l := by simp only [picks, hx]
    have hp := rests_perm h2 l 0 l[i] (Nat.zero_le _) (by simp)
    rw [e1, List.cons_append]
    refine List.Perm.trans ?_ (split_perm is l h3)
    refine List.Perm.trans ?_ (List.Perm.append_left (picks is l) hp.symm)
    exact List.perm_middle.symm
theorem Sep.split (h : Sep F w0 l w) (is : List Nat) (hok : okB is l.length = true := by rfl) : Sep F w0 (picks is l ++ rests is l) w := h.perm (split_perm is l hok).symm
/-- these hold, and are apart -/
theorem Sep.got (h : Sep F w0 l w) (is : List Nat) (hok : okB is l.length = true := by rfl) : Got (picks is l) w := (h.split is hok).got_left
/-- these have become others -/
theorem Sep.call (h : Sep F w0 l w) (is : List Nat) (k : Sep (fps (picks is l)) w l' w') (hok : okB is l.length = true := by rfl) : Sep F w0 (l' ++ rests is l) w' := (h.split is hok).upon k
/-- one has become others -/
theorem Sep.call1 (h : Sep F w0 l w) (i : Nat) {T : Th} (hi : picks [i] l = [T]) (k : Sep T.fp w l' w') (hok : okB [i] l.length = true := by rfl) : Sep F w0 (l' ++ rests [i] l) w' := h.call [i] (by rw [hi]; simpa [fps] using k) hok
/-- only these are kept -/
theorem Sep.keep (h : Sep F w0 l w) (is : List Nat) (hok : okB is l.length = true := by rfl) : Sep F w0 (picks is l) w := ((h.split is hok).perm (List.perm_append_comm)).drop_left
theorem Sep.lose (h : Sep F w0 l w) (is : List Nat) (hok : okB is l.length = true := by rfl) : Sep F w0 (rests is l) w := (h.split is hok).drop_left
/-- something new -/
theorem Sep.fresh (h : Sep F w0 l w) (t : Turns [] w w') (T : Th) (hT : T.ok w') (hf : ∀ k ∈ T.fp, w.heap.size ≤ k) : Sep F w0 (T :: l) w' := by
  have h1 : Sep F w0 ([] ++ l) w := h
  exact h1.upon (a' := [T]) ⟨by simpa [fps] using t, by simpa using hT, by simp, fun k hk => .inr (hf k (by simpa [fps] using hk))⟩
theorem Sep.alloc (h : Sep F w0 l w) (cs : Array Value) (t : TypeId) : Sep F w0 (tBlk w.heap.size cs t :: l) (w.alloc (.cells cs t)) :=
  h.fresh ((Turns.refl _ _).alloc _) _ (Blk.new w cs t) (by simp [tBlk])
theorem Sep.allocMap (h : Sep F w0 l w) : Sep F w0 (tMap w.heap.size [] :: l) (w.alloc (.map #[] 0)) :=
  h.fresh ((Turns.refl _ _).alloc _) _ (IMap.new w) (by simp [tMap])
/-- the i-th one has become another one, in its blocks, or new ones -/
theorem Sep.step (h : Sep F w0 l w) (i : Nat) {T T' : Th} (hi : l[i]? = some T) (t : Turns T.fp w w') (hT : T'.ok w') (hm : ∀ k ∈ T'.fp, k ∈ T.fp ∨ w.heap.size ≤ k) : Sep F w0 (l.set i T') w' := by
  obtain ⟨hl, he⟩ := List.getElem?_eq_some_iff.1 hi
  have p1 : l.Perm ([T] ++ l.eraseIdx i) := by
    have := erase_perm hl
    rw [he] at this
    exact this.symm
  have h1 := (h.perm p1).upon (a' := [T']) (w' := w') ⟨by simpa [fps] using t, by simpa using hT, by simp, fun k hk => by simpa [fps] using hm k (by simpa [fps] using hk)⟩
  refine h1.perm ?_
  have := erase_perm (l := l.set i T') (i := i) (by simpa using hl)
  rw [List.getElem_set_self, List.eraseIdx_set_eq] at this
  exact this
theorem Sep.set (h : Sep F w0 l w) (i : Nat) {b : Nat} {cs : Array Value} {t : TypeId} (hi : l[i]? = some (tBlk b cs t)) (j : Nat) (v : Value) : Sep F w0 (l.set i (tBlk b (cs.setIfInBounds j v) t)) (w.setCell ⟨b, j, none⟩ v) :=
  h.step i hi ((Turns.refl _ _).setCell (by simp [tBlk]) v) ((h.blk i hi).set j v) (fun k hk => .inl hk)
/-- a slice has become another one -/
theorem Sep.slice (h : Sep F w0 l w) (i : Nat) {e : TypeId} {sz : Nat} {v v' : Value} {rows rows' : List (List Value)} (hi : l[i]? = some (tOwn e sz v rows)) (o : OwnS e sz w' v' rows') (t : Turns v.ownBlock.toList w w') (hl : v'.ownBlock = v.ownBlock ∨ v'.ownBlock = some w.heap.size) : Sep F w0 (l.set i (tOwn e sz v' rows')) w' :=
  h.step i hi t o (fun k hk => by
    rcases hl with hl | hl
    · exact .inl (by simpa [tOwn, hl] using hk)
    · refine .inr ?_
      have : k = w.heap.size := by simpa [tOwn, hl, eq_comm] using hk
      omega)
theorem Sep.newSlice (h : Sep F w0 l w) {e : TypeId} {sz : Nat} {v : Value} {rows : List (List Value)} (t : Turns [] w w') (o : OwnS e sz w' v rows) (hf : ∀ k, v.ownBlock = some k → w.heap.size ≤ k) : Sep F w0 (tOwn e sz v rows :: l) w' :=
  h.fresh t _ o (fun k hk => hf k (by simpa [tOwn] using hk))
theorem Sep.nilSlice (h : Sep F w0 l w) (e : TypeId) (sz : Nat) : Sep F w0 (tOwn e sz (.slice none 0 0) [] :: l) w :=
  h.newSlice (Turns.refl _ _) (OwnS.nil _ _ _) (by simp [Value.ownBlock])
/-- what is read, and is none of its own, stays -/
theorem Sep.old (h : Sep [] w0 l w) {a : Addr} {v : Value} (hc : w0.cell? a = some v) : w.cell? a = some v := h.t.old hc
/-- one has the same blocks, and says the same -/
theorem Sep.same (h : Sep F w0 l w) (i : Nat) {T : Th} (hi : l[i]? = some T) (T' : Th) (hf : T'.fp = T.fp) (hT : T.ok w → T'.ok w) : Sep F w0 (l.set i T') w :=
  h.step i hi (Turns.refl _ _) (hT (h.at_ i hi)) (fun k hk => .inl (hf ▸ hk))
/-- the first one is made of parts -/
theorem Sep.open_ {T : Th} {r : List Th} (h : Sep F w0 (T :: r) w) (ps : List Th) (hf : ∀ k ∈ fps ps, k ∈ T.fp) (hT : T.ok w → (∀ P ∈ ps, P.ok w) ∧ ps.Pairwise Apart) : Sep F w0 (ps ++ r) w := by
  have h1 : Sep F w0 ([T] ++ r) w := h
  obtain ⟨h2, h3⟩ := hT (h.ok T (by simp))
  exact h1.upon (w' := w) ⟨Turns.refl _ _, h2, h3, fun k hk => .inl (by simpa [fps] using hf k hk)⟩
theorem Sep.shut_ {T : Th} {ps r : List Th} (h : Sep F w0 (ps ++ r) w) (hf : ∀ k ∈ T.fp, k ∈ fps ps) (hT : (∀ P ∈ ps, P.ok w) → ps.Pairwise Apart → T.ok w) : Sep F w0 (T :: r) w :=
  h.upon (a' := [T]) (w' := w) ⟨Turns.refl _ _, by simpa using hT (fun P hP => h.ok P (List.mem_append_left _ hP)) (List.pairwise_append.1 h.ap).1, by simp, fun k hk => .inl (hf k (by simpa [fps] using hk))⟩
/-- what a call leaves that has turned one thing -/
theorem one_sep {T T' : Th} (t : Turns T.fp w w') (h : T'.ok w') (hm : ∀ k ∈ T'.fp, k ∈ T.fp ∨ w.heap.size ≤ k) : Sep (fps [T]) w [T'] w' :=
  ⟨by simpa [fps] using t, by simpa using h, by simp, fun k hk => by simpa [fps] using hm k (by simpa [fps] using hk)⟩
theorem Sep.one {G : List Nat} {T : Th} (h : Sep F w0 [T] w) : T.ok w := h.ok T (by simp)
end
section
variable {F : List Nat} {w0 : World} {l : List Th} {P : Program} {w : World} {ops : Array Oper} {rest : List Oper} {o : Oper} {a : Act} {Q : Exit → Act → World → Prop}
/-- append to the i-th thing -/
theorem Sep.append (H : Sep F w0 l w) (i : Nat) {e : TypeId} {sz : Nat} {v sv : Value} {rows news : List (List Value)} (hi : l[i]? = some (tOwn e sz v rows)) (hsrc : RdS sz w sv news) (n : Nat) (hn : n = rows.length + news.length) (rs : List (List Value)) (hrs : rs = rows ++ news) (hgd : o.guard = none) (s x : Operand) (t : TypeId)
    (ho : o.op = .call { callee := .builtin .append, args := #[s, x], argTypes := #[t, t] }) (z : Value) (bytes : Nat) (ht : P.underlying t = some (.slice e))
    (hinfo : (P.info? e).map (fun i => (i.zero, i.size, i.bytes)) = some (some z, sz, bytes)) (hz : z.cells.size = sz) (hs0 : 0 < sz) (hs : a.eval s = v) (hx : a.eval x = sv)
    (h1 : ∀ r ∈ news, ∀ u ∈ r, u.oneCell' = true) (hl : n * bytes ≤ 140737488355328) (hl2 : n ≤ 140737488355328)
    (h : ∀ A c w', Sep F w0 (l.set i (tOwn e sz (.slice A n c) rs)) w' → Turns v.ownBlock.toList w w' → Hid (Value.slice A n c = .slice none 0 0 ↔ v = .slice none 0 0 ∧ news = []) → wpList P ops Q rest (a.put o.dst (.slice A n c)) w') :
    wpList P ops Q (o :: rest) a w := by
  subst hn hrs
  refine wp_append (H.own i hi) hsrc hgd s x t ho z bytes ht hinfo hz hs0 hs hx h1 hl hl2 (fun v' w' o' t' hloc hnil => ?_)
  obtain ⟨A, c, hv, _⟩ := o'.form
  rw [List.length_append] at hv
  subst hv
  exact h A c w' (H.slice i hi o' t' hloc) t' hnil
end
theorem formI {e : TypeId} {w : World} {v : Value} {l : List Int} (h : OwnS e 1 w v (ins l)) : ∃ A c, v = .slice A l.length c ∧ l.length ≤ c ∧ c ≤ 9223372036854775807 := by
  obtain ⟨A, c, h1, h2, h3, _⟩ := h.form
  rw [ins_len] at h1 h2
  exact ⟨A, c, h1, h2, h3⟩
theorem formM {α : Type} {f : α → List Value} {e : TypeId} {sz : Nat} {w : World} {v : Value} {l : List α} (h : OwnS e sz w v (l.map f)) : ∃ A c, v = .slice A l.length c ∧ l.length ≤ c ∧ c ≤ 9223372036854775807 := by
  obtain ⟨A, c, h1, h2, h3, _⟩ := h.form
  rw [List.length_map] at h1 h2
  exact ⟨A, c, h1, h2, h3⟩
theorem mine_own {F : List Nat} {w0 w : World} {l : List Th} (H : Sep F w0 l w) (i : Nat) {e : TypeId} {sz : Nat} {v : Value} {rows : List (List Value)} (hi : l[i]? = some (tOwn e sz v rows)) : ∀ k, v.ownBlock = some k → k ∈ F ∨ w0.heap.size ≤ k := fun k hk =>
  H.mine k (mem_fps.2 ⟨_, List.mem_of_getElem? hi, by simpa [tOwn] using hk⟩)
theorem two_apart {A B : Th} (h : Apart A B) : [A, B].Pairwise Apart := by simp [h]
theorem two_ok {A B : Th} {w : World} (hA : A.ok w) (hB : B.ok w) : ∀ P ∈ [A, B], P.ok w := by simp [hA, hB]
/-- two blocks -/
structure Blk2 (W : World) (b : Nat) (cs : Array Value) (t : TypeId) (b' : Nat) (cs' : Array Value) (t' : TypeId) : Prop where
  a : Blk W b cs t
  c : Blk W b' cs' t'
theorem Blk2.turns {W W' : World} {b : Nat} {cs : Array Value} {t : TypeId} {b' : Nat} {cs' : Array Value} {t' : TypeId} (h : Blk2 W b cs t b' cs' t') (k : Turns [] W W') : Blk2 W' b cs t b' cs' t' := ⟨h.a.turns k (by simp), h.c.turns k (by simp)⟩
end Go.Proofs.Ytohokckpheljbaa.Hx
