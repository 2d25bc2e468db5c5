/- Words of this work: slices: read ones and own ones, their elements as rows of cells; append, make, copy. No program in sight. -/
import Derived.Test.YtohokckpheljbaaHm
import Derived.OwnWalk
import Derived.Maps.AppendAt
import Derived.Laws.AppendOwnNone
import Derived.Laws.MakeOwn
import Derived.Laws.OwnMore
import Derived.Laws.CopyOwn
set_option linter.unusedVariables false
set_option linter.unusedSimpArgs false
namespace Go.Proofs.Ytohokckpheljbaa.Hs
open Go.RowKit Hm

/-- A slice that reads as rows of sz cells. -/
def RdS (sz : Nat) (w : World) (v : Value) (rows : List (List Value)) : Prop :=
  ∃ A c, v = .slice A rows.length c ∧ rows.length ≤ c ∧ c ≤ 9223372036854775807 ∧ (A = none → c = 0) ∧ FlatRow w A sz rows ∧ ∀ r ∈ rows, r.length = sz
/-- A slice of the call's own: it lies at its block's head, and may be appended to. -/
def OwnS (e : TypeId) (sz : Nat) (w : World) (v : Value) (rows : List (List Value)) : Prop :=
  w.ownsRow 0 e sz v rows.length rows.flatten ∧ ∀ r ∈ rows, r.length = sz
theorem flatten_len {sz : Nat} : ∀ {rows : List (List Value)}, (∀ r ∈ rows, r.length = sz) → rows.flatten.length = rows.length * sz
  | [], _ => by simp
  | r :: rs, h => by
    rw [List.flatten_cons, List.length_append, h r (by simp), flatten_len (fun x hx => h x (by simp [hx])), List.length_cons, Nat.succ_mul, Nat.add_comm]
theorem flatten_at {sz : Nat} : ∀ {rows : List (List Value)}, (∀ r ∈ rows, r.length = sz) → ∀ {j : Nat} {r : List Value}, rows[j]? = some r → ∀ {i : Nat} {u : Value}, r[i]? = some u → rows.flatten[j * sz + i]? = some u
  | [], _, j, r, hj, _, _, _ => by simp at hj
  | q :: rs, h, 0, r, hj, i, u, hu => by
    simp only [List.getElem?_cons_zero, Option.some.injEq] at hj
    subst hj
    have hi := (List.getElem?_eq_some_iff.1 hu).1
    rw [List.flatten_cons, Nat.zero_mul, Nat.zero_add, List.getElem?_append_left hi]
    exact hu
  | q :: rs, h, j + 1, r, hj, i, u, hu => by
    have hq := h q (by simp)
    have hj' : rs[j]? = some r := by simpa using hj
    rw [List.flatten_cons, List.getElem?_append_right (by rw [hq, Nat.succ_mul]; omega), hq, Nat.succ_mul, show j * sz + sz + i - sz = j * sz + i from by omega]
    exact flatten_at (fun x hx => h x (by simp [hx])) hj' hu
section
variable {e : TypeId} {sz : Nat} {w w' : World} {v : Value} {rows : List (List Value)}
theorem RdS.mv (h : RdS sz w v rows) (hm : ∀ a u, w.cell? a = some u → w'.cell? a = some u) : RdS sz w' v rows := by
  obtain ⟨A, c, hv, hc, hm2, hn, hf, hl⟩ := h
  refine ⟨A, c, hv, hc, hm2, hn, ⟨hf.1, fun hp => ?_⟩, hl⟩
  obtain ⟨ad, e, hh⟩ := hf.2 hp
  exact ⟨ad, e, fun j r hj => ⟨(hh j r hj).1, fun i u hu => hm _ _ ((hh j r hj).2 i u hu)⟩⟩
theorem RdS.nil (sz : Nat) (w : World) : RdS sz w (.slice none 0 0) [] := ⟨none, 0, rfl, Nat.le_refl _, by omega, fun _ => rfl, ⟨by simp, by simp⟩, by simp⟩
theorem OwnS.nil (e : TypeId) (sz : Nat) (w : World) : OwnS e sz w (.slice none 0 0) [] := ⟨⟨by simp, .inl ⟨rfl, rfl⟩⟩, by simp⟩
theorem OwnS.move (h : OwnS e sz w v rows) (hm : ∀ k, v.ownBlock = some k → w'.heap[k]? = w.heap[k]?) : OwnS e sz w' v rows := by
  obtain ⟨⟨h1, h2⟩, h3⟩ := h
  refine ⟨⟨h1, ?_⟩, h3⟩
  rcases h2 with h2 | ⟨g, cap, cur, rfl, hg, hh, r⟩
  · exact .inl h2
  · exact .inr ⟨g, cap, cur, rfl, hg, (hm g (by simp [Value.ownBlock])).trans hh, r⟩
theorem OwnS.lt (h : OwnS e sz w v rows) {k : Nat} (hk : v.ownBlock = some k) : k < w.heap.size := by
  rcases h.1.2 with ⟨rfl, _⟩ | ⟨g, cap, cur, rfl, hb, hh, _⟩
  · simp [Value.ownBlock] at hk
  · have : g = k := by simpa [Value.ownBlock] using hk
    subst this
    exact (Array.getElem?_eq_some_iff.1 hh).1
theorem OwnS.turns {F : List Nat} (h : OwnS e sz w v rows) (t : Turns F w w') (hF : ∀ k, v.ownBlock = some k → k ∉ F) : OwnS e sz w' v rows :=
  h.move fun k hk => t.block k (h.lt hk) (hF k hk)
theorem OwnS.alloc (h : OwnS e sz w v rows) (o : Obj) : OwnS e sz (w.alloc o) v rows := h.turns (F := []) ((Turns.refl _ _).alloc o) (by simp)
theorem OwnS.typed (h : OwnS e sz w v rows) {k : Nat} (hk : v.ownBlock = some k) : ∃ cells, w.heap[k]? = some (.cells cells e (0, 0)) := by
  rcases h.1.2 with ⟨rfl, _⟩ | ⟨g, cap, cur, rfl, hg, hh, r⟩
  · simp [Value.ownBlock] at hk
  · have : g = k := by simpa [Value.ownBlock] using hk
    subst this
    exact ⟨cur, hh⟩
theorem OwnS.ne_blk (h : OwnS e sz w v rows) {k b : Nat} {cs : Array Value} {t : TypeId} (hk : v.ownBlock = some k) (hb : Blk w b cs t) (ht : e ≠ t) : k ≠ b := by
  rintro rfl
  obtain ⟨cells, hc⟩ := h.typed hk
  unfold Blk at hb
  rw [hb] at hc
  injection hc with hc
  injection hc with _ hc
  exact ht hc.symm
theorem OwnS.form (h : OwnS e sz w v rows) : ∃ A c, v = .slice A rows.length c ∧ rows.length ≤ c ∧ c ≤ 9223372036854775807 ∧ (A = none → c = 0) := by
  rcases h.1.2 with ⟨rfl, h0⟩ | ⟨g, cap, cur, rfl, hg, hh, hl, hm, _⟩
  · exact ⟨none, 0, by rw [h0], by omega, by omega, fun _ => rfl⟩
  · unfold maxLen at hm
    exact ⟨some ⟨g, 0, none⟩, cap, rfl, hl, by omega, by simp⟩
theorem OwnS.reads (h : OwnS e sz w v rows) : RdS sz w v rows := by
  obtain ⟨⟨h1, h2⟩, h3⟩ := h
  rcases h2 with ⟨rfl, h0⟩ | ⟨g, cap, cur, rfl, hg, hh, hl, hm, hs, ht⟩
  · obtain rfl : rows = [] := List.eq_nil_of_length_eq_zero h0
    exact RdS.nil sz w
  · unfold maxLen at hm
    refine ⟨some ⟨g, 0, none⟩, cap, rfl, hl, by omega, by simp, ⟨by omega, fun _ => ⟨_, rfl, fun j r hj => ⟨h3 r (List.mem_of_getElem? hj), fun i u hu => ?_⟩⟩⟩, h3⟩
    have := flatten_at h3 hj hu
    rw [← ht] at this
    rw [add_zero_]
    simp only [World.cell?, hh, Option.isSome_none, Bool.false_eq_true, if_false]
    have hlt : j * sz + i < rows.length * sz := by
      rw [List.getElem?_take] at this
      split at this
      · assumption
      · cases this
    rw [List.getElem?_take_of_lt hlt] at this
    simpa using this
/-- A read slice's cells, at an index. -/
theorem RdS.at_ (h : RdS sz w v rows) {j : Nat} {r : List Value} (hj : rows[j]? = some r) : ∃ ad c, v = .slice (some ad) rows.length c ∧ r.length = sz ∧ ∀ i u, r[i]? = some u → w.cell? (ad.add (j * sz + i)) = some u := by
  obtain ⟨A, c, hv, hc, hm2, hn, hf, hl⟩ := h
  obtain ⟨ad, rfl, h1, h2⟩ := hf.at_ hj
  exact ⟨ad, c, hv, h1, h2⟩
theorem RdS.form (h : RdS sz w v rows) : ∃ A c, v = .slice A rows.length c ∧ rows.length ≤ c ∧ c ≤ 9223372036854775807 := by
  obtain ⟨A, c, hv, hc, hm2, _⟩ := h
  exact ⟨A, c, hv, hc, hm2⟩
/-- the cells of all rows -/
theorem RdS.cells (h : RdS sz w v rows) (hsz : 0 < sz) : ∀ ad n c, v = .slice (some ad) n c → ∀ j u, rows.flatten[j]? = some u → w.cell? (ad.add j) = some u := by
  obtain ⟨A, c0, hv, hc, hm2, hn, hf, hl⟩ := h
  intro ad n c hv2 j u hu
  rw [hv] at hv2
  injection hv2 with e1 e2 e3
  subst e1
  have hj : j < rows.flatten.length := (List.getElem?_eq_some_iff.1 hu).1
  rw [flatten_len hl] at hj
  have hq : j / sz < rows.length := Nat.div_lt_of_lt_mul (by rwa [Nat.mul_comm] at hj)
  obtain ⟨ad', e, hh⟩ := hf.2 (Nat.lt_of_le_of_lt (Nat.zero_le _) hq)
  injection e with e
  subst e
  have hr : rows[j / sz]? = some rows[j / sz] := List.getElem?_eq_getElem hq
  have hri := hl _ (List.mem_of_getElem? hr)
  have hmod : j % sz < (rows[j / sz]).length := by rw [hri]; exact Nat.mod_lt _ hsz
  have hu2 : (rows[j / sz])[j % sz]? = some (rows[j / sz])[j % sz] := List.getElem?_eq_getElem hmod
  have h1 := flatten_at hl hr hu2
  have h2 := (hh _ _ hr).2 _ _ hu2
  rw [Nat.mul_comm, Nat.div_add_mod] at h1 h2
  rw [hu] at h1
  injection h1 with h1
  rw [h1]
  exact h2
end
section
variable {P : Program} {w : World} {ops : Array Oper} {rest : List Oper} {o : Oper} {a : Act} {Q : Exit → Act → World → Prop}
/-- append(s, x...): s own, x read (nil, or own, or whatever). -/
theorem wp_append {e : TypeId} {sz : Nat} {v sv : Value} {rows news : List (List Value)} (hown : OwnS e sz w v rows) (hsrc : RdS sz w sv news) (hgd : o.guard = none) (s x : Operand) (t : TypeId)
    (ho : o.op = .call { callee := .builtin .append, args := #[s, x], argTypes := #[t, t] }) (z : Value) (bytes : Nat) (ht : P.underlying t = some (.slice e))
    (hinfo : (P.info? e).map (fun i => (i.zero, i.size, i.bytes)) = some (some z, sz, bytes)) (hz : z.cells.size = sz) (hs0 : 0 < sz) (hs : a.eval s = v) (hx : a.eval x = sv)
    (h1 : ∀ r ∈ news, ∀ u ∈ r, u.oneCell' = true) (hl : (rows.length + news.length) * bytes ≤ 140737488355328) (hl2 : rows.length + news.length ≤ 140737488355328)
    (h : ∀ v' w', OwnS e sz w' v' (rows ++ news) → Turns v.ownBlock.toList w w' → (v'.ownBlock = v.ownBlock ∨ v'.ownBlock = some w.heap.size) → (v' = .slice none 0 0 ↔ v = .slice none 0 0 ∧ news = []) → wpList P ops Q rest (a.put o.dst v') w') :
    wpList P ops Q (o :: rest) a w := by
  obtain ⟨i0, hi, hzz⟩ := Option.map_eq_some_iff.1 hinfo
  simp only [Prod.mk.injEq] at hzz
  obtain ⟨hz0, hz1, hz2⟩ := hzz
  have hsrc0 := hsrc
  obtain ⟨A, c, rfl, hc, hm2, hn, hf, hln⟩ := hsrc
  have tg : ∀ w', w.grownBy w' v.ownBlock → Turns v.ownBlock.toList w w' := fun w' g => ⟨g.os, g.tape, g.output, g.size, fun k hk hF => g.block k hk (fun e => hF (by rw [← e]; simp))⟩
  cases A with
  | none =>
    obtain rfl := hn rfl
    have h0 : news = [] := List.eq_nil_of_length_eq_zero (by omega)
    subst h0
    refine wpList_append_own_none hgd s x t ho 0 e i0 sz ht hi v rows.length rows.flatten hs hown.1 hx ?_
    exact h v w (by simpa using hown) (Turns.refl _ _) (.inl rfl) (by simp)
  | some ad =>
    refine wpList_append_own_at w hgd s x t ho 0 e i0 z sz bytes ht hi hz0 hz1 hz2 hz hs0 v rows.length rows.flatten hs hown.1 ad news.length c news.flatten hx (flatten_len hln) (hsrc0.cells hs0 ad _ c rfl) (fun u hu => by
      obtain ⟨r, hr, hur⟩ := List.mem_flatten.1 hu
      exact h1 r hr u hur) (by unfold maxLen; omega) hl (Nat.zero_le _) ?_
    intro v' w' hown' hg hnil hloc
    refine h v' w' ⟨by rw [List.length_append, List.flatten_append]; exact hown', fun r hr => ?_⟩ (tg w' hg) hloc (by rw [hnil, List.length_eq_zero_iff])
    rcases List.mem_append.1 hr with hr | hr
    · exact hown.2 r hr
    · exact hln r hr
theorem rep_flat (z : Value) : ∀ n : Nat, (List.replicate n [z]).flatten = List.replicate n z
  | 0 => rfl
  | n + 1 => by rw [List.replicate_succ, List.flatten_cons, rep_flat z n, List.replicate_succ]; rfl
theorem drop_flat : ∀ (rows : List (List Value)) (k : Nat), (∀ r ∈ rows, r.length = 1) → (rows.drop k).flatten = rows.flatten.drop k
  | [], k, _ => by simp
  | r :: rs, 0, _ => by simp
  | r :: rs, k + 1, h => by
    have hr := h r (by simp)
    rw [List.drop_succ_cons, drop_flat rs k (fun x hx => h x (by simp [hx])), List.flatten_cons]
    match r, hr with
    | [x], _ => rfl
/-- make([]T, n), T of one cell. -/
theorem wp_make {e : TypeId} (hgd : o.guard = none) (l c : Operand) (t : TypeId) (hop : o.op = Op.makeSlice t l c) (z : Value) (bytes : Nat) (ht : P.underlying t = some (.slice e))
    (hinfo : (P.info? e).map (fun i => (i.zero, i.size, i.bytes)) = some (some z, 1, bytes)) (hz : z.cells = #[z]) (kl kc : IntKind) (L C : Int) (n : Nat) (hl : a.eval l = .int kl L) (hc : a.eval c = .int kc C) (hL : L = (n : Int)) (hC : C = (n : Int))
    (hb : bytes * n ≤ 281474976710656) (hn : n ≤ 281474976710656)
    (h : ∀ w', OwnS e 1 w' (.slice (some ⟨w.heap.size, 0, none⟩) n n) (List.replicate n [z]) → Turns [] w w' → wpList P ops Q rest (a.put o.dst (.slice (some ⟨w.heap.size, 0, none⟩) n n)) w') :
    wpList P ops Q (o :: rest) a w := by
  obtain ⟨i0, hi, hzz⟩ := Option.map_eq_some_iff.1 hinfo
  simp only [Prod.mk.injEq] at hzz
  obtain ⟨hz0, hz1, hz2⟩ := hzz
  refine wpList_make_full w hgd l c t hop 0 e i0 z 1 ht hi hz0 hz1 kl kc L C n hl hc hL hC (by rw [hz2]; exact hb) (by unfold maxLen; omega) (Nat.zero_le _) ?_
  intro w' ho hg
  refine h w' ⟨?_, fun r hr => by rw [List.eq_of_mem_replicate hr]; rfl⟩ ⟨hg.os, hg.tape, hg.output, hg.size, fun k hk _ => hg.block k hk (by simp)⟩
  have e : (List.replicate n [z]).flatten = (madeCells z.cells (n * 1)).toList := by rw [hz, Nat.mul_one, toList_madeCells_one, rep_flat]
  rw [e, List.length_replicate]
  exact ho
theorem goInt_nat (n : Nat) : goInt n = .int .i64 (n : Int) := rfl
theorem setRow_turns (w : World) (g : Nat) (cs : Array Value) : Turns [g] w (w.setRow g cs) :=
  ⟨rfl, rfl, rfl, by simp [World.setRow], fun k _ hF => setRow_other w g k cs (by simpa using hF)⟩
/-- copy(dst, src), elements of one cell. -/
theorem wp_copy {e : TypeId} {v sv : Value} {rows news : List (List Value)} (hown : OwnS e 1 w v rows) (hsrc : RdS 1 w sv news) (hgd : o.guard = none) (d s : Operand) (dT sT : TypeId)
    (ho : o.op = .call { callee := .builtin .copy, args := #[d, s], argTypes := #[dT, sT] }) (hu : P.underlying dT = some (.slice e)) (hsz : (P.info? e).map (·.size) = some 1) (hd : a.eval d = v) (hs : a.eval s = sv)
    (h1 : ∀ r ∈ news, ∀ u ∈ r, u.oneCell' = true) (k : Nat) (hk : k = min news.length rows.length)
    (h : ∀ w', OwnS e 1 w' v (news.take k ++ rows.drop k) → Turns v.ownBlock.toList w w' → wpList P ops Q rest (a.put o.dst (.int .i64 k)) w') :
    wpList P ops Q (o :: rest) a w := by
  obtain ⟨A, c, hv, _⟩ := hown.form
  obtain ⟨A', c', hsv, _⟩ := hsrc.form
  by_cases h0 : k = 0
  · subst h0
    refine wpList_copy_nothing hgd d s dT sT ho e hu hsz A A' rows.length c news.length c' (by rw [hd, hv]) (by rw [hs, hsv]) (by show min _ _ = 0; omega) ?_
    exact h w (by simpa using hown) (Turns.refl _ _)
  · rcases hown.1.2 with ⟨rfl, hz⟩ | ⟨g, cap, cur, hv2, hg, hh, hl, hm, hsize, htake⟩
    · omega
    · have hsrc0 := hsrc
      obtain ⟨A2, c2, hsv2, _, _, _, hf, hln⟩ := hsrc
      obtain ⟨ad, hA, _⟩ := hf.2 (by omega)
      subst hA
      have hcl : (news.take k).flatten.length = k := by
        rw [flatten_len (sz := 1) (fun r hr => hln r (List.mem_of_mem_take hr)), List.length_take]; omega
      refine wpList_copy_own hgd d s dT sT ho e hu hsz g 0 rows.length cap ad news.length c2 (by rw [hd, hv2]) (by rw [hs, hsv2]) cur e hh (news.take k).flatten (by rw [hcl, hk]) (fun j u hj => ?_) (by rw [hcl, hsize]; omega) (fun u hu2 => ?_) ?_
      · refine hsrc0.cells (by decide) ad _ c2 hsv2 j u ?_
        have hp : (news.take k).flatten <+: news.flatten := by
          conv => rhs; rw [← List.take_append_drop k news, List.flatten_append]
          exact List.prefix_append _ _
        obtain ⟨t, ht⟩ := hp
        rw [← ht, List.getElem?_append_left (List.getElem?_eq_some_iff.1 hj).1]
        exact hj
      · obtain ⟨r, hr, hur⟩ := List.mem_flatten.1 hu2
        exact h1 r (List.mem_of_mem_take hr) u hur
      · rw [hcl]
        have hlen : (news.take k ++ rows.drop k).length = rows.length := by
          rw [List.length_append, List.length_take, List.length_drop]; omega
        refine h _ ⟨⟨?_, .inr ⟨g, cap, _, by rw [hlen]; exact hv2, hg, setRow_heap w g cur _ e (0, 0) hh, by rw [hlen]; exact hl, hm, ?_, ?_⟩⟩, fun r hr => ?_⟩ ((setRow_turns w g _).mono (by rw [hv2]; simp [Value.ownBlock]))
        · refine flatten_len (sz := 1) (fun r hr => ?_)
          rcases List.mem_append.1 hr with hr | hr
          · exact hln r (List.mem_of_mem_take hr)
          · exact hown.2 r (List.mem_of_mem_drop hr)
        · simp only [List.take_zero, List.nil_append, Nat.zero_add, List.size_toArray, List.length_append, hcl, List.length_drop, Array.length_toList, hsize]
          omega
        · have e1 := drop_flat rows k hown.2
          rw [List.flatten_append, e1, hlen, ← htake]
          simp only [List.take_zero, List.nil_append, Nat.zero_add, Nat.mul_one, hcl]
          have hk2 : k ≤ rows.length := by omega
          rw [List.take_append, hcl, List.take_of_length_le (by omega), List.drop_take]
        · rcases List.mem_append.1 hr with hr | hr
          · exact hln r (List.mem_of_mem_take hr)
          · exact hown.2 r (List.mem_of_mem_drop hr)
end
/-- bytes as rows -/
def bys (l : List Int) : List (List Value) := l.map fun x => [.int .u8 x]
def ins (l : List Int) : List (List Value) := l.map fun x => [.int .i64 x]
@[simp] theorem bys_len (l : List Int) : (bys l).length = l.length := by simp [bys]
@[simp] theorem ins_len (l : List Int) : (ins l).length = l.length := by simp [ins]
theorem bys_append (l m : List Int) : bys (l ++ m) = bys l ++ bys m := by simp [bys]
theorem ins_append (l m : List Int) : ins (l ++ m) = ins l ++ ins m := by simp [ins]
theorem bys_one (l : List Int) : ∀ r ∈ bys l, ∀ u ∈ r, u.oneCell' = true := by
  intro r hr u hu
  obtain ⟨x, _, rfl⟩ := List.mem_map.1 hr
  simp at hu; subst hu; rfl
theorem ins_one (l : List Int) : ∀ r ∈ ins l, ∀ u ∈ r, u.oneCell' = true := by
  intro r hr u hu
  obtain ⟨x, _, rfl⟩ := List.mem_map.1 hr
  simp at hu; subst hu; rfl
theorem bys_flat (l : List Int) : (bys l).flatten = l.map (Value.int .u8) := by induction l <;> simp_all [bys]
theorem ins_flat (l : List Int) : (ins l).flatten = l.map (Value.int .i64) := by induction l <;> simp_all [ins]
end Go.Proofs.Ytohokckpheljbaa.Hs
