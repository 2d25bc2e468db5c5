/- QueueTurn: plain facts: items of names of their own, taken one by one from a key. No program in sight. -/
import Derived.Test.YtoojemdehmabhaaZa
set_option linter.unusedVariables false
set_option linter.unusedSimpArgs false
namespace Go.Proofs.Ytoojemdehmabhaa.Zd
open Go.RowKit Qa Qe Qf Qg Qj Qk Qm Qv Qy Za
/-- no two of one name -/
def Own (l : List It) : Prop := l.Pairwise (fun a b => a.id ≠ b.id)
theorem Own.sub {l l' : List It} (h : Own l) (hs : l'.Sublist l) : Own l' := List.Pairwise.sublist hs h
theorem step_own {room : Int} {l : List It} {a : Qy.Act} (h : Own l) : Own (stepQ room l a) := by
  unfold stepQ
  split
  · exact h.sub (take_sub _ _)
  · split
    · exact h.sub (stay_sub _ _)
    · unfold putQ
      split
      · exact h
      · split
        · exact h
        · rename_i hp
          split
          · exact h
          · show List.Pairwise _ (l ++ [a.x])
            rw [List.pairwise_append]
            refine ⟨h, by simp, fun x hx y hy => ?_⟩
            simp at hy
            subst hy
            rcases pos_is l a.x.id with ⟨_, h2⟩ | ⟨i, z, _, _, _, h4⟩
            · exact h2 x hx
            · omega
theorem own_at {l : List It} (h : Own l) {i j : Nat} {x y : It} (hi : l[i]? = some x) (hj : l[j]? = some y) (e : x.id = y.id) : i = j := by
  obtain ⟨h1, rfl⟩ := List.getElem?_eq_some_iff.1 hi
  obtain ⟨h2, rfl⟩ := List.getElem?_eq_some_iff.1 hj
  rcases Nat.lt_trichotomy i j with h3 | h3 | h3
  · exact absurd e (List.pairwise_iff_getElem.1 h i j h1 h2 h3)
  · exact h3
  · exact absurd e.symm (List.pairwise_iff_getElem.1 h j i h2 h1 h3)
/-- where an item is -/
theorem pos_at {l : List It} (h : Own l) {i : Nat} {x : It} (hi : l[i]? = some x) : posQ l x.id = (i : Int) := by
  rcases pos_is l x.id with ⟨_, h2⟩ | ⟨j, z, h1, h2, _, h4⟩
  · exact absurd rfl (h2 x (List.mem_of_getElem? hi))
  · rw [h4, own_at h h1 hi h2]
theorem erase_filter : ∀ {l : List It} {i : Nat} {x : It}, Own l → l[i]? = some x → l.eraseIdx i = l.filter (fun y => y.id != x.id)
  | [], i, x, _, hi => by simp at hi
  | y :: l, 0, x, h, hi => by
    simp only [List.getElem?_cons_zero, Option.some.injEq] at hi
    subst hi
    obtain ⟨h1, h2⟩ := List.pairwise_cons.1 h
    rw [List.eraseIdx_cons_zero, List.filter_cons]
    simp only [bne_self_eq_false, Bool.false_eq_true, if_false]
    exact (List.filter_eq_self.2 (fun z hz => by simpa using (h1 z hz).symm)).symm
  | y :: l, i + 1, x, h, hi => by
    obtain ⟨h1, h2⟩ := List.pairwise_cons.1 h
    have hi' : l[i]? = some x := by simpa using hi
    have hne : (y.id != x.id) = true := by simpa using h1 x (List.mem_of_getElem? hi')
    rw [List.eraseIdx_cons_succ, List.filter_cons, hne, erase_filter h2 hi']
    simp
/-- an item that is there is taken -/
theorem take_mem {l : List It} (h : Own l) {x : It} (hx : x ∈ l) : takeQ l x.id = (x, true, l.filter (fun y => y.id != x.id)) := by
  obtain ⟨i, hi⟩ := List.getElem?_of_mem hx
  have hp := pos_at h hi
  unfold takeQ
  rw [hp, if_neg (by omega), Int.toNat_natCast, List.getD_eq_getElem?_getD, hi, erase_filter h hi]
  rfl
theorem stab_filter (L : List It) (p : It → Bool) : stab (L.filter p) = (stab L).filter p := by
  unfold stab
  simp only [List.filter_append, List.filter_filter]
  congr 1
  congr 1
  all_goals exact List.filter_congr (fun x _ => Bool.and_comm _ _)
theorem ofQ_filter (l : List It) (key : Int) (p : It → Bool) : ofQ (l.filter p) key = (ofQ l key).filter p := by
  unfold ofQ
  rw [← stab_filter, List.filter_filter, List.filter_filter]
  congr 1
  exact List.filter_congr (fun x _ => Bool.and_comm _ _)
theorem ofQ_mem {l : List It} (hL : Cls l) (key : Int) (x : It) : x ∈ ofQ l key ↔ x ∈ l ∧ x.key = key := by
  unfold ofQ
  rw [stab_mem (fun x hx => hL x (List.mem_filter.1 hx).1), List.mem_filter]
  simp [bne]
/-- an item's place -/
def plc (l : List It) (x : It) : Int := posQ l x.id
theorem own_places {l : List It} (h : Own l) : l.Pairwise (fun a b => plc l a < plc l b) := by
  rw [List.pairwise_iff_getElem]
  intro i j hi hj hij
  unfold plc
  rw [pos_at h (List.getElem?_eq_getElem hi), pos_at h (List.getElem?_eq_getElem hj)]
  omega
/-- by classes, and within a class by places -/
def Ord (l : List It) (a b : It) : Prop := a.cls < b.cls ∨ (a.cls = b.cls ∧ plc l a < plc l b)
theorem stab_ord {l L : List It} (h : L.Pairwise (fun a b => plc l a < plc l b)) : (stab L).Pairwise (Ord l) := by
  have hc : ∀ c : Int, (L.filter (fun x => x.cls == c)).Pairwise (Ord l) := by
    intro c
    refine List.Pairwise.imp_of_mem (fun {a b} ha hb hab => ?_) (List.Pairwise.sublist List.filter_sublist h)
    have h1 := (List.mem_filter.1 ha).2
    have h2 := (List.mem_filter.1 hb).2
    simp at h1 h2
    exact .inr ⟨by omega, hab⟩
  have hm : ∀ (c : Int) (x : It), x ∈ L.filter (fun x => x.cls == c) → x.cls = c := fun c x hx => by simpa using (List.mem_filter.1 hx).2
  unfold stab
  rw [List.pairwise_append, List.pairwise_append]
  refine ⟨⟨hc 0, hc 1, fun a ha b hb => ?_⟩, hc 2, fun a ha b hb => ?_⟩
  · have := hm 0 a ha
    have := hm 1 b hb
    exact .inl (by omega)
  · have h2 := hm 2 b hb
    rcases List.mem_append.1 ha with ha | ha
    · have := hm 0 a ha
      exact .inl (by omega)
    · have := hm 1 a ha
      exact .inl (by omega)
theorem ofQ_ord {l : List It} (h : Own l) (key : Int) : (ofQ l key).Pairwise (Ord l) := stab_ord (List.Pairwise.sublist List.filter_sublist (own_places h))
theorem ofQ_own {l : List It} (h : Own l) (hL : Cls l) (key : Int) : Own (ofQ l key) := by
  have h1 := ofQ_ord h key
  refine List.Pairwise.imp_of_mem (fun {a b} ha hb hab e => ?_) h1
  have ha' := ((ofQ_mem hL key a).1 ha).1
  have hb' := ((ofQ_mem hL key b).1 hb).1
  obtain ⟨i, hi⟩ := List.getElem?_of_mem ha'
  obtain ⟨j, hj⟩ := List.getElem?_of_mem hb'
  have hij := own_at h hi hj e
  subst hij
  have : a = b := Option.some.inj (hi.symm.trans hj)
  subst this
  rcases hab with h2 | ⟨_, h2⟩ <;> omega
/-- what the taking has done so far -/
structure Tk (was : List It) (key : Int) (got l : List It) : Prop where
  own : Own l
  cls : Cls l
  all : ofQ was key = got ++ ofQ l key
  rest : l.filter (fun y => y.key != key) = was.filter (fun y => y.key != key)
  num : got.length + l.length = was.length
theorem Tk.start {was : List It} (h : Own was) (hL : Cls was) (key : Int) : Tk was key [] was := ⟨h, hL, rfl, rfl, by simp⟩
theorem filter_one : ∀ {l : List It} {x : It}, Own l → x ∈ l → (l.filter (fun y => y.id != x.id)).length + 1 = l.length
  | [], x, _, hx => by simp at hx
  | y :: l, x, h, hx => by
    obtain ⟨h1, h2⟩ := List.pairwise_cons.1 h
    rw [List.filter_cons]
    rcases List.mem_cons.1 hx with rfl | hx
    · have e : l.filter (fun y => y.id != x.id) = l := List.filter_eq_self.2 (fun z hz => by simpa using (h1 z hz).symm)
      simp [e]
    · have hne : (y.id != x.id) = true := by simpa using h1 x hx
      rw [hne]
      simp only [if_true, List.length_cons]
      have := filter_one h2 hx
      omega
theorem Tk.step {was : List It} {key : Int} {got l : List It} (h : Tk was key got l) {x : It} {r : List It} (ho : ofQ l key = x :: r) :
    takeQ l x.id = (x, true, l.filter (fun y => y.id != x.id)) ∧ x.key = key ∧ Tk was key (got ++ [x]) (l.filter (fun y => y.id != x.id)) := by
  have hx : x ∈ ofQ l key := by rw [ho]; simp
  have hm := (ofQ_mem h.cls key x).1 hx
  refine ⟨take_mem h.own hm.1, hm.2, ⟨h.own.sub List.filter_sublist, cls_sub h.cls List.filter_sublist, ?_, ?_, ?_⟩⟩
  · have hown := ofQ_own h.own h.cls key
    rw [ho] at hown
    obtain ⟨h1, _⟩ := List.pairwise_cons.1 hown
    have e : r.filter (fun y => y.id != x.id) = r := List.filter_eq_self.2 (fun z hz => by simpa using (h1 z hz).symm)
    rw [ofQ_filter, ho, List.filter_cons, h.all, ho]
    simp [e]
  · rw [List.filter_filter, ← h.rest]
    refine List.filter_congr (fun y hy => ?_)
    cases h1 : (y.key != key) with
    | false => simp
    | true =>
      have : y.id ≠ x.id := by
        intro e
        obtain ⟨i, hi⟩ := List.getElem?_of_mem hy
        obtain ⟨j, hj⟩ := List.getElem?_of_mem hm.1
        have hij := own_at h.own hi hj e
        subst hij
        have : y = x := Option.some.inj (hi.symm.trans hj)
        subst this
        rw [hm.2] at h1
        simp at h1
      simpa using this
  · have := filter_one h.own hm.1
    have := h.num
    rw [List.length_append, List.length_singleton]
    omega
theorem Tk.le {was : List It} {key : Int} {got l : List It} (h : Tk was key got l) : got.length ≤ was.length := by have := h.num; omega
/-- at its end -/
theorem Tk.done {was : List It} {key : Int} {got l : List It} (h : Tk was key got l) (ho : ofQ l key = []) : got = ofQ was key ∧ l = was.filter (fun y => y.key != key) := by
  refine ⟨by rw [h.all, ho, List.append_nil], ?_⟩
  rw [← h.rest]
  refine (List.filter_eq_self.2 (fun y hy => ?_)).symm
  simp only [bne_iff_ne, ne_eq]
  intro e
  have : y ∈ ofQ l key := (ofQ_mem h.cls key y).2 ⟨hy, e⟩
  rw [ho] at this
  simp at this
theorem ord_next {was : List It} {key : Int} (h : Own was) (k : Nat) {a b : It} (ha : (ofQ was key)[k]? = some a) (hb : (ofQ was key)[k + 1]? = some b) : a.cls ≤ b.cls ∧ (a.cls = b.cls → posQ was a.id < posQ was b.id) := by
  obtain ⟨h1, rfl⟩ := List.getElem?_eq_some_iff.1 ha
  obtain ⟨h2, rfl⟩ := List.getElem?_eq_some_iff.1 hb
  have := List.pairwise_iff_getElem.1 (ofQ_ord h key) k (k + 1) h1 h2 (by omega)
  rcases this with h3 | ⟨h3, h4⟩
  · exact ⟨by omega, fun e => by omega⟩
  · exact ⟨by omega, fun _ => h4⟩
end Go.Proofs.Ytoojemdehmabhaa.Zd
