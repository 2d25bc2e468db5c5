/- The plain law of LeasePlays: a wallet and the document's stay alike. -/
import Derived.Test.YtcmaloncfdmpnaaLg
set_option linter.unusedVariables false
set_option linter.unusedSimpArgs false
set_option maxRecDepth 100000
namespace Go.Proofs.Ytcmaloncfdmpnaa.Li
open Go.RowKit Hm Hk Wa Lw La Ld Le Lf Lg
def Up (R : List Lea) : Prop := R.Pairwise (fun a b => a.key < b.key)
structure Rel (l R : List Lea) : Prop where
  up : Up R
  mem : ∀ x, x ∈ R ↔ x ∈ l
  once : KeyOnce l
theorem Up.keyOnce {R : List Lea} (h : Up R) : KeyOnce R := by
  unfold KeyOnce List.Nodup
  rw [List.pairwise_map]
  exact h.imp (fun {a b} h => by omega)
theorem once_nodup {l : List Lea} (h : KeyOnce l) : l.Nodup := by
  unfold KeyOnce List.Nodup at h
  rw [List.pairwise_map] at h
  exact h.imp (fun {a b} h e => h (by rw [e]))
theorem up_ext {a b : List Lea} (ha : Up a) (hb : Up b) (h : ∀ x, x ∈ a ↔ x ∈ b) : a = b := by
  have hp := (List.perm_ext_iff_of_nodup (once_nodup ha.keyOnce) (once_nodup hb.keyOnce)).2 h
  exact List.Perm.eq_of_pairwise (le := fun x y : Lea => x.key < y.key) (fun x y _ _ h1 h2 => by omega) ha hb hp
theorem find_iff {l : List Lea} (h : KeyOnce l) (k : Int) (x : Lea) : find l k = some x ↔ x ∈ l ∧ x.key = k := by
  constructor
  · intro hf
    exact ⟨find_mem hf, find_key hf⟩
  · rintro ⟨hm, hk⟩
    cases hf : find l k with
    | none =>
      unfold find at hf
      have := List.find?_eq_none.1 hf x hm
      simp [hk] at this
    | some y =>
      rw [same_of_key h (find_mem hf) hm (by rw [find_key hf, hk])]
theorem find_none_iff (l : List Lea) (k : Int) : find l k = none ↔ ∀ x ∈ l, x.key ≠ k := by
  unfold find
  rw [List.find?_eq_none]
  simp
theorem Rel.find {l R : List Lea} (h : Rel l R) (k : Int) : Lw.find l k = Lw.find R k := by
  cases hf : Lw.find R k with
  | none =>
    rw [find_none_iff] at hf ⊢
    exact fun x hx => hf x ((h.mem x).2 hx)
  | some x =>
    rw [find_iff h.up.keyOnce] at hf
    rw [find_iff h.once]
    exact ⟨(h.mem x).1 hf.1, hf.2⟩
theorem Rel.left {l R : List Lea} (h : Rel l R) (k now : Int) : Lw.left l k now = Lw.left R k now := by
  unfold Lw.left
  rw [h.find k]
theorem Rel.len {l R : List Lea} (h : Rel l R) : l.length = R.length :=
  ((List.perm_ext_iff_of_nodup (once_nodup h.once) (once_nodup h.up.keyOnce)).2 (fun x => (h.mem x).symm)).length_eq
theorem Rel.nil : Rel [] [] := ⟨by simp [Up], by simp, by simp [KeyOnce]⟩
theorem skeys_up {l : List Lea} (h : KeyOnce l) : (skeys (enc l)).Pairwise (· < ·) := by
  have hmap : (enc l).map (·.1) = l.map Lea.key := by unfold enc; rw [List.map_map]; rfl
  unfold skeys
  rw [hmap]
  have h1 := List.pairwise_mergeSort (le := leI) (fun a b c h1 h2 => by simp only [leI, decide_eq_true_eq] at *; omega) (fun a b => by simp only [leI, Bool.or_eq_true, decide_eq_true_eq]; omega) (l.map Lea.key)
  have h2 : ((l.map Lea.key).mergeSort leI).Nodup := (List.mergeSort_perm _ _).nodup_iff.2 h
  refine (h1.and h2).imp (fun {a b} h => ?_)
  obtain ⟨h3, h4⟩ := h
  simp only [leI, decide_eq_true_eq] at h3
  omega
theorem mem_skeys (l : List Lea) (k : Int) : k ∈ skeys (enc l) ↔ ∃ x ∈ l, x.key = k := by
  have hmap : (enc l).map (·.1) = l.map Lea.key := by unfold enc; rw [List.map_map]; rfl
  unfold skeys
  rw [hmap, List.mem_mergeSort, List.mem_map]
theorem Rel.sl {l R : List Lea} (h : Rel l R) : La.sl l = R := by
  have hk : ∀ k ∈ skeys (enc l), ((Lw.find l k).getD Lea.zero).key = k ∧ (Lw.find l k).getD Lea.zero ∈ l := fun k hk => by
    obtain ⟨x, hx, e⟩ := (mem_skeys l k).1 hk
    rw [(find_iff h.once k x).2 ⟨hx, e⟩]
    exact ⟨e, hx⟩
  refine up_ext ?_ h.up (fun x => ?_)
  · unfold Up La.sl
    rw [List.pairwise_map]
    refine List.Pairwise.imp_of_mem ?_ (skeys_up h.once)
    intro a b ha hb hab
    rw [(hk a ha).1, (hk b hb).1]
    exact hab
  · rw [h.mem]
    unfold La.sl
    constructor
    · intro hx
      obtain ⟨k, hk1, rfl⟩ := List.mem_map.1 hx
      exact (hk k hk1).2
    · intro hx
      refine List.mem_map.2 ⟨x.key, (mem_skeys l _).2 ⟨x, hx, rfl⟩, ?_⟩
      rw [(find_iff h.once x.key x).2 ⟨hx, rfl⟩]
      rfl
theorem Rel.filter {l R : List Lea} (h : Rel l R) (f : Lea → Bool) : Rel (l.filter f) (R.filter f) :=
  ⟨List.Pairwise.filter _ h.up, fun x => by rw [List.mem_filter, List.mem_filter, h.mem], by
    unfold KeyOnce
    exact List.Nodup.sublist (List.Sublist.map _ List.filter_sublist) h.once⟩
theorem pst_done (x : Lea) : ∀ (S acc : List Lea), S.foldl (pst x) (acc, true) = (acc ++ S, true)
  | [], acc => by simp
  | o :: S, acc => by
    rw [List.foldl_cons]
    have : pst x (acc, true) o = (acc ++ [o], true) := by simp [pst]
    rw [this, pst_done x S]
    simp
theorem pin_go (x : Lea) : ∀ (S acc : List Lea), Up S → (∀ o ∈ S, o.key ≠ x.key) → pend x (S.foldl (pst x) (acc, false)) = acc ++ S.filter (fun o => decide (o.key < x.key)) ++ [x] ++ S.filter (fun o => decide (x.key < o.key))
  | [], acc, _, _ => by simp [pend]
  | o :: S, acc, h, hne => by
    obtain ⟨h1, h2⟩ := List.pairwise_cons.1 h
    have hno := hne o (by simp)
    rw [List.foldl_cons]
    by_cases hgt : o.key > x.key
    · have : pst x (acc, false) o = (acc ++ [x] ++ [o], true) := by simp [pst, hgt]
      rw [this, pst_done]
      have e2 : S.filter (fun y => decide (y.key < x.key)) = [] := List.filter_eq_nil_iff.2 (fun y hy => by have := h1 y hy; simp; omega)
      have e3 : S.filter (fun y => decide (x.key < y.key)) = S := List.filter_eq_self.2 (fun y hy => by have := h1 y hy; simp; omega)
      have h5 : ¬ o.key < x.key := by omega
      have h6 : x.key < o.key := hgt
      simp [pend, e2, e3, h5, h6]
    · have : pst x (acc, false) o = (acc ++ [o], false) := by simp [pst, hgt]
      rw [this, pin_go x S _ h2 (fun y hy => hne y (by simp [hy]))]
      have h5 : o.key < x.key := by omega
      have h6 : ¬ x.key < o.key := by omega
      simp [h5, h6]
theorem pin_eq {x : Lea} {S : List Lea} (h : Up S) (hne : ∀ o ∈ S, o.key ≠ x.key) : pin x S = S.filter (fun o => decide (o.key < x.key)) ++ [x] ++ S.filter (fun o => decide (x.key < o.key)) := by
  unfold pin
  rw [pin_go x S [] h hne]
  simp
theorem Rel.put {l R : List Lea} (h : Rel l R) (x : Lea) : ∃ n l' R', putR l x = (n, l') ∧ putD R x = (n, R') ∧ Rel l' R' ∧ (∀ y ∈ l', y ∈ l ∨ y = x) ∧ l'.length ≤ l.length + 1 := by
  unfold putR putD
  cases badB x with
  | true => exact ⟨1, l, R, rfl, rfl, h, fun y hy => .inl hy, by omega⟩
  | false =>
    simp only [Bool.false_eq_true, if_false]
    rw [h.find]
    cases hf : Lw.find R x.key with
    | some y => exact ⟨5, l, R, rfl, rfl, h, fun y hy => .inl hy, by omega⟩
    | none =>
      have hR := (find_none_iff R x.key).1 hf
      have hl : ∀ y ∈ l, y.key ≠ x.key := fun y hy => hR y ((h.mem y).2 hy)
      refine ⟨0, l ++ [x], pin x R, rfl, rfl, ⟨?_, ?_, ?_⟩, fun y hy => by simpa using hy, by simp⟩
      · rw [pin_eq h.up hR]
        unfold Up
        rw [List.pairwise_append, List.pairwise_append]
        refine ⟨⟨List.Pairwise.filter _ h.up, by simp, fun a ha b hb => ?_⟩, List.Pairwise.filter _ h.up, fun a ha b hb => ?_⟩
        · have := (List.mem_filter.1 ha).2
          simp only [decide_eq_true_eq] at this
          rw [List.mem_singleton.1 hb]
          exact this
        · have hb2 := (List.mem_filter.1 hb).2
          simp only [decide_eq_true_eq] at hb2
          rcases List.mem_append.1 ha with ha | ha
          · have := (List.mem_filter.1 ha).2
            simp only [decide_eq_true_eq] at this
            omega
          · rw [List.mem_singleton.1 ha]
            exact hb2
      · intro y
        rw [pin_eq h.up hR, List.mem_append, List.mem_append, List.mem_append, List.mem_filter, List.mem_filter, h.mem]
        simp only [decide_eq_true_eq, List.mem_singleton]
        constructor
        · rintro ((⟨h1, _⟩ | h1) | ⟨h1, _⟩)
          · exact .inl h1
          · exact .inr h1
          · exact .inl h1
        · rintro (h1 | h1)
          · rcases Int.lt_trichotomy y.key x.key with h2 | h2 | h2
            · exact .inl (.inl ⟨h1, h2⟩)
            · exact absurd h2 (hl y h1)
            · exact .inr ⟨h1, h2⟩
          · exact .inl (.inr h1)
      · unfold KeyOnce
        rw [List.map_append, List.nodup_append]
        refine ⟨h.once, by simp, fun a ha b hb => ?_⟩
        obtain ⟨y, hy, rfl⟩ := List.mem_map.1 ha
        simp at hb
        subst hb
        exact hl y hy
theorem at_key {R : List Lea} (h : Up R) {i j : Nat} {x y : Lea} (hi : R[i]? = some x) (hj : R[j]? = some y) (hk : x.key = y.key) : i = j := by
  obtain ⟨a1, b1⟩ := List.getElem?_eq_some_iff.1 hi
  obtain ⟨a2, b2⟩ := List.getElem?_eq_some_iff.1 hj
  have hp := List.pairwise_iff_getElem.1 h
  rcases Nat.lt_trichotomy i j with h1 | h1 | h1
  · have := hp i j a1 a2 h1
    rw [b1, b2] at this
    omega
  · exact h1
  · have := hp j i a2 a1 h1
    rw [b1, b2] at this
    omega
theorem Rel.close {l R : List Lea} (h : Rel l R) (k g : Int) : closeR l k g = closeD R k g ∧ Rel (delL l k) (closeL R k) := by
  constructor
  · unfold closeR closeD
    rw [h.find]
    cases Lw.find R k <;> rfl
  · have hd : KeyOnce (delL l k) := by
      unfold KeyOnce delL
      exact List.Nodup.sublist (List.Sublist.map _ List.filter_sublist) h.once
    have hm : ∀ x, x ∈ delL l k ↔ x ∈ l ∧ x.key ≠ k := fun x => by unfold delL; rw [List.mem_filter]; simp
    unfold closeL
    rcases pos_is R k with ⟨h1, h2⟩ | ⟨i, x, h1, h2, h3, h4⟩
    · rw [if_pos (by omega)]
      have hR := (find_none_iff R k).1 h2
      refine ⟨h.up, fun x => ?_, hd⟩
      rw [hm, ← h.mem]
      exact ⟨fun hx => ⟨hx, hR x hx⟩, fun hx => hx.1⟩
    · rw [if_neg (by omega), h4, Int.toNat_natCast]
      refine ⟨List.Pairwise.sublist (List.eraseIdx_sublist _ _) h.up, fun y => ?_, hd⟩
      rw [hm, ← h.mem, List.mem_eraseIdx_iff_getElem?]
      constructor
      · rintro ⟨j, hj, hy⟩
        exact ⟨List.mem_of_getElem? hy, fun e => hj (at_key h.up hy h1 (by rw [e, h2]))⟩
      · rintro ⟨hy, hne⟩
        obtain ⟨j, hj⟩ := List.getElem?_of_mem hy
        refine ⟨j, fun e => hne ?_, hj⟩
        subst e
        rw [h1] at hj
        injection hj with e
        rw [← e, h2]
theorem Rel.spend {l R : List Lea} (h : Rel l R) (k cost now : Int) : ∃ g ok l' R', spendR l k cost now = (g, ok, l') ∧ spendD R k cost now = (g, ok, R') ∧ Rel l' R' ∧ (∀ y ∈ l', ∃ z ∈ l, y.key = z.key) ∧ l'.length = l.length := by
  unfold spendR spendD
  rw [h.left, h.find]
  by_cases h1 : cost < 1
  · rw [if_pos h1, if_pos h1]
    exact ⟨_, _, _, _, rfl, rfl, h, fun y hy => ⟨y, hy, rfl⟩, rfl⟩
  · rw [if_neg h1, if_neg h1]
    by_cases h2 : cost > Lw.left R k now
    · rw [if_pos h2, if_pos h2]
      exact ⟨_, _, _, _, rfl, rfl, h, fun y hy => ⟨y, hy, rfl⟩, rfl⟩
    · rw [if_neg h2, if_neg h2]
      rcases pos_is R k with ⟨p1, p2⟩ | ⟨i, x, p1, p2, p3, p4⟩
      · rw [p2]
        exact ⟨_, _, _, _, rfl, rfl, h, fun y hy => ⟨y, hy, rfl⟩, rfl⟩
      · rw [p3, p4, Int.toNat_natCast]
        dsimp only
        generalize wrap64 (x.spent + cost) = s
        have hkey : (setL l k s).map Lea.key = l.map Lea.key := by
          unfold setL
          rw [List.map_map]
          refine List.map_congr_left (fun y _ => ?_)
          simp only [Function.comp]
          split <;> rfl
        have hxl : x ∈ l := (h.mem x).1 (List.mem_of_getElem? p1)
        have hsm : ∀ y, y ∈ setL l k s ↔ y = { x with spent := s } ∨ (y ∈ l ∧ y.key ≠ k) := fun y => by
          unfold setL
          rw [List.mem_map]
          constructor
          · rintro ⟨z, hz, rfl⟩
            by_cases e : z.key = k
            · have : z = x := same_of_key h.once hz hxl (by rw [e, p2])
              subst this
              simp [e]
            · simp [e, hz]
          · rintro (rfl | ⟨hy, hne⟩)
            · exact ⟨x, hxl, by simp [p2]⟩
            · exact ⟨y, hy, by simp [hne]⟩
        refine ⟨_, _, _, _, rfl, rfl, ⟨?_, fun y => ?_, ?_⟩, fun y hy => ?_, by unfold setL; rw [List.length_map]⟩
        · unfold Up
          have e1 : (R.set i { x with spent := s }).map Lea.key = R.map Lea.key := by
            rw [List.map_set]
            obtain ⟨hi, e⟩ := List.getElem?_eq_some_iff.1 p1
            refine List.ext_getElem? (fun j => ?_)
            rw [List.getElem?_set]
            split
            · rename_i ej
              subst ej
              rw [List.length_map, if_pos hi, List.getElem?_map, p1]
              rfl
            · rfl
          have h5 : (R.map Lea.key).Pairwise (· < ·) := by rw [List.pairwise_map]; exact h.up
          rw [← e1, List.pairwise_map] at h5
          exact h5
        · rw [hsm, ← h.mem y]
          have hi := (List.getElem?_eq_some_iff.1 p1).1
          constructor
          · intro hy
            obtain ⟨j, hj⟩ := List.getElem?_of_mem hy
            rw [List.getElem?_set] at hj
            split at hj
            · rename_i ej
              subst ej
              injection hj with e
              exact .inl e.symm
            · rename_i ej
              exact .inr ⟨List.mem_of_getElem? hj, fun e => ej (at_key h.up p1 hj (by rw [e, p2]))⟩
          · rintro (rfl | ⟨hy, hne⟩)
            · exact List.mem_of_getElem? (i := i) (by rw [List.getElem?_set, if_pos rfl, if_pos hi])
            · obtain ⟨j, hj⟩ := List.getElem?_of_mem hy
              refine List.mem_of_getElem? (i := j) ?_
              rw [List.getElem?_set, if_neg]
              · exact hj
              · rintro rfl
                rw [p1] at hj
                injection hj with e
                exact hne (by rw [← e, p2])
        · unfold KeyOnce
          rw [hkey]
          exact h.once
        · rcases (hsm y).1 hy with rfl | ⟨h5, _⟩
          · exact ⟨x, hxl, rfl⟩
          · exact ⟨y, h5, rfl⟩
end Go.Proofs.Ytcmaloncfdmpnaa.Li
