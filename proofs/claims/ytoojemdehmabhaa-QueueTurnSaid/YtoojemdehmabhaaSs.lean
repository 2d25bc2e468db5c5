/- slices.Sort and slices.Compact of a []int of the call's own, and what they leave: numbers, rising, each once. -/
import Derived.Test.YtoojemdehmabhaaSj
import Derived.Test.YtoojemdehmabhaaHx
import Derived.Test.YtoojemdehmabhaaHj
import Derived.Lib.OwnBridge
import Derived.Shelf.SortM.Plain
import Derived.Shelf.SortM.SortNone
import Derived.Shelf.SlicesG.CompactI
import Derived.KernelRfl
set_option linter.unusedVariables false
set_option linter.unusedSimpArgs false
set_option maxRecDepth 100000
namespace Go.Proofs.Ytoojemdehmabhaa.Ss
open Go.RowKit Go.MapKept Go.Shelf Hm Hs Hx Hj
def srt (l : List Int) : List Int := l.mergeSort fun x y => decide (x ≤ y)
theorem srt_perm (l : List Int) : (srt l).Perm l := List.mergeSort_perm _ _
theorem srt_len (l : List Int) : (srt l).length = l.length := (srt_perm l).length_eq
theorem srt_sorted (l : List Int) : (srt l).Pairwise (· ≤ ·) := by
  have := List.pairwise_mergeSort (le := fun x y : Int => decide (x ≤ y)) (fun a b c h1 h2 => by simp at *; omega) (fun a b => by simp; omega) l
  exact this.imp (fun {a b} h => by simpa using h)
theorem get!_eq {zs : List Int} {j : Nat} (h : j < zs.length) : zs.toArray[j]! = zs[j] := by simp [getElem!_pos, h]
theorem mem_compact {zs : List Int} (x : Int) : x ∈ Lib.compact zs ↔ x ∈ zs := by
  unfold Lib.compact Lib.compactUpTo
  rw [List.mem_map]
  constructor
  · rintro ⟨j, hj, rfl⟩
    have hj2 := List.mem_range.1 (List.mem_filter.1 hj).1
    rw [get!_eq hj2]
    exact List.getElem_mem hj2
  · intro hx
    have h1 : List.idxOf x zs < zs.length := List.idxOf_lt_length_iff.2 hx
    refine ⟨List.idxOf x zs, List.mem_filter.2 ⟨List.mem_range.2 h1, ?_⟩, by rw [get!_eq h1]; exact List.getElem_idxOf h1⟩
    unfold Lib.keeps
    rw [decide_eq_true_eq]
    by_cases h0 : List.idxOf x zs = 0
    · exact .inl h0
    · refine .inr ?_
      rw [get!_eq h1, get!_eq (by omega), List.getElem_idxOf h1]
      intro e
      have h2 : List.idxOf x zs - 1 < List.idxOf x zs := by omega
      have h3 := List.not_of_lt_findIdx (p := (· == x)) (xs := zs) (i := List.idxOf x zs - 1) h2
      simp at h3
      exact h3 e.symm
theorem compact_sorted {zs : List Int} (h : zs.Pairwise (· ≤ ·)) : (Lib.compact zs).Pairwise (· < ·) := by
  unfold Lib.compact Lib.compactUpTo
  rw [List.pairwise_map]
  refine List.Pairwise.imp_of_mem (R := fun i j : Nat => i < j) (fun {i j} hi hj hij => ?_) (List.pairwise_lt_range.filter _)
  have hi2 := List.mem_range.1 (List.mem_filter.1 hi).1
  obtain ⟨hj1, hj3⟩ := List.mem_filter.1 hj
  have hj2 := List.mem_range.1 hj1
  unfold Lib.keeps at hj3
  rw [decide_eq_true_eq] at hj3
  rcases hj3 with h0 | h0
  · omega
  · rw [get!_eq hj2, get!_eq (by omega)] at h0
    rw [get!_eq hi2, get!_eq hj2]
    rw [List.pairwise_iff_getElem] at h
    have a1 : zs[j - 1] ≤ zs[j] := h _ _ (by omega) hj2 (by omega)
    have a2 : zs[i] ≤ zs[j - 1] := by
      by_cases e : i = j - 1
      · subst e; exact Int.le_refl _
      · exact h _ _ hi2 (by omega) (by omega)
    omega
theorem compact_len (zs : List Int) : (Lib.compact zs).length ≤ zs.length := by
  unfold Lib.compact Lib.compactUpTo
  rw [List.length_map]
  exact Nat.le_trans (List.length_filter_le _ _) (by simp)
/-- the numbers, rising, each once -/
def onces (l : List Int) : List Int := Lib.compact (srt l)
theorem onces_mem (l : List Int) (x : Int) : x ∈ onces l ↔ x ∈ l := by unfold onces; rw [mem_compact]; exact (srt_perm l).mem_iff
theorem onces_sorted (l : List Int) : (onces l).Pairwise (· < ·) := compact_sorted (srt_sorted l)
theorem onces_len (l : List Int) : (onces l).length ≤ l.length := by unfold onces; have := compact_len (srt l); rw [srt_len] at this; exact this
theorem encZ_ins (l : List Int) : (ins l).flatten = l.map (Value.int .i64) := ins_flat l
theorem turns_put {w : World} {g q : Nat} {d : Array Int} {os : Array Obj} : Turns [g] w (Sort.grow (Sort.putRow (Value.int .i64) (Sort.ahead w q) g 0 d) os) := by
  refine ⟨rfl, rfl, rfl, by simp [Sort.grow, Sort.putRow, Sort.mapBlock, Sort.ahead], fun k hk hF => ?_⟩
  have hne : g ≠ k := fun e => hF (by simp [e])
  simp only [Sort.grow, Sort.putRow, Sort.mapBlock, Sort.ahead]
  rw [Array.getElem?_append_left (by simpa using hk), Array.getElem?_modify, if_neg hne]
theorem turns_put0 {w : World} {g q : Nat} {d : Array Int} : Turns [g] w (Sort.putRow (Value.int .i64) (Sort.ahead w q) g 0 d) := by
  refine ⟨rfl, rfl, rfl, by simp [Sort.putRow, Sort.mapBlock, Sort.ahead], fun k hk hF => ?_⟩
  have hne : g ≠ k := fun e => hF (by simp [e])
  simp only [Sort.putRow, Sort.mapBlock, Sort.ahead]
  rw [Array.getElem?_modify, if_neg hne]
theorem own_grow {w : World} {e : TypeId} {v : Value} {rows : List (List Value)} (h : OwnS e 1 w v rows) (os : Array Obj) : OwnS e 1 (Sort.grow w os) v rows :=
  h.move (fun k hk => by
    have := h.lt hk
    simp only [Sort.grow]
    rw [Array.getElem?_append_left this])
theorem sort_is (w : World) (e0 : TypeId) (v : Value) (l : List Int) (h : OwnS e0 1 w v (ins l)) (hn : l.length ≤ 1000000) : Calls Try.prog 86 #[v] w fun e w' => e = .returned (.tuple #[]) ∧ OwnS e0 1 w' v (ins (srt l)) ∧ Turns v.ownBlock.toList w w' := by
  by_cases hv : v = .slice none 0 0
  · subst hv
    have hl : l = [] := by
      obtain ⟨A, c, hv, _⟩ := h.form
      injection hv with e1 e2 e3
      rw [ins_len] at e2
      exact List.eq_nil_of_length_eq_zero e2.symm
    subst hl
    refine Calls.mono (AnyM.slices_Sort_int_none Try.sortA none 0 w) ?_
    rintro e w' ⟨rfl, rfl⟩
    exact ⟨rfl, by simpa [srt] using h, Turns.refl _ _⟩
  · have h1 := h.1
    rw [ins_len, encZ_ins] at h1
    obtain ⟨g, cap, rfl, _, hg, hc, _, hl, hH⟩ := Lib.holds_of_ownsRow h1 hv
    refine Calls.mono (AnyM.slices_Sort_int Try.sortA g 0 cap l w hH hg (by omega)) ?_
    rintro e w' ⟨rfl, n, os, rfl⟩
    refine ⟨rfl, own_grow ⟨?_, ?_⟩ os, ?_⟩
    · have := Lib.ownsRow_putRow (q := n) (k := l.length) (ys := srt l) h1 (srt_len l) (Nat.le_refl _)
      rw [List.take_of_length_le (by rw [srt_len]; exact Nat.le_refl _)] at this
      rw [ins_len, encZ_ins, srt_len]
      exact this
    · intro r hr
      obtain ⟨x, _, rfl⟩ := List.mem_map.1 hr
      rfl
    · simpa [Value.ownBlock] using turns_put
theorem compact_is (w : World) (e0 : TypeId) (v : Value) (l : List Int) (h : OwnS e0 1 w v (ins l)) (hn : l.length ≤ 1000000) : Calls Try.prog 87 #[v] w fun e w' => ∃ u, e = .returned u ∧ OwnS e0 1 w' u (ins (Lib.compact l)) ∧ Turns v.ownBlock.toList w w' ∧ u.ownBlock = v.ownBlock := by
  by_cases hv : v = .slice none 0 0
  · subst hv
    have hl : l = [] := by
      obtain ⟨A, c, hv, _⟩ := h.form
      injection hv with e1 e2 e3
      rw [ins_len] at e2
      exact List.eq_nil_of_length_eq_zero e2.symm
    subst hl
    refine Calls.mono (AnyG.slices_Compact_int_empty Try.compactA none 0 w) ?_
    rintro e w' ⟨rfl, rfl⟩
    exact ⟨_, rfl, h, Turns.refl _ _, rfl⟩
  · have h1 := h.1
    rw [ins_len, encZ_ins] at h1
    obtain ⟨g, cap, rfl, _, hg, hc, _, hl, hH⟩ := Lib.holds_of_ownsRow h1 hv
    refine Calls.mono (AnyG.slices_Compact_int Try.compactA g 0 cap l w hH (by omega) hc) ?_
    rintro e w' ⟨rfl, q, rfl⟩
    have hlen := compact_len l
    refine ⟨_, rfl, ⟨?_, ?_⟩, ?_, rfl⟩
    · have := Lib.ownsRow_putRow (q := q) (k := (Lib.compact l).length) (ys := Lib.compact l ++ List.replicate (l.length - (Lib.compact l).length) 0) h1 (by simp; omega) hlen
      rw [List.take_left] at this
      rw [ins_len, encZ_ins]
      exact this
    · intro r hr
      obtain ⟨x, _, rfl⟩ := List.mem_map.1 hr
      rfl
    · simpa [Value.ownBlock] using turns_put0
end Go.Proofs.Ytoojemdehmabhaa.Ss
