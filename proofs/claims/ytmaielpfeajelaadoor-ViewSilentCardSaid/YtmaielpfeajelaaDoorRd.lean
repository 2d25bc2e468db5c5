/- ring.Set's Next. -/
import Derived.Test.YtmaielpfeajelaaDoorRc
set_option linter.unusedVariables false
set_option linter.unusedSimpArgs false
set_option maxRecDepth 100000
namespace Go.Proofs.YtmaielpfeajelaaDoor.Rd
open Go.RowKit Go.Shelf Hm Hs Hc Hd Hx Hy Ra Rg Rb Rc
attribute [local go_sem] Oper.semAt_some
theorem next_none {l : List Nat} {i : Nat} (h : ∀ y ∈ l, y ≤ i) : l.find? (fun k => decide (i < k)) = none := by
  rw [List.find?_eq_none]
  intro y hy
  have := h y hy
  simp; omega
theorem next_hit {l q r : List Nat} {i k : Nat} (h : l = (q ++ [k]) ++ r) (hq : ∀ y ∈ q, y ≤ i) (hk : i < k) : nextIn l i = k := by
  have e : l.find? (fun k => decide (i < k)) = some k := by
    rw [h, List.append_assoc, List.find?_append, next_none hq]
    simp [hk]
  unfold nextIn
  rw [e]
theorem next_first {k i : Nat} {r : List Nat} (h : ∀ y ∈ k :: r, y ≤ i) : nextIn (k :: r) i = min k i := by
  unfold nextIn
  rw [next_none h]
theorem next_nil (i : Nat) : nextIn [] i = i := rfl
/-- a block shut for deferred calls lies as it lay -/
theorem kept_defer {W W' : World} {D B : Nat} {row : Option Nat} {o : Obj} (h : W.heap[D]? = some o) (hD : D < B) (hg : W.grownBy W' row) (hr : ∀ r, row = some r → B ≤ r ∧ ∃ o : Obj, W.heap[r]? = some o ∧ o.isCells = false) : W'.heap[D]? = some o := by
  have hl := (Array.getElem?_eq_some_iff.1 h).1
  rw [hg.block D hl (fun e => by have := (hr D e.symm).1; omega)]
  exact h
set_option maxHeartbeats 4000000 in
theorem next_in (n : Nat) (hn : 3 ≤ n) (s N i : Nat) (hs : s < 18446744073709551616) (hN : 1 ≤ N ∧ N ≤ 64) (hi : i < N) (w : World) (hT : Tab w) :
    CallsIn Fence.wide n Tryd.prog 28 #[.int .u64 s, .int .i64 N, .int .i64 i] w fun e W' => e = .returned (.int .i64 (nextIn (nod (s &&& (2 ^ N - 1))) i)) ∧ Below w.heap.size w W' := by
  have h1 : 1 ≤ n := by omega
  have hp : 2 ^ N ≤ 2 ^ 64 := Nat.pow_le_pow_right (by omega) hN.2
  have gand : bits .and .u64 (s : Int) ((2 ^ N - 1 : Nat) : Int) = ((s &&& (2 ^ N - 1) : Nat) : Int) := u64_and_nat s (2 ^ N - 1) hs (by omega)
  have hrl : s &&& (2 ^ N - 1) < 18446744073709551616 := Nat.lt_of_le_of_lt Nat.and_le_left hs
  have Rh := Lib.hid (fun w => callsIn_wide (n := n - 1).2 (right_yes (N : Int) ⟨by omega, by omega⟩ w))
  have Ah := Lib.hid (fun w => callsIn_wide (n := n - 1).2 (all_yes N hN w))
  obtain ⟨m, hm⟩ : ∃ m, 2 ^ N - 1 = m := ⟨_, rfl⟩
  rw [hm] at gand hrl Ah ⊢
  obtain ⟨r, hr⟩ : ∃ r, s &&& m = r := ⟨_, rfl⟩
  rw [hr] at gand hrl ⊢
  have g1 : decide ((i : Int) < 0) = false := decide_eq_false (by omega)
  have g2 : decide ((i : Int) ≥ (N : Int)) = false := decide_eq_false (by omega)
  have hil : (i : Int) < (N : Int) := by omega
  have hB0 : Below w.heap.size w ((w.alloc (.cells #[.int .i64 i] 3)).alloc (.cells #[.int .i64 0] 3)) := ((Below.refl _ w).alloc (Nat.le_refl _) _).alloc (by simp) _
  have bI := (Blk.new w #[.int .i64 i] 3).alloc (.cells #[.int .i64 0] 3)
  have bR := Blk.new (w.alloc (.cells #[.int .i64 i] 3)) #[.int .i64 0] 3
  rw [World.size_alloc] at bR
  have hsz : w.heap.size + 2 ≤ ((w.alloc (.cells #[.int .i64 i] 3)).alloc (.cells #[.int .i64 0] 3)).heap.size := by simp
  clear hm hr hp hN
  refine callsIn_of_wp_marks Tryd.func28 rfl trivial ?_ rfl
  simp only [Tryd.ntmps28, List.size_toArray, List.length_cons, List.length_nil, Nat.reduceAdd, Nat.reduceSub, Array.replicate_succ, Array.replicate_zero, List.push_toArray, List.append_toArray, List.nil_append, List.cons_append]
  gi_wp2_with (refine ⟨trivial, ?_⟩; gi_at_call 45; refine (Rh.out _).mono ?_; rintro e w1 ⟨rfl, t1⟩; have cI1 : w1.cell? ⟨w.heap.size, 0, none⟩ = some (.int .i64 i) := (bI.turns t1 (by simp)).cell 0)
  have bI1 := bI.turns t1 (by simp)
  have bR1 := bR.turns t1 (by simp)
  have hB1 := hB0.trans (t1.isBelow.mono hB0.size)
  have hsz1 : w.heap.size + 2 ≤ w1.heap.size := Nat.le_trans hsz t1.size
  clear bI bR hB0 hsz t1 cI1
  gi_wp2_with (refine ⟨trivial, ?_⟩; gi_at_call 30; refine (Ah.out _).mono ?_; rintro e w2 ⟨rfl, t2⟩)
  have bI2 := bI1.turns t2 (by simp)
  have bR2 := bR1.turns t2 (by simp)
  have hB2 := hB1.trans (t2.isBelow.mono hB1.size)
  have hsz2 : w.heap.size + 2 ≤ w2.heap.size := Nat.le_trans hsz1 t2.size
  clear bI1 bR1 hB1 hsz1 t2
  gi_wp2_with (refine ⟨trivial, ?_⟩; gi_at_call 44; refine (each_in (n - 1) _ _).mono ?_; rintro e w' ⟨rfl, rfl⟩)
  have bI3 := bI2.alloc (.cells #[.int .u64 r] 40)
  have bR3 := bR2.alloc (.cells #[.int .u64 r] 40)
  have bS := Blk.new w2 #[.int .u64 r] 40
  have hB3 := hB2.alloc (by omega) (.cells #[.int .u64 r] 40)
  have hw2 : w.heap.size ≤ (w2.alloc (.cells #[.int .u64 r] 40)).heap.size := by simp; omega
  refine wpIn_rangeFunc_ownF rfl h1 (gf := 53) (lb := #[.pointer (some ⟨w2.heap.size, 0, none⟩)]) rfl trivial (enters_of Tryd.func53 (by kernel_rfl) rfl)
    (each_stops (n - 1) (by omega) w2.heap.size w.heap.size r hrl _ (by simp) hT.lt hw2 (bS.cell 0) (hT.below hB3 hT.lt)) belowK_t (belowK_b hw2) (Below.refl _ _) (fun _ => rfl)
    (fun pre W => ((∀ y ∈ pre, y ≤ i) ∧ W.cell? ⟨w.heap.size, 0, none⟩ = some (.int .i64 i) ∧ W.cell? ⟨w.heap.size + 1, 0, none⟩ = some (.int .i64 0) ∧ W.frozen? ⟨w.heap.size + 1, 0, none⟩ = false) ∧ Below w.heap.size w W)
    (fun c pre W => (c = .ret ∧ (∃ (q : List Nat) (k : Nat), pre = q ++ [k] ∧ (∀ y ∈ q, y ≤ i) ∧ i < k ∧ W.cell? ⟨w.heap.size + 1, 0, none⟩ = some (.int .i64 k))) ∧ Below w.heap.size w W)
    (OwnFrom.and (Own.from (fun s A B row hs hg hr => ⟨hs.1, cell_kept hs.2.1 hg hr, cell_kept hs.2.2.1 hg hr, (frozen_kept hs.2.2.1 hg hr).trans hs.2.2.2⟩) _) (ownFrom_below (Nat.le_refl _) hw2))
    (fun c => OwnFrom.and (Own.from (fun s A B row hs hg hr => by obtain ⟨e, q, k, e2, h3, h4, h5⟩ := hs; exact ⟨e, q, k, e2, h3, h4, cell_kept h5 hg hr⟩) _) (ownFrom_below (Nat.le_refl _) hw2))
    ⟨⟨by simp, bI3.cell 0, bR3.cell 0, bR3.frozen 0⟩, hB3⟩
    (fun x => { tmps := #[.int .u64 s, .int .i64 N, .int .i64 i, undef, undef, .pointer (some ⟨w.heap.size, 0, none⟩), .pointer (some ⟨w.heap.size + 1, 0, none⟩), .int .u64 r, .int .i64 x, undef, .int .i64 N, .bool true, .bool false, .bool false, .int .i64 i, .bool false, .bool false, .bool false, .int .i64 i, .int .i64 N, .bool false, .bool false, .int .u64 s, .int .i64 N, .int .u64 m, .int .u64 r, .int .u64 r, .func (.func 53) #[] #[.pointer (some ⟨w2.heap.size, 0, none⟩)], .int .i64 x, undef, undef, undef, undef, undef, undef, undef, undef, undef, undef, undef], defers := [] }) ?assign ?body ?done ?stop
  case assign =>
    intro l x W K hK
    gi_wp2
    exact hK
  case body =>
    rintro l pre x W ⟨⟨hp, hcw, hcr, hfr⟩, hB⟩ _
    by_cases hx : i < x
    · have q1 : (i : Int) < (x : Int) := by omega
      have q2 : decide ((x : Int) > (i : Int)) = true := decide_eq_true q1
      gi_wp2
      exact ⟨KeepsOthers.setCell _ _ _, ⟨rfl, pre, x, rfl, hp, hx, World.cell?_setCell_same' _ _ _ (by rw [hcr]; rfl)⟩, hB.setCell (p := ⟨w.heap.size + 1, 0, none⟩) (by simp) _⟩
    · have q1 : ¬ (i : Int) < (x : Int) := by omega
      have q2 : decide ((x : Int) > (i : Int)) = false := decide_eq_false q1
      gi_wp2
      refine ⟨KeepsOthers.refl _, Below.refl _ _, ⟨fun y hy => ?_, hcw, hcr, hfr⟩, hB⟩
      rcases List.mem_append.1 hy with hy | hy
      · exact hp y hy
      · rw [List.mem_singleton.1 hy]; omega
  case stop =>
    rintro D c pre W hD hpre ⟨⟨rfl, q, k, rfl, hq, hk, hcr⟩, hB⟩ hK
    obtain ⟨t, ht⟩ := hpre
    have hnx := next_hit ht.symm hq hk
    gi_wp2
    refine ⟨by simp, .inl ⟨_, _, rfl, run_takeDeferred hK, ?_⟩⟩
    have hc5 := cell_kept hcr (grownBy_putObj' _ D (.deferred none)) (fun r e => by cases e; exact ⟨_, hK, rfl⟩)
    refine ⟨.int .i64 k, ?_, by rw [hnx], hB.trans (belowK_b (w := w) (Nat.le_refl _) W D _ _ (by omega) hK rfl rfl)⟩
    simp [results, Tryd.f28, go_sem, hc5]
  case done =>
    rintro D ys W hD rfl ⟨⟨hne, hcw, hcr, hfr⟩, hB⟩ hK
    have hDW := (Array.getElem?_eq_some_iff.1 hK).1
    gi_wp2_with (refine ⟨trivial, ?_⟩; gi_at_call 44; refine (each_in (n - 1) _ _).mono ?_; rintro e w' ⟨rfl, rfl⟩)
    have hBa := hB.alloc hB.size (.cells #[.int .u64 r] 40)
    have bS2 := Blk.new W #[.int .u64 r] 40
    have hw3 : w.heap.size ≤ (W.alloc (.cells #[.int .u64 r] 40)).heap.size := hBa.size
    have hKa : (W.alloc (.cells #[.int .u64 r] 40)).heap[D]? = some (.deferred (some [])) := (Below.heap_alloc _ _ _ hDW).trans hK
    have hDa : D < (W.alloc (.cells #[.int .u64 r] 40)).heap.size := by simp; omega
    refine wpIn_rangeFunc_ownF rfl h1 (gf := 53) (lb := #[.pointer (some ⟨W.heap.size, 0, none⟩)]) rfl trivial (enters_of Tryd.func53 (by kernel_rfl) rfl)
      (each_stops (n - 1) (by omega) W.heap.size w.heap.size r hrl _ (by simp) hT.lt hw3 (bS2.cell 0) (hT.below hBa hT.lt)) belowK_t (belowK_b hw3) (Below.refl _ _) (fun _ => rfl)
      (fun pre W => ((pre = [] ∧ W.cell? ⟨w.heap.size, 0, none⟩ = some (.int .i64 i) ∧ W.cell? ⟨w.heap.size + 1, 0, none⟩ = some (.int .i64 0) ∧ W.frozen? ⟨w.heap.size + 1, 0, none⟩ = false) ∧ W.heap[D]? = some (.deferred (some []))) ∧ Below w.heap.size w W)
      (fun c pre W => ((c = .ret ∧ (∃ k : Nat, pre = [k] ∧ W.cell? ⟨w.heap.size + 1, 0, none⟩ = some (.int .i64 (min k i : Nat)))) ∧ W.heap[D]? = some (.deferred (some []))) ∧ Below w.heap.size w W)
      (OwnFrom.and (OwnFrom.and (Own.from (fun s A B row hs hg hr => ⟨hs.1, cell_kept hs.2.1 hg hr, cell_kept hs.2.2.1 hg hr, (frozen_kept hs.2.2.1 hg hr).trans hs.2.2.2⟩) _) (fun s A B row hs hg hr => kept_defer hs hDa hg hr)) (ownFrom_below (Nat.le_refl _) hw3))
      (fun c => OwnFrom.and (OwnFrom.and (Own.from (fun s A B row hs hg hr => by obtain ⟨e, k, e2, h5⟩ := hs; exact ⟨e, k, e2, cell_kept h5 hg hr⟩) _) (fun s A B row hs hg hr => kept_defer hs hDa hg hr)) (ownFrom_below (Nat.le_refl _) hw3))
      ⟨⟨⟨rfl, ((Turns.refl [] W).alloc _).old hcw, ((Turns.refl [] W).alloc _).old hcr, (((Turns.refl [] W).alloc _).frozen (World.block_lt_of_cell? W _ hcr) (by simp)).trans hfr⟩, hKa⟩, hBa⟩
      (fun x => { tmps := #[.int .u64 s, .int .i64 N, .int .i64 i, undef, undef, .pointer (some ⟨w.heap.size, 0, none⟩), .pointer (some ⟨w.heap.size + 1, 0, none⟩), .int .u64 r, undef, .int .i64 x, .int .i64 N, .bool true, .bool false, .bool false, .int .i64 i, .bool false, .bool false, .bool false, .int .i64 i, .int .i64 N, .bool false, .bool false, .int .u64 s, .int .i64 N, .int .u64 m, .int .u64 r, .int .u64 r, .func (.func 53) #[] #[.pointer (some ⟨w2.heap.size, 0, none⟩)], undef, undef, undef, undef, undef, .int .u64 r, .func (.func 53) #[] #[.pointer (some ⟨W.heap.size, 0, none⟩)], .int .i64 x, undef, undef, undef, undef], defers := [] }) ?assign2 ?body2 ?done2 ?stop2
    case assign2 =>
      intro l x W K hK
      gi_wp2
      exact hK
    case body2 =>
      rintro l pre x W' ⟨⟨⟨rfl, hcw2, hcr2, hfr2⟩, hK2⟩, hB2⟩ _
      have hmin : min (x : Int) (i : Int) = ((min x i : Nat) : Int) := by omega
      gi_wp2
      refine ⟨KeepsOthers.setCell _ _ _, ⟨⟨rfl, x, rfl, ?_⟩, ?_⟩, hB2.setCell (p := ⟨w.heap.size + 1, 0, none⟩) (by simp) _⟩
      · rw [← hmin]
        exact World.cell?_setCell_same' _ _ _ (by rw [hcr2]; rfl)
      · rw [Below.heap_setCell _ _ _ _ (by simp at hD ⊢; omega)]
        exact hK2
    case stop2 =>
      rintro D2 c pre W' hD2 hpre ⟨⟨⟨rfl, k, rfl, hcr2⟩, hK2⟩, hB2⟩ hKb
      obtain ⟨t, ht⟩ := hpre
      have hnx : nextIn (nod r) i = min k i := by
        rw [← ht] at hne ⊢
        exact next_first hne
      gi_wp2
      have hDD : D ≠ D2 := by simp at hD2; omega
      have hK3 : (W'.putObj D2 (.deferred none)).heap[D]? = some (.deferred (some [])) := (World.putObj_heap_other hDD).trans hK2
      refine ⟨by simp, .inl ⟨_, _, rfl, run_takeDeferred hKb, ?_⟩⟩
      refine ⟨by simp, .inl ⟨_, _, rfl, run_takeDeferred hK3, ?_⟩⟩
      have hc5 := cell_kept hcr2 (grownBy_putObj' _ D2 (.deferred none)) (fun r e => by cases e; exact ⟨_, hKb, rfl⟩)
      have hc6 := cell_kept hc5 (grownBy_putObj' _ D (.deferred none)) (fun r e => by cases e; exact ⟨_, hK3, rfl⟩)
      refine ⟨.int .i64 (min k i : Nat), ?_, by rw [hnx], (hB2.trans (belowK_b (w := w) (Nat.le_refl _) W' D2 _ _ (by simp at hD2; omega) hKb rfl rfl)).trans (belowK_b (w := w) (Nat.le_refl _) _ D _ _ (by omega) hK3 rfl rfl)⟩
      simp [results, Tryd.f28, go_sem, hc6]
    case done2 =>
      rintro D2 ys W' hD2 rfl ⟨⟨⟨hnil, hcw2, hcr2, hfr2⟩, hK2⟩, hB2⟩ hKb
      have hnx : nextIn (nod r) i = i := by rw [hnil]; rfl
      have hDD : D ≠ D2 := by simp at hD2; omega
      gi_wp2
      have hKb' : (W'.setCell ⟨w.heap.size + 1, 0, none⟩ (.int .i64 i)).heap[D2]? = some (.deferred (some [])) := by
        rw [Below.heap_setCell _ _ _ _ (by simp at hD2 ⊢; omega)]; exact hKb
      have hK2' : (W'.setCell ⟨w.heap.size + 1, 0, none⟩ (.int .i64 i)).heap[D]? = some (.deferred (some [])) := by
        rw [Below.heap_setCell _ _ _ _ (by simp at hD ⊢; omega)]; exact hK2
      have hK3 : ((W'.setCell ⟨w.heap.size + 1, 0, none⟩ (.int .i64 i)).putObj D2 (.deferred none)).heap[D]? = some (.deferred (some [])) := (World.putObj_heap_other hDD).trans hK2'
      refine ⟨by simp, .inl ⟨_, _, rfl, run_takeDeferred hKb', ?_⟩⟩
      refine ⟨by simp, .inl ⟨_, _, rfl, run_takeDeferred hK3, ?_⟩⟩
      have hc4 := World.cell?_setCell_same' W' ⟨w.heap.size + 1, 0, none⟩ (.int .i64 i) (by rw [hcr2]; rfl)
      have hc5 := cell_kept hc4 (grownBy_putObj' _ D2 (.deferred none)) (fun r e => by cases e; exact ⟨_, hKb', rfl⟩)
      have hc6 := cell_kept hc5 (grownBy_putObj' _ D (.deferred none)) (fun r e => by cases e; exact ⟨_, hK3, rfl⟩)
      refine ⟨.int .i64 i, ?_, by rw [hnx], ((hB2.setCell (p := ⟨w.heap.size + 1, 0, none⟩) (by simp) _).trans (belowK_b (w := w) (Nat.le_refl _) _ D2 _ _ (by simp at hD2; omega) hKb' rfl rfl)).trans (belowK_b (w := w) (Nat.le_refl _) _ D _ _ (by omega) hK3 rfl rfl)⟩
      simp [results, Tryd.f28, go_sem, hc6]
theorem next_is (s N i : Nat) (hs : s < 18446744073709551616) (hN : 1 ≤ N ∧ N ≤ 64) (hi : i < N) (w : World) (hT : Tab w) : Calls Tryd.prog 28 #[.int .u64 s, .int .i64 N, .int .i64 i] w fun e w' => e = .returned (.int .i64 (nextIn (nod (s &&& (2 ^ N - 1))) i)) ∧ Turns [] w w' := by
  refine Calls.mono (callsIn_wide.1 (next_in 5 (by omega) s N i hs hN hi w hT)) ?_
  rintro e w' ⟨rfl, b⟩
  exact ⟨rfl, Turns.of_below [] b⟩
end Go.Proofs.YtmaielpfeajelaaDoor.Rd
