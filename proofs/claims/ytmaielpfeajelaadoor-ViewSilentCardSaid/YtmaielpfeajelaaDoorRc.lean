/- ring.Set's Nodes: its nodes, rising. -/
import Derived.Test.YtmaielpfeajelaaDoorRb
set_option linter.unusedVariables false
set_option linter.unusedSimpArgs false
set_option maxRecDepth 100000
namespace Go.Proofs.YtmaielpfeajelaaDoor.Rc
open Go.RowKit Go.Shelf Hm Hs Hc Hd Hx Hy Ra Rg Rb
attribute [local go_sem] Oper.semAt_some
theorem infoI : (Tryd.prog.info? 3).map (fun i => (i.zero, i.size, i.bytes)) = some (some (.int .i64 0), 1, 8) := by kernel_rfl
def nodI (l : List Nat) : List Int := l.map fun x : Nat => (x : Int)
def nodV (l : List Nat) : List Value := l.map fun x : Nat => Value.int .i64 (x : Int)
theorem nodV_eq (l : List Nat) : nodV l = (ins (nodI l)).flatten := by
  rw [ins_flat]
  unfold nodV nodI
  rw [List.map_map]
  rfl
theorem own_of {e : TypeId} {w : World} {n : Nat} {v : Value} {l : List Nat} (h : w.ownsRow n e 1 v l.length (nodV l)) : OwnS e 1 w v (ins (nodI l)) ∧ ∀ k, v.ownBlock = some k → n ≤ k := by
  rw [nodV_eq] at h
  have hl : (ins (nodI l)).length = l.length := by rw [ins_len]; unfold nodI; rw [List.length_map]
  refine ⟨⟨?_, ?_⟩, ?_⟩
  · rw [hl]
    obtain ⟨h2, h3⟩ := h
    refine ⟨h2, ?_⟩
    rcases h3 with h3 | ⟨g, cap, cur, hv, hg, r⟩
    · exact .inl h3
    · exact .inr ⟨g, cap, cur, hv, Nat.zero_le _, r⟩
  · intro r hr
    obtain ⟨x, _, rfl⟩ := List.mem_map.1 hr
    rfl
  · intro k hk
    rcases h.2 with ⟨rfl, _⟩ | ⟨g, cap, cur, rfl, hg, _⟩
    · simp [Value.ownBlock] at hk
    · have : g = k := by simpa [Value.ownBlock] using hk
      omega
set_option maxHeartbeats 2000000 in
theorem nodes_in (n : Nat) (hn : 3 ≤ n) (s : Nat) (hs : s < 18446744073709551616) (w : World) (hT : Tab w) :
    CallsIn Fence.wide n Tryd.prog 21 #[.int .u64 s] w fun e W' => ∃ v, e = .returned v ∧ W'.ownsRow w.heap.size 3 1 v (nod s).length (nodV (nod s)) ∧ Below w.heap.size w W' := by
  have h1 : 1 ≤ n := by omega
  have hlen := nod_len s
  obtain ⟨i0, hi, hz0, hz1, hz2⟩ := info_parts infoI
  refine callsIn_of_wp_marks Tryd.func21 rfl trivial ?_ rfl
  simp only [Tryd.ntmps21, List.size_toArray, List.length_cons, List.length_nil, Nat.reduceAdd, Nat.reduceSub, Array.replicate_succ, Array.replicate_zero, List.push_toArray, List.append_toArray, List.nil_append, List.cons_append]
  gi_wp2_with (refine ⟨trivial, ?_⟩; gi_at_call 44; refine (each_in (n - 1) _ _).mono ?_; rintro e w' ⟨rfl, rfl⟩)
  have bO := Boxed.new w 35 (.slice none 0 0)
  have bN := Boxed.new (w.alloc (.cells #[.slice none 0 0] 35)) 40 (.int .u64 s)
  rw [World.size_alloc] at bN
  have hB0 : Below w.heap.size w ((w.alloc (.cells #[.slice none 0 0] 35)).alloc (.cells #[.int .u64 s] 40)) := ((Below.refl _ w).alloc (Nat.le_refl _) _).alloc (by simp) _
  refine wpIn_rangeFunc_ownG rfl h1 (gf := 53) (lb := #[.pointer (some ⟨w.heap.size + 1, 0, none⟩)]) rfl trivial (enters_of Tryd.func53 (by kernel_rfl) rfl)
    (each_stops (n - 1) (by omega) (w.heap.size + 1) w.heap.size s hs _ (by simp) hT.lt (by simp; omega) bN.cell (hT.below hB0 hT.lt)) belowK_t (belowK_b (by simp; omega)) (Below.refl _ _) (fun _ => rfl)
    (fun pre W => (∃ v, Boxed W w.heap.size 35 v ∧ W.ownsRow w.heap.size 3 1 v pre.length (nodV pre) ∧ True) ∧ Below w.heap.size w W)
    (fun _ _ _ => False)
    (OwnFrom.and (Own.from (holdsRow_own w.heap.size w.heap.size 35 3 1 (fun pre : List Nat => pre.length) (fun pre => nodV pre) (fun pre v => True)) _) (ownFrom_below (Nat.le_refl _) (by simp; omega)))
    (fun _ _ _ _ _ hs _ _ => hs)
    ⟨⟨_, bO.alloc _, World.ownsRow_nil _ _ _ _, trivial⟩, hB0⟩
    (fun x => { tmps := #[.int .u64 s, undef, .slice none 0 0, .pointer (some ⟨w.heap.size, 0, none⟩), .int .i64 x, .int .u64 s, .func (.func 53) #[] #[.pointer (some ⟨w.heap.size + 1, 0, none⟩)], .int .i64 x, undef, undef, undef, undef, undef], defers := [] }) ?assign ?body ?done ?stop
  case assign =>
    intro l x W K hK
    gi_wp2
    exact hK
  case body =>
    rintro l pre x W ⟨⟨v, hv, hrow, _⟩, hB⟩ hlt
    have hc := hv.cell
    gi_wp2_with (gi_at_builtin; refine wpListIn_append_own _ rfl _ _ 35 rfl w.heap.size 3 i0 (.int .i64 0) 1 8 Tryd.underlying35 hi hz0 hz1 hz2 rfl (by decide) _ _ _ rfl (hrow.alloc _) ⟨W.heap.size, 0, none⟩ 1 1 [.int .i64 x] rfl rfl (cell_one_new _ _ _) (by simp [Value.oneCell']) (by unfold maxLen; omega) (by omega) (by have := hB.size; simp; omega) ?_; intro v' w1 hown' hgrow _; obtain ⟨g', cap', rfl⟩ := ownsRow_succ hown'; obtain ⟨hv1, hv2, hr2, hk2, hb2⟩ := hv.appended (by decide) hrow hB.size (Nat.le_refl _) hown' hgrow; have hc1 := hv1.cell; have hf1 := hv1.frozen)
    exact ⟨hk2.from _, hb2, ⟨_, hv2, by simpa [nodV] using hr2, trivial⟩, hB.trans hb2⟩
  case done =>
    rintro D ys W hD rfl ⟨⟨v, hv, hrow, _⟩, hB⟩ hK
    have hc := hv.cell
    gi_wp2
    refine ⟨by simp, .inl ⟨_, _, rfl, run_takeDeferred hK, ?_⟩⟩
    exact ⟨_, results_tmp rfl _ _ _, v, rfl, ownsRow_putObj hrow _ hK rfl, hB.trans (belowK_b (w := w) (Nat.le_refl _) W D _ _ (by simp at hD; omega) hK rfl rfl)⟩
  case stop =>
    rintro D c pre W _ _ h _
    exact h.elim
theorem nodes_is (s : Nat) (hs : s < 18446744073709551616) (w : World) (hT : Tab w) : Calls Tryd.prog 21 #[.int .u64 s] w fun e w' => ∃ v, e = .returned v ∧ OwnS 3 1 w' v (ins (nodI (nod s))) ∧ Turns [] w w' ∧ (∀ k, v.ownBlock = some k → w.heap.size ≤ k) := by
  refine Calls.mono (callsIn_wide.1 (nodes_in 5 (by omega) s hs w hT)) ?_
  rintro e w' ⟨v, rfl, h, b⟩
  obtain ⟨o, hb⟩ := own_of h
  exact ⟨v, rfl, o, Turns.of_below [] b, hb⟩
end Go.Proofs.YtmaielpfeajelaaDoor.Rc
