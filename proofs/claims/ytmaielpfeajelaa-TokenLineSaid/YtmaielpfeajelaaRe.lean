/- slices.Sorted(slices.Values(l)) of a []int that is read: its numbers, sorted. -/
import Derived.Test.YtmaielpfeajelaaSs
import Derived.Test.YtmaielpfeajelaaHx
import Derived.Test.YtmaielpfeajelaaHy
import Derived.Lib.Hide
import Derived.RangeFuncNested
import Derived.RangeFuncBound
import Derived.RangeFuncCalls
import Derived.RangeFuncLeaves
import Derived.RangeFuncBox
import Derived.RangeFuncWrites
import Derived.Shelf.Abstract
import Derived.Shelf.RegionOpen
import Derived.WalkKit
import Derived.OwnWalkIn
import Derived.TacticsInMore
import Derived.LoopNIn
import Derived.LoopIn
import Derived.Maps.AppendAt
set_option linter.unusedVariables false
set_option linter.unusedSimpArgs false
set_option maxRecDepth 100000
namespace Go.Proofs.Ytmaielpfeajelaa.Re
open Go.RowKit Go.Shelf Hm Hs Hx Hy Ss
attribute [local go_sem] Oper.semAt_some
theorem infoI : (Try.prog.info? 3).map (fun i => (i.zero, i.size, i.bytes)) = some (some (.int .i64 0), 1, 8) := by kernel_rfl
theorem icell {w : World} {v : Value} {l : List Int} {j : Nat} {x : Int} (h : RdS 1 w v (ins l)) (hj : l[j]? = some x) : ∃ ad c, v = .slice (some ad) l.length c ∧ w.cell? (ad.add j) = some (.int .i64 x) := by
  obtain ⟨ad, c, hv, _, hc⟩ := h.at_ (j := j) (r := [.int .i64 x]) (by unfold ins; rw [List.getElem?_map, hj]; rfl)
  rw [ins_len] at hv
  have := hc 0 _ rfl
  rw [Nat.mul_one, Nat.add_zero] at this
  exact ⟨ad, c, hv, this⟩
set_option maxHeartbeats 2000000 in
theorem values1_in (n : Nat) (hn : 1 ≤ n) (l Bs n₀ : Nat) (A : Option Addr) (c : Nat) (zs : List Int) (hlen : zs.length ≤ 1000000) (J Jx : List Int → World → Prop)
    (hY : ∀ pre x W, J pre W → pre.length < zs.length → YieldAt Fence.wide (n - 1) Try.prog l #[.int .i64 x] W fun e W' =>
      (e = .returned (.bool true) ∧ J (pre ++ [x]) W' ∧ Below n₀ W W') ∨ (e = .returned (.bool false) ∧ Jx (pre ++ [x]) W'))
    (W : World) (hBs : W.cell? ⟨Bs, 0, none⟩ = some (.slice A zs.length c)) (hrd : Hid (∀ W', Below n₀ W W' → RdS 1 W' (.slice A zs.length c) (ins zs))) (h0 : J [] W) :
    CallsIn Fence.wide n Try.prog 85 #[.func (.yield l) #[] #[], .pointer (some ⟨Bs, 0, none⟩)] W fun e W' => (∃ v, e = .returned v) ∧
      ((∃ ys, ys = zs ∧ J ys W') ∨ (∃ pre, pre <+: zs ∧ Jx pre W')) := by
  refine callsIn_of_wp Try.func85 rfl trivial ?_ rfl
  simp only [Try.ntmps85, List.size_toArray, List.length_cons, List.length_nil, Nat.reduceAdd, Nat.reduceSub, Array.replicate_succ, Array.replicate_zero, List.push_toArray, List.append_toArray, List.nil_append, List.cons_append]
  have hYh := Lib.hid hY
  clear hY
  gi_wp2
  gi_loopw [7] (fun i wr => ∃ k : Nat, k ≤ zs.length ∧ i = .int .i64 k ∧ J (zs.take k) wr ∧ Below n₀ W wr) (fun i _ => zs.length - (intOf i).toNat)
  case atStart => exact ⟨0, Nat.zero_le _, rfl, by simpa using h0, Below.refl _ _⟩
  case round =>
    obtain ⟨k, hk, rfl, hJs, hB⟩ := hrel
    have hBh := Lib.hid hB
    by_cases hlt : k < zs.length
    · have g1 : decide ((k : Int) < (zs.length : Int)) = true := by simp; omega
      obtain ⟨x, hx⟩ : ∃ x, zs[k]? = some x := ⟨_, List.getElem?_eq_getElem hlt⟩
      obtain ⟨ad, c', hv, hc⟩ := icell (hrd.out wr hB) hx
      injection hv with e1 e2 e3
      subst e1 e3
      obtain ⟨fn, tmps, assign, body, hy, hR⟩ := hYh.out _ x wr hJs (by rw [List.length_take]; omega)
      have htk : zs.take (k + 1) = zs.take k ++ [x] := by rw [List.take_add_one, hx]; rfl
      have htkh := Lib.hid htk
      have hRh := Lib.hid hR
      clear hx htk hR hB e2
      gi_wp2
      refine hRh.out.mono ?_
      rintro e W3 (⟨rfl, hJ3, hk3⟩ | ⟨rfl, hJx3⟩)
      · gi_wp2
        go_roundw
        case rel => exact ⟨k + 1, by omega, by go_num, by rw [htkh.out]; exact hJ3, hBh.out.trans hk3⟩
        case measure => simp [intOf]; omega
      · gi_wp2
        refine bodyPost_ret (results_none rfl _ _ _) rfl ?_
        exact ⟨⟨_, rfl⟩, .inr ⟨zs.take (k + 1), List.take_prefix _ _, by rw [htkh.out]; exact hJx3⟩⟩
    · obtain rfl : k = zs.length := by omega
      have g1 : decide ((zs.length : Int) < (zs.length : Int)) = false := by simp
      rw [List.take_length] at hJs
      gi_wp2
      go_end0
      exact ⟨⟨_, rfl⟩, .inl ⟨_, rfl, hJs⟩⟩
theorem values_is (A : Option Addr) (N c : Nat) (w : World) : Calls Try.prog 71 #[.slice A N c] w fun e w' => e = .returned (.func (.func 85) #[] #[.pointer (some ⟨w.heap.size, 0, none⟩)]) ∧ w' = w.alloc (.cells #[.slice A N c] 33) := by
  go_enter Try.func71, Try.ntmps71
  go_wp2_with fail
  go_ret
  exact ⟨rfl, rfl⟩
theorem values_stops (n : Nat) (hn : 1 ≤ n) (Bs : Nat) (A : Option Addr) (c : Nat) (zs : List Int) (hlen : zs.length ≤ 1000000) (w w1 : World) (h1 : Below w.heap.size w w1) (hc : w.cell? ⟨Bs, 0, none⟩ = some (.slice A zs.length c)) (hrd : RdS 1 w (.slice A zs.length c) (ins zs)) :
    SeqStopsK Fence.wide n Try.prog 85 #[.pointer (some ⟨Bs, 0, none⟩)] (fun x : Int => #[Value.int .i64 x]) (Below w.heap.size) (fun ys => ys = zs) (fun pre => pre <+: zs) zs.length w1 := fun l J Jx W hW _ _ hY h0 => by
  have hb : Below w.heap.size w W := h1.trans (hW.mono h1.size)
  exact values1_in n hn l Bs w.heap.size A c zs hlen J Jx hY W (old_cell hb (Nat.le_refl _) hc) (Lib.hid (fun W' h => hrd.mv (fun a u => old_cell (hb.trans h) (Nat.le_refl _)))) h0
set_option maxHeartbeats 2000000 in
theorem append_in (n : Nat) (hn : 3 ≤ n) (Bs : Nat) (A : Option Addr) (c : Nat) (zs : List Int) (hlen : zs.length ≤ 1000000) (w : World) (hc0 : w.cell? ⟨Bs, 0, none⟩ = some (.slice A zs.length c)) (hrd : RdS 1 w (.slice A zs.length c) (ins zs)) :
    CallsIn Fence.wide n Try.prog 92 #[.slice none 0 0, .func (.func 85) #[] #[.pointer (some ⟨Bs, 0, none⟩)]] w fun e W' => ∃ v, e = .returned v ∧ W'.ownsRow w.heap.size 3 1 v zs.length (zs.map (Value.int .i64)) ∧ Below w.heap.size w W' := by
  have h1 : 1 ≤ n := by omega
  obtain ⟨i0, hi, hz0, hz1, hz2⟩ := info_parts infoI
  refine callsIn_of_wp_marks Try.func92 rfl trivial ?_ rfl
  simp only [Try.ntmps92, List.size_toArray, List.length_cons, List.length_nil, Nat.reduceAdd, Nat.reduceSub, Array.replicate_succ, Array.replicate_zero, List.push_toArray, List.append_toArray, List.nil_append, List.cons_append]
  gi_wp2
  have bO := Boxed.new w 33 (.slice none 0 0)
  have hB0 : Below w.heap.size w (w.alloc (.cells #[.slice none 0 0] 33)) := (Below.refl _ w).alloc (Nat.le_refl _) _
  refine wpIn_rangeFunc_ownG rfl h1 (gf := 85) (lb := #[.pointer (some ⟨Bs, 0, none⟩)]) rfl trivial (enters_of Try.func85 (by kernel_rfl) rfl)
    (values_stops (n - 1) (by omega) Bs A c zs hlen w _ hB0 hc0 hrd) belowK_t (belowK_b (by simp)) (Below.refl _ _) (fun _ => rfl)
    (fun pre W => (∃ v, Boxed W w.heap.size 33 v ∧ W.ownsRow w.heap.size 3 1 v pre.length (pre.map (Value.int .i64)) ∧ True) ∧ Below w.heap.size w W)
    (fun _ _ _ => False)
    (OwnFrom.and (Own.from (holdsRow_own w.heap.size w.heap.size 33 3 1 (fun pre : List Int => pre.length) (fun pre => pre.map (Value.int .i64)) (fun pre v => True)) _) (ownFrom_below (Nat.le_refl _) (by simp)))
    (fun _ _ _ _ _ hs _ _ => hs)
    ⟨⟨_, bO, World.ownsRow_nil _ _ _ _, trivial⟩, hB0⟩
    (fun x => { tmps := #[.slice none 0 0, .func (.func 85) #[] #[.pointer (some ⟨Bs, 0, none⟩)], .pointer (some ⟨w.heap.size, 0, none⟩), undef, .slice none 0 0, .int .i64 x, .func (.func 85) #[] #[.pointer (some ⟨Bs, 0, none⟩)], .int .i64 x, undef, undef, undef, undef, undef], defers := [] }) ?assign ?body ?done ?stop
  case assign =>
    intro l x W K hK
    gi_wp2
    exact hK
  case body =>
    rintro l pre x W ⟨⟨v, hv, hrow, _⟩, hB⟩ hlt
    have hc := hv.cell
    gi_wp2_with (gi_at_builtin; refine wpListIn_append_own _ rfl _ _ 33 rfl w.heap.size 3 i0 (.int .i64 0) 1 8 Try.underlying33 hi hz0 hz1 hz2 rfl (by decide) _ _ _ rfl (hrow.alloc _) ⟨W.heap.size, 0, none⟩ 1 1 [.int .i64 x] rfl rfl (cell_one_new _ _ _) (by simp [Value.oneCell']) (by unfold maxLen; omega) (by omega) (by have := hB.size; simp; omega) ?_; intro v' w1 hown' hgrow _; obtain ⟨g', cap', rfl⟩ := ownsRow_succ hown'; obtain ⟨hv1, hv2, hr2, hk2, hb2⟩ := hv.appended (by decide) hrow hB.size (Nat.le_refl _) hown' hgrow; have hc1 := hv1.cell; have hf1 := hv1.frozen)
    exact ⟨hk2.from _, hb2, ⟨_, hv2, by simpa using hr2, trivial⟩, hB.trans hb2⟩
  case done =>
    rintro D ys W hD rfl ⟨⟨v, hv, hrow, _⟩, hB⟩ hK
    have hc := hv.cell
    gi_wp2
    refine ⟨by simp, .inl ⟨_, _, rfl, run_takeDeferred hK, ?_⟩⟩
    exact ⟨_, results_tmp rfl _ _ _, v, rfl, ownsRow_putObj hrow _ hK rfl, hB.trans (belowK_b (w := w) (Nat.le_refl _) W D _ _ (by simp at hD; omega) hK rfl rfl)⟩
  case stop =>
    rintro D c pre W _ _ h _
    exact h.elim
theorem own_of {e : TypeId} {w : World} {n : Nat} {v : Value} {l : List Int} (h : w.ownsRow n e 1 v l.length (l.map (Value.int .i64))) : OwnS e 1 w v (ins l) ∧ ∀ k, v.ownBlock = some k → n ≤ k := by
  have h1 : (ins l).flatten = l.map (Value.int .i64) := ins_flat l
  refine ⟨⟨?_, ?_⟩, ?_⟩
  · rw [h1, ins_len]
    obtain ⟨h2, h3⟩ := h
    refine ⟨h2, ?_⟩
    rcases h3 with h3 | ⟨g, cap, cur, hv, hg, r⟩
    · exact .inl h3
    · exact .inr ⟨g, cap, cur, hv, Nat.zero_le _, r⟩
  · intro r hr
    obtain ⟨x, _, rfl⟩ := List.mem_map.1 hr
    rfl
  · intro k hk
    rcases h.2 with ⟨rfl, _⟩ | ⟨g, cap, cur, rfl, hg, _⟩
    · simp [Value.ownBlock] at hk
    · have : g = k := by simpa [Value.ownBlock] using hk
      omega
theorem collect_is (Bs : Nat) (A : Option Addr) (c : Nat) (zs : List Int) (hlen : zs.length ≤ 1000000) (w : World) (hc0 : w.cell? ⟨Bs, 0, none⟩ = some (.slice A zs.length c)) (hrd : RdS 1 w (.slice A zs.length c) (ins zs)) :
    Calls Try.prog 84 #[.func (.func 85) #[] #[.pointer (some ⟨Bs, 0, none⟩)]] w fun e w' => ∃ v, e = .returned v ∧ OwnS 3 1 w' v (ins zs) ∧ Turns [] w w' ∧ (∀ k, v.ownBlock = some k → w.heap.size ≤ k) := by
  have Ah := Lib.hid (callsIn_wide.1 (append_in 5 (by omega) Bs A c zs hlen w hc0 hrd))
  clear hrd hc0
  go_enter Try.func84, Try.ntmps84
  go_wp2_with fail
  go_at_call 92
  refine Calls.mono (Ah.out) ?_
  rintro e w1 ⟨v, rfl, h, b⟩
  obtain ⟨o, hb⟩ := own_of h
  go_wp2_with fail
  go_ret
  exact ⟨_, rfl, o, Turns.of_below [] b, hb⟩
theorem sorted_is (Bs : Nat) (A : Option Addr) (c : Nat) (zs : List Int) (hlen : zs.length ≤ 1000000) (w : World) (hc0 : w.cell? ⟨Bs, 0, none⟩ = some (.slice A zs.length c)) (hrd : RdS 1 w (.slice A zs.length c) (ins zs)) :
    Calls Try.prog 70 #[.func (.func 85) #[] #[.pointer (some ⟨Bs, 0, none⟩)]] w fun e w' => ∃ v, e = .returned v ∧ OwnS 3 1 w' v (ins (srt zs)) ∧ Turns [] w w' := by
  have Ch := Lib.hid (collect_is Bs A c zs hlen w hc0 hrd)
  clear hrd hc0
  go_enter Try.func70, Try.ntmps70
  go_wp2_with fail
  go_at_call 84
  refine Calls.mono (Ch.out) ?_
  rintro e w1 ⟨v, rfl, o, t, hb⟩
  obtain ⟨A2, c2, rfl, _⟩ := formI o
  have Sh := Lib.hid (sort_is w1 3 _ zs o hlen)
  have hbh := Lib.hid hb
  clear o hb
  go_wp2_with fail
  go_at_call 44
  refine Calls.mono (Sh.out) ?_
  rintro e w2 ⟨rfl, o2, t2⟩
  go_wp2_with fail
  go_ret
  exact ⟨_, rfl, o2, t.then t2 (fun k hk => .inr (hbh.out k (by simpa using hk)))⟩
end Go.Proofs.Ytmaielpfeajelaa.Re
