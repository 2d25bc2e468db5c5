/- The walk of lease.Wallet's All. -/
import Derived.Test.YtcmaloncfdmpnaaLa
set_option linter.unusedVariables false
set_option linter.unusedSimpArgs false
set_option maxRecDepth 100000
namespace Go.Proofs.Ytcmaloncfdmpnaa.Lb
open Go.RowKit Go.MapKept Go.Shelf Hm Hs Hf Hg Hk Hx Hv Hl Sm Sat Wa Lw La
theorem keys_is (w : World) (mb : Option Nat) : Calls Try.prog 115 #[.map mb] w fun e w' => e = .returned (.func (.func 146) #[] #[.pointer (some ⟨w.heap.size, 0, none⟩)]) ∧ w' = w.alloc (.cells #[.map mb] 158) :=
  callsIn_wide.1 (AnyZI.keys_in Try.keysL Fence.wide 5 trivial rfl mb w)
set_option maxHeartbeats 1000000 in
theorem sorted_is (w : World) (pb b : Nat) (l : List (Int × Value)) (hm : w.cell? ⟨pb, 0, none⟩ = some (.map (some b))) (h : IMap w b l) (hwf : ∀ p ∈ l, -9223372036854775808 ≤ p.1 ∧ p.1 ≤ 9223372036854775807) (hs : l.length ≤ 1000000) :
    Calls Try.prog 109 #[.func (.func 146) #[] #[.pointer (some ⟨pb, 0, none⟩)]] w fun e w' => ∃ v, e = .returned v ∧ OwnS 3 1 w' v (ins (skeys l)) ∧ Turns [] w w' ∧ (∀ k, v.ownBlock = some k → w.heap.size ≤ k) := by
  obtain ⟨D, hown, hsz, hperm⟩ := IMap.owns (k := 3) Try.underlying3 h hwf (by unfold maxLen; omega)
  have hpb : pb < w.heap.size := World.block_lt_of_cell? w _ hm
  have hseq : SeqGives Fence.wide 2 Try.prog 146 #[.pointer (some ⟨pb, 0, none⟩)] encZ (fun ss => ss.Perm (intKeys D)) (Maps.size D) w :=
    AnyZI.keys_gives (ρ := Try.keysL_ren) { Try.keysL with } Fence.wide _ trivial rfl (by omega) pb b l.length D w hpb hm hown
  have cS := AnyZI.sorted_in Try.sortedA Fence.wide 5 trivial trivial trivial trivial rfl (by omega) (sortsA _) (enters_of Try.func83 (by kernel_rfl) rfl) 146 #[.pointer (some ⟨pb, 0, none⟩)] trivial (enters_of Try.func146 (by kernel_rfl) rfl) _ _ (by rw [hsz]; unfold maxLen; omega) (by rw [hsz]; omega) _ hseq
  have cS2 : Calls Try.prog 109 #[.func (.func 146) #[] #[.pointer (some ⟨pb, 0, none⟩)]] w _ := callsIn_wide.1 cS
  refine Calls.mono cS2 ?_
  rintro e w' ⟨v, ss, rfl, hS, hrow, hnil, hb⟩
  have hp : ss.Perm (l.map (·.1)) := hS.trans hperm
  have e1 : ss.mergeSort (fun x y => decide (x ≤ y)) = skeys l := mergeSort_of_perm_i hp
  rw [e1] at hrow
  have hlen : ss.length = (skeys l).length := by unfold skeys; rw [List.length_mergeSort]; exact hp.length_eq
  rw [hlen] at hrow
  obtain ⟨o, hlo⟩ := own_of hrow
  exact ⟨v, rfl, o, Turns.of_below [] hb, hlo⟩
theorem infoL : (Try.prog.info? 109).map (fun i => (i.zero, i.size, i.bytes)) = some (some (.agg #[.int .i64 0, .int .i64 0, .int .i64 0, .int .i64 0, .int .i64 0]), 5, 40) := by kernel_rfl
theorem lcells_one (l : List Lea) : ∀ r ∈ l.map Lea.cells, ∀ u ∈ r, u.oneCell' = true := by
  intro r hr u hu
  obtain ⟨x, _, rfl⟩ := List.mem_map.1 hr
  simp [Lea.cells] at hu
  rcases hu with rfl | rfl | rfl | rfl | rfl <;> rfl
theorem skeys_len (l : List Lea) : (skeys (enc l)).length = l.length := by unfold skeys enc; rw [List.length_mergeSort]; simp
theorem sl_len (l : List Lea) : (sl l).length = l.length := by unfold sl; rw [List.length_map, skeys_len]
theorem key_find {l : List Lea} {k : Int} (h : k ∈ skeys (enc l)) : ∃ x, find l k = some x ∧ (find l k).getD Lea.zero = x := by
  unfold skeys enc at h
  rw [List.mem_mergeSort, List.map_map] at h
  obtain ⟨x, hx, rfl⟩ := List.mem_map.1 h
  cases hf : find l x.key with
  | none => unfold find at hf; have := List.find?_eq_none.1 hf x hx; simp at this
  | some y =>
    refine ⟨y, ?_, ?_⟩
    · exact hf
    · show (find l x.key).getD _ = _
      rw [hf]; rfl
set_option maxHeartbeats 1000000 in
theorem all_is (w : World) (b m : Nat) (l : List Lea) (h : IsWallet w b m l) (hwf : ∀ x ∈ l, -9223372036854775808 ≤ x.key ∧ x.key ≤ 9223372036854775807) (hl : l.length ≤ 1000000) :
    Calls Try.prog 66 #[.pointer (some ⟨b, 0, none⟩)] w fun e w' => ∃ v, e = .returned v ∧ OwnS 109 5 w' v ((sl l).map Lea.cells) ∧ Turns [] w w' ∧ (∀ k, v.ownBlock = some k → w.heap.size ≤ k) := by
  have K := keys_is w (some m)
  have S := sorted_is (w.alloc (.cells #[.map (some m)] 158)) w.heap.size m (enc l) ((Blk.new w #[.map (some m)] 158).cell 0) (h.map.alloc _) (fun p hp => by obtain ⟨x, hx, rfl⟩ := List.mem_map.1 hp; exact hwf x hx) (by unfold enc; rw [List.length_map]; omega)
  have hkl := skeys_len l
  have hfk : Hid (∀ (j : Nat) (k : Int), (skeys (enc l))[j]? = some k → ∃ x, find l k = some x ∧ (sl l).take (j + 1) = (sl l).take j ++ [x]) := Lib.hid (fun j k hj => by
    obtain ⟨x, h1, h2⟩ := key_find (List.mem_of_getElem? hj)
    refine ⟨x, h1, ?_⟩
    rw [List.take_add_one]
    congr 1
    unfold sl
    rw [List.getElem?_map, hj]
    show [(find l k).getD Lea.zero] = _
    rw [h2])
  have hsl := sl_len l
  generalize hks : skeys (enc l) = ks at *
  generalize hsq : sl l = sq at *
  have Kh := Lib.hid K
  have Sh := Lib.hid S
  have hh := Lib.hid h
  have c0 : World.cell? (w) ⟨b, 0, none⟩ = some _ := (h.blk).cell 0
  have H := (Sep.start w).nilSlice 109 5
  clear K S hwf h hks hsq
  go_enter Try.func66, Try.ntmps66
  go_wp2_with fail
  go_at_call 115
  refine Calls.mono (Kh.out) ?_
  rintro e w1 ⟨rfl, rfl⟩
  go_wp2_with fail
  go_at_call 109
  refine Calls.mono (Sh.out) ?_
  rintro e w2 ⟨v, rfl, o, t, hlo⟩
  replace H := (H.turns ((Turns.refl [] w).alloc (.cells #[.map (some m)] 158))).newSlice t o hlo
  obtain ⟨A, c, rfl, _⟩ := formI o
  clear o t hlo Kh Sh c0
  go_wp2_with fail
  go_loopw [3, 5, 15] (fun v3 _ v15 wr => ∃ (j : Nat), j ≤ ks.length ∧ v15 = .int .i64 j ∧ Sep [] w [tOwn 109 5 v3 ((sq.take j).map Lea.cells), tOwn 3 1 (.slice A ks.length c) (ins ks)] wr) (fun _ _ v15 _ => ks.length - (RowKit.intOf v15).toNat)
  case atStart => exact ⟨0, by omega, rfl, H.keep [1, 0]⟩
  case round =>
    obtain ⟨j, hj, rfl, H1⟩ := hrel
    clear H
    have H := H1
    clear H1
    obtain ⟨N, c3, rfl, _⟩ := formM (H.own 0 rfl)
    have htl : (sq.take j).length = j := by rw [List.length_take]; omega
    rw [htl] at H ⊢
    by_cases hlt : j < ks.length
    · have g1 : decide ((j : Int) < (ks.length : Int)) = true := by simp; omega
      obtain ⟨k, hx⟩ : ∃ k, ks[j]? = some k := ⟨_, List.getElem?_eq_getElem hlt⟩
      obtain ⟨x, hf, htk⟩ := hfk.out j k hx
      obtain ⟨ad, c', hv, _, hcell⟩ := (H.own 1 rfl).reads.at_ (j := j) (r := [.int .i64 k]) (by unfold ins; rw [List.getElem?_map, hx]; rfl)
      rw [ins_len] at hv
      injection hv with e1 e2 e3
      subst e1 e3
      have i0 := hcell 0 _ rfl
      rw [Nat.mul_one, Nat.add_zero] at i0
      have W1 := hh.out.turns H.t (by simp) (by simp)
      have c0 : World.cell? (wr) ⟨b, 0, none⟩ = some _ := (W1.blk).cell 0
      have hat : at_ (enc l) k = some x.v := by rw [at_find, hf]; rfl
      have hath := Lib.hid hat
      have htkh := Lib.hid htk
      have hapL : (sq.take (j + 1)).map Lea.cells = (sq.take j).map Lea.cells ++ [x].map Lea.cells := by rw [htk, List.map_append]
      have hapLh := Lib.hid hapL
      have htlh := Lib.hid htl
      have W1h := Lib.hid W1.map
      clear hat htk hf hx hcell hapL e2 htl W1
      replace H := H.alloc #[.int .i64 x.key, .int .i64 x.gen, .int .i64 x.amount, .int .i64 x.spent, .int .i64 x.until_] 109
      have hs2 : RdS 5 (wr.alloc (.cells #[.int .i64 x.key, .int .i64 x.gen, .int .i64 x.amount, .int .i64 x.spent, .int .i64 x.until_] 109)) (.slice (some ⟨wr.heap.size, 0, none⟩) 1 1) ([x].map Lea.cells) := RdS.of_cells (rows := [x].map Lea.cells) (H.blk 0 rfl) rfl (by simp [Lea.cells]) 1 (by simp) (by decide)
      have hs2h := Lib.hid hs2
      clear hs2
      unfold Lea.v at hath
      go_wp2_with (first | (at_lookup; refine wp_lookup_some W1h.out rfl _ _ _ _ _ rfl Try.underlying158 Try.underlying3 _ (zeroLease _) rfl _ rfl _ hath.out ?_) | (at_builtin; refine stop_ ?_))
      refine Mk_.mk ?_
      refine H.append 1 rfl hs2h.out (j + 1) (by rw [List.length_map, htlh.out]; rfl) ((sq.take (j + 1)).map Lea.cells) hapLh.out rfl _ _ _ rfl (.agg #[.int .i64 0, .int .i64 0, .int .i64 0, .int .i64 0, .int .i64 0]) 40 Try.underlying115 infoL rfl (by decide) rfl rfl (lcells_one _) (by omega) (by omega) ?_
      clear H hs2h
      intro N c3 wn H tn _
      clear tn c0 i0
      replace H := H.lose [0]
      go_wp2_with fail
      go_roundw
      case rel => exact ⟨j + 1, by omega, by go_num, H⟩
      case measure => simp [RowKit.intOf]; omega
    · obtain rfl : j = ks.length := by omega
      have g1 : decide ((ks.length : Int) < (ks.length : Int)) = false := by simp
      have hfin : sq.take ks.length = sq := List.take_of_length_le (by omega)
      rw [hfin] at H
      have O := H.own 0 rfl
      have T := H.t
      have Mi := mine_own H 0 rfl
      clear H
      go_wp2_with fail
      go_ret
      exact ⟨_, rfl, O, T, fun q hq => by simpa using Mi q hq⟩
end Go.Proofs.Ytcmaloncfdmpnaa.Lb
