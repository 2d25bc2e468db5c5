/- codec's Writer once more: what it turns is its own (as things). -/
import Derived.Test.YtohokckpheljbaaKn
import Derived.Test.YtohokckpheljbaaHx
set_option linter.unusedVariables false
set_option linter.unusedSimpArgs false
set_option maxRecDepth 100000
namespace Go.Proofs.Ytohokckpheljbaa.Na
open Go.RowKit Go.MapKept Hm Hs Hr Hb Hf Hg Hv Hx Kw
theorem RdS.blocks {w w' : World} {v : Value} {sz : Nat} {rows : List (List Value)} (h : RdS sz w v rows) (hm : ∀ k, v.ownBlock = some k → w'.heap[k]? = w.heap[k]?) : RdS sz w' v rows := by
  obtain ⟨A, c, hv, hc, hm2, hn, hf, hl⟩ := h
  refine ⟨A, c, hv, hc, hm2, hn, ⟨hf.1, fun hp => ?_⟩, hl⟩
  obtain ⟨ad, e, hh⟩ := hf.2 hp
  subst e
  refine ⟨ad, rfl, fun j r hj => ⟨(hh j r hj).1, fun i u hu => ?_⟩⟩
  have hcell := (hh j r hj).2 i u hu
  have hb : (ad.add (j * sz + i)).block = ad.block := by unfold Addr.add; split <;> rfl
  rw [World.cell?_of_block (w := w) (hm _ (by rw [hv, hb]; rfl))]
  exact hcell
theorem RdS.far {w w' : World} {F : List Nat} {v : Value} {sz : Nat} {rows : List (List Value)} (h : RdS sz w v rows) (t : Turns F w w') (hF : ∀ k, v.ownBlock = some k → k ∉ F) : RdS sz w' v rows := by
  obtain ⟨A, c, hv, hc, hm2, hn, hf, hl⟩ := h
  refine ⟨A, c, hv, hc, hm2, hn, ⟨hf.1, fun hp => ?_⟩, hl⟩
  obtain ⟨ad, e, hh⟩ := hf.2 hp
  subst e
  refine ⟨ad, rfl, fun j r hj => ⟨(hh j r hj).1, fun i u hu => ?_⟩⟩
  have hcell := (hh j r hj).2 i u hu
  have hb : (ad.add (j * sz + i)).block = ad.block := by unfold Addr.add; split <;> rfl
  rw [t.cell (World.block_lt_of_cell? w _ hcell) (by rw [hb]; exact hF _ (by rw [hv]; rfl))]
  exact hcell
/-- a writer -/
abbrev wtr (b : Nat) (bv : Value) (bytes : List Int) (wrong : Bool) : List Th := [tBlk b #[bv, .bool wrong] 98, tOwn 5 1 bv (bys bytes)]
set_option maxHeartbeats 2000000 in
theorem bits_is (x : Int) (hx : 0 ≤ x ∧ x < 18446744073709551616) (w : World) (b : Nat) (bv : Value) (bytes : List Int) (wrong : Bool) (h : Got (wtr b bv bytes wrong) w) (hl : bytes.length ≤ 1000000) :
    Calls Try.prog 56 #[.pointer (some ⟨b, 0, none⟩), .int .u64 x] w fun e w' => e = .returned (.pointer (some ⟨b, 0, none⟩)) ∧ ∃ bv', Sep (fps (wtr b bv bytes wrong)) w (wtr b bv' (bytes ++ be8 x) wrong) w' := by
  obtain ⟨hx0, hx1⟩ := hx
  obtain ⟨F, hF⟩ : ∃ F, fps (wtr b bv bytes wrong) = F := ⟨_, rfl⟩
  have H0 := h.sep
  rw [hF] at H0
  rw [hF]
  have hh := Lib.hid H0
  clear h hF H0
  go_enter Try.func56, Try.ntmps56
  go_wp2_with fail
  go_loopw [5, 8] (fun v5 v8 wr => ∃ (k : Nat) (bv' : Value), k ≤ 8 ∧ v8 = .int .i64 k ∧ Sep F w (wtr b bv' (bytes ++ (be8 x).take k) wrong) wr) (fun _ v8 _ => 8 - (intOf v8).toNat)
  case atStart => exact ⟨0, bv, by omega, rfl, by simpa using hh.out⟩
  case round =>
    obtain ⟨k, bv', hk, rfl, H⟩ := hrel
    clear hh
    by_cases hlt : k < 8
    · have g1 : decide ((k : Int) < 8) = true := by simp; omega
      have hnext := be8_snoc x hlt
      obtain ⟨N, hN⟩ : ∃ N, 8 * (7 - k) = N := ⟨_, rfl⟩
      have hw2 : IntKind.i64.wrap (7 - (k : Int)) = ((7 - k : Nat) : Int) := by rw [IntWalk.i64_in _ (by omega)]; omega
      have hw1 : IntKind.i64.wrap (8 * ((7 - k : Nat) : Int)) = (N : Int) := by rw [IntWalk.i64_in _ (by omega)]; omega
      have hsh : Op.shift .shr .u64 x .i64 (N : Int) = pure (.int .u64 (x / 2 ^ N)) := by
        rw [shift_shr_any .u64 .i64 x (N : Int) (by omega)]
        have : min ((N : Int).toNat) (IntKind.bits .u64) = N := by show min ((N : Int).toNat) 64 = N; omega
        rw [this]
      obtain ⟨y, hy⟩ : ∃ y, x / 2 ^ N % 256 = y := ⟨_, rfl⟩
      have hyw : IntKind.u8.wrap (x / 2 ^ N) = y := by rw [← hy]; simp [IntKind.wrap, IntKind.signed, IntKind.bits]
      rw [hN, hy] at hnext
      clear hN hy
      have hlen : (bytes ++ (be8 x).take k).length ≤ 1000008 := by rw [List.length_append, List.length_take, be8_len]; omega
      have hap : Hid (bytes ++ (be8 x).take (k + 1) = (bytes ++ (be8 x).take k) ++ [y]) := Lib.hid (by rw [hnext, List.append_assoc])
      generalize bytes ++ (be8 x).take k = cur at *
      clear hnext
      have H1 := H.drew
      have b1 := H1.blk 0 rfl
      have hHh := Lib.hid H1
      clear H H1
      go_wp2_with fail
      refine wp_region_flo2 [(0, true, [11, 12]), (1, true, [11, 12]), (2, true, [11, 12]), (3, true, [11, 12]), (4, true, [11]), (5, true, [11, 12]), (6, true, [11, 12]), (7, true, [11, 12]), (8, true, [11, 12]), (9, true, [11, 12]), (10, true, [12]), (11, false, []), (12, false, []), (13, true, [15]), (14, true, []), (15, false, [])] (fun j W => j = 11 → Blk W b #[bv', .bool wrong] 98) (by kernel_rfl) rfl (by kernel_rfl) (by intro c d v a w h; cases d <;> first | (simpa [Exit.then, Exit.inBlock, Act.put] using h) | exact h) ?_
      generalize wr.drew = w1 at *
      have d0 : w1.cell? ⟨b, 0, none⟩ = some _ := b1.cell 0
      first
        | (refine flo2_read _ rfl (fun _ => True) trivial (fun _ _ _ _ => trivial) (fun K hK => ?_); go_simp; first | (refine hK _ ?_) | (refine ⟨fun W _ => ?_, hK _ ?_⟩; · (go_simp)) | (refine ⟨fun W => ?_, hK _ ?_⟩; · (go_simp)))
        | (refine flo2_read _ rfl (fun W => W = _) rfl (by simp) (fun K hK => ?_); go_simp; first | (refine hK _ ?_) | (refine ⟨fun W hS => ?_, hK _ ?_⟩; · (subst hS; go_simp)) | (refine ⟨?_, hK _ ?_⟩; · (go_simp)))
      clear hK K
      first
        | (refine flo2_read _ rfl (fun _ => True) trivial (fun _ _ _ _ => trivial) (fun K hK => ?_); go_simp; first | (refine hK _ ?_) | (refine ⟨fun W _ => ?_, hK _ ?_⟩; · (go_simp)) | (refine ⟨fun W => ?_, hK _ ?_⟩; · (go_simp)))
        | (refine flo2_read _ rfl (fun W => W = _) rfl (by simp) (fun K hK => ?_); go_simp; first | (refine hK _ ?_) | (refine ⟨fun W hS => ?_, hK _ ?_⟩; · (subst hS; go_simp)) | (refine ⟨?_, hK _ ?_⟩; · (go_simp)))
      clear hK K
      first
        | (refine flo2_read _ rfl (fun _ => True) trivial (fun _ _ _ _ => trivial) (fun K hK => ?_); go_simp; first | (refine hK _ ?_) | (refine ⟨fun W _ => ?_, hK _ ?_⟩; · (go_simp)) | (refine ⟨fun W => ?_, hK _ ?_⟩; · (go_simp)))
        | (refine flo2_read _ rfl (fun W => W = _) rfl (by simp) (fun K hK => ?_); go_simp; first | (refine hK _ ?_) | (refine ⟨fun W hS => ?_, hK _ ?_⟩; · (subst hS; go_simp)) | (refine ⟨?_, hK _ ?_⟩; · (go_simp)))
      clear hK K
      first
        | (refine flo2_read _ rfl (fun _ => True) trivial (fun _ _ _ _ => trivial) (fun K hK => ?_); go_simp; first | (refine hK _ ?_) | (refine ⟨fun W _ => ?_, hK _ ?_⟩; · (go_simp)) | (refine ⟨fun W => ?_, hK _ ?_⟩; · (go_simp)))
        | (refine flo2_read _ rfl (fun W => W = _) rfl (by simp) (fun K hK => ?_); go_simp; first | (refine hK _ ?_) | (refine ⟨fun W hS => ?_, hK _ ?_⟩; · (subst hS; go_simp)) | (refine ⟨?_, hK _ ?_⟩; · (go_simp)))
      clear hK K
      refine flo2_read _ rfl (fun W => Blk W b #[bv', .bool wrong] 98) (b1) (by simp) (fun K hK => ?_)
      go_simp
      first | (refine hK _ ?_) | (refine ⟨fun W hS => ?_, hK _ ?_⟩; · (have x0 : W.cell? ⟨b, 0, none⟩ = some _ := hS.cell 0; try go_simp))
      clear hK K
      first
        | (refine flo2_read _ rfl (fun _ => True) trivial (fun _ _ _ _ => trivial) (fun K hK => ?_); go_simp; first | (refine hK _ ?_) | (refine ⟨fun W _ => ?_, hK _ ?_⟩; · (go_simp)) | (refine ⟨fun W => ?_, hK _ ?_⟩; · (go_simp)))
        | (refine flo2_read _ rfl (fun W => W = _) rfl (by simp) (fun K hK => ?_); go_simp; first | (refine hK _ ?_) | (refine ⟨fun W hS => ?_, hK _ ?_⟩; · (subst hS; go_simp)) | (refine ⟨?_, hK _ ?_⟩; · (go_simp)))
      clear hK K
      first
        | (refine flo2_read _ rfl (fun _ => True) trivial (fun _ _ _ _ => trivial) (fun K hK => ?_); go_simp; first | (refine hK _ ?_) | (refine ⟨fun W _ => ?_, hK _ ?_⟩; · (go_simp)) | (refine ⟨fun W => ?_, hK _ ?_⟩; · (go_simp)))
        | (refine flo2_read _ rfl (fun W => W = _) rfl (by simp) (fun K hK => ?_); go_simp; first | (refine hK _ ?_) | (refine ⟨fun W hS => ?_, hK _ ?_⟩; · (subst hS; go_simp)) | (refine ⟨?_, hK _ ?_⟩; · (go_simp)))
      clear hK K
      first
        | (refine flo2_read _ rfl (fun _ => True) trivial (fun _ _ _ _ => trivial) (fun K hK => ?_); go_simp; first | (refine hK _ ?_) | (refine ⟨fun W _ => ?_, hK _ ?_⟩; · (go_simp)) | (refine ⟨fun W => ?_, hK _ ?_⟩; · (go_simp)))
        | (refine flo2_read _ rfl (fun W => W = _) rfl (by simp) (fun K hK => ?_); go_simp; first | (refine hK _ ?_) | (refine ⟨fun W hS => ?_, hK _ ?_⟩; · (subst hS; go_simp)) | (refine ⟨?_, hK _ ?_⟩; · (go_simp)))
      clear hK K
      first
        | (refine flo2_read _ rfl (fun _ => True) trivial (fun _ _ _ _ => trivial) (fun K hK => ?_); go_simp; first | (refine hK _ ?_) | (refine ⟨fun W _ => ?_, hK _ ?_⟩; · (go_simp)) | (refine ⟨fun W => ?_, hK _ ?_⟩; · (go_simp)))
        | (refine flo2_read _ rfl (fun W => W = _) rfl (by simp) (fun K hK => ?_); go_simp; first | (refine hK _ ?_) | (refine ⟨fun W hS => ?_, hK _ ?_⟩; · (subst hS; go_simp)) | (refine ⟨?_, hK _ ?_⟩; · (go_simp)))
      clear hK K
      first
        | (refine flo2_read _ rfl (fun _ => True) trivial (fun _ _ _ _ => trivial) (fun K hK => ?_); go_simp; first | (refine hK _ ?_) | (refine ⟨fun W _ => ?_, hK _ ?_⟩; · (go_simp)) | (refine ⟨fun W => ?_, hK _ ?_⟩; · (go_simp)))
        | (refine flo2_read _ rfl (fun W => W = _) rfl (by simp) (fun K hK => ?_); go_simp; first | (refine hK _ ?_) | (refine ⟨fun W hS => ?_, hK _ ?_⟩; · (subst hS; go_simp)) | (refine ⟨?_, hK _ ?_⟩; · (go_simp)))
      clear hK K
      first
        | (refine flo2_read _ rfl (fun _ => True) trivial (fun _ _ _ _ => trivial) (fun K hK => ?_); go_simp; first | (refine hK _ ?_) | (refine ⟨fun W _ => ?_, hK _ ?_⟩; · (go_simp)) | (refine ⟨fun W => ?_, hK _ ?_⟩; · (go_simp)))
        | (refine flo2_read _ rfl (fun W => W = _) rfl (by simp) (fun K hK => ?_); go_simp; first | (refine hK _ ?_) | (refine ⟨fun W hS => ?_, hK _ ?_⟩; · (subst hS; go_simp)) | (refine ⟨?_, hK _ ?_⟩; · (go_simp)))
      clear hK K
      clear d0
      refine flo2_alone _ rfl ?_
      go_wp2_with fail
      have R1 : RdS 1 (w1.alloc (.cells #[.int .u8 y] 5)) (.slice (some ⟨w1.heap.size, 0, none⟩) 1 1) (bys [y]) := RdS.of_blk (l := [y]) (heap_alloc w1 (.cells #[.int .u8 y] 5)).1 rfl 1 (by simp) (by decide)
      have H2 := hHh.out.turns ((Turns.refl [] w1).alloc (.cells #[.int .u8 y] 5))
      have b2 := H2.blk 0 rfl
      refine ⟨fun _ => b2, _, fun _ _ h => h, ?_⟩
      clear hHh b1 b2
      generalize w1.alloc (.cells #[.int .u8 y] 5) = w2 at *
      refine flo2_alone _ rfl ?_
      refine H2.append 1 rfl R1 (cur.length + 1) (by simp) (bys (cur ++ [y])) (bys_append _ _) rfl _ _ _ rfl (.int .u8 0) 1 Try.underlying55 info5 rfl (by decide) rfl rfl (bys_one _) (by omega) (by omega) ?_
      intro A3 c3 w3 H3 t3 hnil
      clear R1 H2
      go_wp2_with fail
      refine ⟨by simp, _, fun _ _ h => h, ?_⟩
      first
        | (refine flo2_read _ rfl (fun _ => True) trivial (fun _ _ _ _ => trivial) (fun K hK => ?_); go_simp; first | (refine hK _ ?_) | (refine ⟨fun W _ => ?_, hK _ ?_⟩; · (go_simp)) | (refine ⟨fun W => ?_, hK _ ?_⟩; · (go_simp)))
        | (refine flo2_read _ rfl (fun W => W = _) rfl (by simp) (fun K hK => ?_); go_simp; first | (refine hK _ ?_) | (refine ⟨fun W hS => ?_, hK _ ?_⟩; · (subst hS; go_simp)) | (refine ⟨?_, hK _ ?_⟩; · (go_simp)))
      clear hK K
      first
        | (refine flo2_read _ rfl (fun _ => True) trivial (fun _ _ _ _ => trivial) (fun K hK => ?_); go_simp; first | (refine hK _ ?_) | (refine ⟨fun W _ => ?_, hK _ ?_⟩; · (go_simp)) | (refine ⟨fun W => ?_, hK _ ?_⟩; · (go_simp)))
        | (refine flo2_read _ rfl (fun W => W = _) rfl (by simp) (fun K hK => ?_); go_simp; first | (refine hK _ ?_) | (refine ⟨fun W hS => ?_, hK _ ?_⟩; · (subst hS; go_simp)) | (refine ⟨?_, hK _ ?_⟩; · (go_simp)))
      clear hK K
      have f3 := (H3.blk 0 rfl).frozen 0
      have d3 : w3.cell? ⟨b, 0, none⟩ = some _ := (H3.blk 0 rfl).cell 0
      have H4 := Lib.hid (H3.set 0 rfl 0 (.slice A3 (cur.length + 1) c3))
      clear H3 t3 hnil
      refine flo2_alone _ rfl ?_
      go_wp2_with fail
      refine ⟨by simp, _, fun _ _ h => h, ?_⟩
      refine flo2_end ?_
      go_wp2_with fail
      go_roundw
      case rel => exact ⟨k + 1, _, by omega, by go_num, by rw [hap.out]; exact H4.out⟩
      case measure => simp [intOf]; omega
    · obtain rfl : k = 8 := by omega
      have H8 : Sep F w (wtr b bv' (bytes ++ be8 x) wrong) wr := by
        have e : (be8 x).take 8 = be8 x := List.take_of_length_le (by rw [be8_len]; omega)
        rw [e] at H; exact H
      clear H
      go_wp2_with fail
      go_ret
      exact ⟨rfl, bv', H8⟩
set_option maxHeartbeats 1000000 in
theorem num_is (w : World) (b : Nat) (bv : Value) (bytes : List Int) (wrong : Bool) (h : Got (wtr b bv bytes wrong) w) (v : Value) (l : List Int) (hv : RdS 1 w v (ins l)) (hvn : ∀ k, v.ownBlock = some k → k ∉ fps (wtr b bv bytes wrong)) (hl : bytes.length + 8 * l.length ≤ 100000)
    (hb : ∀ x ∈ l, -9223372036854775808 ≤ x ∧ x ≤ 9223372036854775807) :
    Calls Try.prog 54 #[.pointer (some ⟨b, 0, none⟩), v] w fun e w' => e = .returned (.pointer (some ⟨b, 0, none⟩)) ∧ ∃ bv', Sep (fps (wtr b bv bytes wrong)) w (wtr b bv' (bytes ++ putR (l.map u64)) (wrong || !(l.all okNum))) w' := by
  obtain ⟨A, c, hA, _⟩ := hv.form
  simp only [ins_len] at hA
  subst hA
  obtain ⟨F, hF⟩ : ∃ F, fps (wtr b bv bytes wrong) = F := ⟨_, rfl⟩
  have H0 := h.sep
  rw [hF] at H0 hvn
  rw [hF]
  have hh := Lib.hid H0
  have hvh := Lib.hid hv
  have hvnh := Lib.hid hvn
  have hb' := Lib.hid hb
  clear h hv hvn hb hF H0
  go_enter Try.func54, Try.ntmps54
  go_wp2_with fail
  go_loopw [6, 9] (fun v6 v9 wr => ∃ (k : Nat) (bv' : Value), k ≤ l.length ∧ v9 = .int .i64 k ∧ Sep F w (wtr b bv' (bytes ++ putR ((l.take k).map u64)) (wrong || !((l.take k).all okNum))) wr) (fun _ v9 _ => l.length - (intOf v9).toNat)
  case atStart => exact ⟨0, bv, by omega, rfl, by simpa [putR] using hh.out⟩
  case round =>
    obtain ⟨k, bv', hk, rfl, H⟩ := hrel
    clear hh
    by_cases hlt : k < l.length
    · have g1 : decide ((k : Int) < (l.length : Int)) = true := by simp; omega
      obtain ⟨x, hx⟩ : ∃ x, l[k]? = some x := ⟨_, List.getElem?_eq_getElem hlt⟩
      have hvr := RdS.far hvh.out H.t hvnh.out
      obtain ⟨ad, c', hvv, _, hcell⟩ := hvr.at_ (j := k) (r := [.int .i64 x]) (by unfold ins; rw [List.getElem?_map, hx]; rfl)
      injection hvv with e1 e2 e3
      subst e1 e3
      have i0 := hcell 0 _ rfl
      rw [Nat.mul_one, Nat.add_zero] at i0
      have hsn : l.take (k + 1) = l.take k ++ [x] := by rw [List.take_add_one, hx]; rfl
      have hxb := hb'.out x (List.mem_of_getElem? hx)
      have hcl : (bytes ++ putR ((l.take k).map u64)).length ≤ 1000000 := by rw [List.length_append, putR_len, List.length_map, List.length_take]; omega
      have hnb : bytes ++ putR ((l.take (k + 1)).map u64) = (bytes ++ putR ((l.take k).map u64)) ++ be8 (u64 x) := by rw [hsn, List.map_append, List.map_cons, List.map_nil, putR_snoc, List.append_assoc]
      have hnw : (wrong || !((l.take (k + 1)).all okNum)) = ((wrong || !((l.take k).all okNum)) || !(okNum x)) := by
        rw [hsn, List.all_append]; simp [Bool.or_assoc]
      generalize bytes ++ putR ((l.take k).map u64) = cur at *
      generalize (wrong || !((l.take k).all okNum)) = wr0 at *
      have hux : IntKind.u64.wrap x = u64 x := by unfold u64; simp [IntKind.wrap, IntKind.signed, IntKind.bits]
      have hubh : Hid (0 ≤ u64 x ∧ u64 x < 18446744073709551616) := Lib.hid (by unfold u64; omega)
      have hll : l.length ≤ 100000 := by omega
      have hHh := Lib.hid H
      clear e2
      clear hsn hx hvr hl hxb hcell H
      by_cases hok : okNum x = true
      · have hok2 : 0 ≤ x ∧ x ≤ 4611686018427387904 := by unfold okNum at hok; simpa using hok
        have g2 : decide (x < 0) = false := decide_eq_false (by omega)
        have g3 : decide (x > 4611686018427387904) = false := decide_eq_false (by omega)
        rw [hok, Bool.not_true, Bool.or_false] at hnw
        have hnwh : Hid _ := hnw
        have hnbh : Hid _ := hnb
        clear hok hnw hnb
        go_wp2_with fail
        go_at_call 56
        refine Calls.mono (bits_is _ hubh.out _ b bv' cur wr0 (hHh.out.got [0, 1]) hcl) ?_
        rintro e w2 ⟨rfl, bv2, h2⟩
        have H2 := Lib.hid (hHh.out.call [0, 1] h2)
        clear hHh h2
        go_wp2_with fail
        go_roundw
        case rel => exact ⟨k + 1, bv2, by omega, by go_num, by rw [hnbh.out, hnwh.out]; exact H2.out⟩
        case measure => simp [intOf]; omega
      · have hok2 : x < 0 ∨ x > 4611686018427387904 := by
          unfold okNum at hok
          have : ¬ (0 ≤ x ∧ x ≤ 4611686018427387904) := by simpa using hok
          omega
        have hokf : okNum x = false := by simpa using hok
        rw [hokf, Bool.not_false, Bool.or_true] at hnw
        have hnwh : Hid _ := hnw
        have hnbh : Hid _ := hnb
        have g4 : (decide (x < 0) = true) ∨ (decide (x < 0) = false ∧ decide (x > 4611686018427387904) = true) := by
          by_cases h1 : x < 0
          · exact .inl (decide_eq_true h1)
          · exact .inr ⟨decide_eq_false h1, decide_eq_true (by omega)⟩
        have d1 : wr.cell? ⟨b, 1, none⟩ = some _ := (hHh.out.blk 0 rfl).cell 1
        have f1 := (hHh.out.blk 0 rfl).frozen 1
        have hW2 := Lib.hid (hHh.out.set 0 rfl 1 (.bool true))
        clear hok hokf hok2 hnw hnb hHh
        rcases g4 with g4 | ⟨g4, g5⟩
        all_goals
          go_wp2_with fail
          go_at_call 56
          refine (bits_is _ hubh.out _ b bv' cur true (hW2.out.got [0, 1]) hcl).mono ?_
          rintro e w2 ⟨rfl, bv2, h2⟩
          have H2 := Lib.hid (hW2.out.call [0, 1] h2)
          clear hW2 h2
          go_wp2_with fail
          go_roundw
          case rel => exact ⟨k + 1, bv2, by omega, by go_num, by rw [hnbh.out, hnwh.out]; exact H2.out⟩
          case measure => simp [intOf]; omega
    · obtain rfl : k = l.length := by omega
      have g1 : decide ((l.length : Int) < (l.length : Int)) = false := by simp
      rw [List.take_length] at H
      go_wp2_with fail
      go_ret
      exact ⟨rfl, bv', H⟩
theorem isW {F : List Nat} {w0 w : World} {b : Nat} {bv : Value} {bytes : List Int} {wrong : Bool} {r : List Th} (h : Sep F w0 (wtr b bv bytes wrong ++ r) w) : IsW 0 w b bv bytes wrong :=
  ⟨h.blk 0 rfl, h.own 1 rfl, Nat.zero_le _, fun _ _ => Nat.zero_le _, Nat.zero_le _⟩
end Go.Proofs.Ytohokckpheljbaa.Na
