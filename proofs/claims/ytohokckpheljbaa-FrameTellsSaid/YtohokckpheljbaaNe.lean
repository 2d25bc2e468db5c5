/- frame.readToken. -/
import Derived.Test.YtohokckpheljbaaNd
set_option linter.unusedVariables false
set_option linter.unusedSimpArgs false
set_option maxRecDepth 100000
namespace Go.Proofs.Ytohokckpheljbaa.Ne_
open Go.RowKit Go.MapKept Hm Hs Hr Hb Hf Hg Hv Hx Fa Ff Fg Fi Fj Fq Kw Kn Kr Ks Kt Na Nb Nz Nd
theorem info3 : (Try.prog.info? 3).map (fun i => (i.zero, i.size, i.bytes)) = some (some (.int .i64 0), 1, 8) := by kernel_rfl
/-- the rows' leases -/
def tOuts (X : List Rw) (R : List Row) : Th := ⟨X.flatMap fun x => x.out.ownBlock.toList, fun w => RowsIs w X R ∧ ∀ x ∈ X, ∀ k, x.out.ownBlock = some k → k < w.heap.size, fun {w} h k hk => by
    obtain ⟨x, hx, hk⟩ := List.mem_flatMap.1 hk
    exact h.2 x hx k (by simpa using hk), fun {w w'} h hm => by
    refine ⟨(⟨h.1.1, fun j x r hx hr => ?_⟩ : RowsIs w' X R), fun x hx k hk => lt_same (hm k (List.mem_flatMap.2 ⟨x, hx, by simpa using hk⟩)) (h.2 x hx k hk)⟩
    obtain ⟨a, b, c, d⟩ := h.1.2 j x r hx hr
    exact ⟨a, b, c, RdS.blocks d (fun k hk => hm k (List.mem_flatMap.2 ⟨x, List.mem_of_getElem? hx, by simpa using hk⟩))⟩⟩
theorem Sep_outs0 {F : List Nat} {w0 w : World} {l : List Th} (H : Sep F w0 l w) : Sep F w0 (tOuts [] [] :: l) w := H.fresh (Turns.refl _ _) _ ⟨RowsIs.nil w, by simp⟩ (by simp [tOuts])
/-- one more row -/
theorem Sep_snoc {F : List Nat} {w0 w : World} {l : List Th} {X : List Rw} {R : List Row} {ov : Value} {r : Row} (H : Sep F w0 (tOwn 83 2 ov (lss r.out) :: tOuts X R :: l) w) : Sep F w0 (tOuts (X ++ [⟨r.key, r.avail, r.mark, ov⟩]) (R ++ [r]) :: l) w := by
  have H1 : Sep F w0 ([tOwn 83 2 ov (lss r.out), tOuts X R] ++ l) w := H
  refine H1.shut_ ?_ ?_
  · intro k hk
    obtain ⟨x, hx, hk⟩ := List.mem_flatMap.1 (show k ∈ (X ++ [Rw.mk r.key r.avail r.mark ov]).flatMap (fun x : Rw => x.out.ownBlock.toList) from hk)
    rcases List.mem_append.1 hx with hx | hx
    · simp only [fps, List.flatMap_cons, List.flatMap_nil, List.append_nil]
      exact List.mem_append_right _ (show k ∈ (tOuts X R).fp from List.mem_flatMap.2 ⟨x, hx, hk⟩)
    · have := List.mem_singleton.1 hx
      subst this
      simp only [fps, List.flatMap_cons]
      exact List.mem_append_left _ hk
  · intro hP _
    have h1 : OwnS 83 2 w ov (lss r.out) := hP (tOwn 83 2 ov (lss r.out)) (by simp)
    have h2 : RowsIs w X R ∧ ∀ x ∈ X, ∀ k, x.out.ownBlock = some k → k < w.heap.size := hP (tOuts X R) (by simp)
    refine ⟨h2.1.snoc ⟨rfl, rfl, rfl, h1.reads⟩, fun x hx k hk => ?_⟩
    rcases List.mem_append.1 hx with hx | hx
    · exact h2.2 x hx k hk
    · have := List.mem_singleton.1 hx
      subst this
      exact h1.lt hk
abbrev zeroT : Array Value := #[.int .i64 0, .int .i64 0, .slice none 0 0, .int .i64 0, .slice none 0 0]
set_option maxHeartbeats 8000000 in
theorem readToken_is (w : World) (b : Nat) (own : Option Nat) (s : St) (h : IsRd 126 w b own s) (hm : s.bytes.length ≤ 1000000) :
    Calls Try.prog 47 #[.pointer (some ⟨b, 0, none⟩)] w fun e w' => ∃ sv rv X, e = .returned (tkv (tokP s).1 sv rv) ∧ Sep (b :: own.toList) w [tOwn 3 1 sv (ins (tokP s).1.st), tOwn 86 4 rv (X.map Rw.cells), tOuts X (tokP s).1.rows, tRd 126 b own (tokP s).2] w' := by
  have H : Sep (b :: own.toList) w [tRd 126 b own s] w := by simpa [fps, tRd] using (Got.one (T := tRd 126 b own s) h).sep
  obtain ⟨Z, hZ⟩ : ∃ Z : Ending → World → Prop, Z = fun e w' => ∃ sv rv X, e = .returned (tkv (tokP s).1 sv rv) ∧ Sep (b :: own.toList) w [tOwn 3 1 sv (ins (tokP s).1.st), tOwn 86 4 rv (X.map Rw.cells), tOuts X (tokP s).1.rows, tRd 126 b own (tokP s).2] w' := ⟨_, rfl⟩
  rw [← hZ]
  have hZh : Hid (∀ A n c A' n' c' X w', Sep (b :: own.toList) w [tOwn 3 1 (.slice A n c) (ins (tokP s).1.st), tOwn 86 4 (.slice A' n' c') (X.map Rw.cells), tOuts X (tokP s).1.rows, tRd 126 b own (tokP s).2] w' → Z (.returned (.agg #[.int .i64 (tokP s).1.gen, .int .i64 (tokP s).1.hop, .slice A n c, .int .i64 (tokP s).1.start, .slice A' n' c'])) w') := Lib.hid (fun A n c A' n' c' X w' h1 => by rw [hZ]; exact ⟨_, _, X, rfl, h1⟩)
  obtain ⟨F, hF⟩ : ∃ F, b :: own.toList = F := ⟨_, rfl⟩
  rw [hF] at H hZh
  obtain ⟨s1, h1⟩ : ∃ s1, numP s = s1 := ⟨_, rfl⟩
  obtain ⟨s2, h2⟩ : ∃ s2, numP s1.2 = s2 := ⟨_, rfl⟩
  obtain ⟨s3, h3⟩ : ∃ s3, s2.2.upto 64 = s3 := ⟨_, rfl⟩
  obtain ⟨n, hn⟩ : ∃ n : Nat, s3.1.toNat = n := ⟨_, rfl⟩
  obtain ⟨s4, h4⟩ : ∃ s4, stP n s3.2 = s4 := ⟨_, rfl⟩
  obtain ⟨s5, h5⟩ : ∃ s5, numP s4.2 = s5 := ⟨_, rfl⟩
  obtain ⟨s6, h6⟩ : ∃ s6, s5.2.upto 16 = s6 := ⟨_, rfl⟩
  obtain ⟨m, hm2⟩ : ∃ m : Nat, s6.1.toNat = m := ⟨_, rfl⟩
  have l1 := num_len s
  have l2 := num_len s1.2
  have l3 := upto_len s2.2 64
  have l4 := st_len n s3.2
  have l5 := num_len s4.2
  have l6 := upto_len s5.2 16
  have b1 := num_byt h.bd
  rw [h1] at l1 b1
  have b2 := num_byt b1
  rw [h2] at l2 b2
  have b3 := upto_bd b2 64 (by omega)
  have b3' : Byt (s2.2.upto 64).2.bytes := upto_byt b2
  rw [h3] at l3 b3 b3'
  have b4 := st_byt n b3'
  rw [h4] at l4 b4
  have b5 := num_byt b4
  rw [h5] at l5 b5
  have b6 := upto_bd b5 16 (by omega)
  rw [h6] at l6 b6
  have hr1 : (tokP s).1 = ⟨s1.1, s2.1, s4.1, s5.1, (rowsP m s6.2).1⟩ := by unfold tokP; simp only [h1, h2, h3, hn, h4, h5, h6, hm2]
  have hr2 : (tokP s).2 = (rowsP m s6.2).2 := by unfold tokP; simp only [h1, h2, h3, hn, h4, h5, h6, hm2]
  rw [hr1, hr2] at hZh
  simp only at hZh
  have hn' : s3.1 = (n : Int) := by omega
  have hm' : s6.1 = (m : Int) := by omega
  have hn64 : n ≤ 64 := by omega
  have hm16 : m ≤ 16 := by omega
  have hH0 := Lib.hid (H.alloc zeroT 39)
  have C1 := Lib.hid (fun W (h : IsRd 126 W b own s) => rnum_is W b own s h hm)
  have C2 := Lib.hid (fun W (h : IsRd 126 W b own s1.2) => rnum_is W b own s1.2 h (by omega))
  have C3 := Lib.hid (fun W (h : IsRd 126 W b own s2.2) => upto_is 64 (by omega) W b own s2.2 h (by omega))
  have C5 := Lib.hid (fun W (h : IsRd 126 W b own s4.2) => rnum_is W b own s4.2 h (by omega))
  have C6 := Lib.hid (fun W (h : IsRd 126 W b own s5.2) => upto_is 16 (by omega) W b own s5.2 h (by omega))
  have hl3 : Hid (s3.2.bytes.length ≤ 1000000) := Lib.hid (by omega)
  have hl6 : Hid (s6.2.bytes.length ≤ 1000000) := Lib.hid (by omega)
  have h4h := Lib.hid h4
  rw [h1] at C1
  rw [h2] at C2
  rw [h3, hn'] at C3
  rw [h5] at C5
  rw [h6, hm'] at C6
  clear h hZ hF H h1 h2 h3 h4 h5 h6 l1 l2 l3 l4 l5 l6 b1 b2 b3 b3' b4 b5 b6 hr1 hr2 hn hm hn' hm' hm2
  go_enter Try.func47, Try.ntmps47
  go_wp2_with fail
  go_at_call 46
  refine Calls.mono (C1.out _ (Sep_isRd hH0.out 1 rfl)) ?_
  rintro e w1 ⟨rfl, r1, t1⟩
  have hH1 := Lib.hid (Sep_rd hH0.out 1 rfl r1 t1)
  clear C1 hH0 r1 t1
  go_wp2_with fail
  go_at_call 46
  refine Calls.mono (C2.out _ (Sep_isRd hH1.out 1 rfl)) ?_
  rintro e w2 ⟨rfl, r2, t2⟩
  have hH2 := Lib.hid (Sep_rd hH1.out 1 rfl r2 t2)
  clear C2 hH1 r2 t2
  have hH3 := Lib.hid (((hH2.out.alloc #[.int .i64 s1.1, .int .i64 s2.1, .slice none 0 0, .int .i64 0, .slice none 0 0] 39).nilSlice 3 1).keep [1, 0, 3, 2])
  clear hH2
  go_upto_region 2 with fail
  generalize w2.alloc (.cells #[.int .i64 s1.1, .int .i64 s2.1, .slice none 0 0, .int .i64 0, .slice none 0 0] 39) = w3 at *
  generalize w2.heap.size = tb at *
  generalize w.heap.size = rb at *
  go_wp2_with fail
  go_at_call 82
  refine Calls.mono (C3.out _ (Sep_isRd hH3.out 2 rfl)) ?_
  rintro e w4 ⟨rfl, r4, t4⟩
  have hH4 := Lib.hid (Sep_rd hH3.out 2 rfl r4 t4)
  clear C3 hH3 r4 t4
  go_wp2_with fail
  go_loopw [11] (fun v11 wr => ∃ (k : Nat) (A : Option Addr) (q c : Nat), k ≤ n ∧ v11 = .int .i64 k ∧ Sep F w [tBlk tb #[.int .i64 s1.1, .int .i64 s2.1, .slice A q c, .int .i64 0, .slice none 0 0] 39, tOwn 3 1 (.slice A q c) (ins (stP k s3.2).1), tRd 126 b own (stP k s3.2).2, tBlk rb zeroT 39] wr) (fun v11 _ => n - (intOf v11).toNat)
  case atStart => exact ⟨0, none, 0, 0, by omega, rfl, hH4.out⟩
  case round =>
    clear hH4
    obtain ⟨k, A, q, c, hk, rfl, H⟩ := hrel
    by_cases hlt : k < n
    · have g1 : decide ((k : Int) < (n : Int)) = true := decide_eq_true (by omega)
      have g1b : decide (k < n) = true := decide_eq_true hlt
      obtain ⟨p, hp⟩ : ∃ p, stP k s3.2 = p := ⟨_, rfl⟩
      obtain ⟨q1, hq1⟩ : ∃ q, numP p.2 = q := ⟨_, rfl⟩
      have hnx : Hid (stP (k + 1) s3.2 = (p.1 ++ [q1.1 - 1], q1.2)) := Lib.hid (by rw [show stP (k + 1) s3.2 = ((stP k s3.2).1 ++ [(numP (stP k s3.2).2).1 - 1], (numP (stP k s3.2).2).2) from rfl, hp, hq1])
      have k0 := st_len k s3.2
      have hpl := stP_length k s3.2
      rw [hp] at H k0 hpl
      have hl3' := hl3.out
      have hbd := num_bd (Sep_isRd H 2 rfl).bd
      rw [hq1] at hbd
      have hw1 : IntKind.i64.wrap (q1.1 - 1) = q1.1 - 1 := IntWalk.i64_in _ (by omega)
      have D1 := Lib.hid (fun W (h : IsRd 126 W b own p.2) => rnum_is W b own p.2 h (by omega))
      rw [hq1] at D1
      have H6h := Lib.hid H.drew
      clear H hp hq1 k0 hl3' hbd
      go_wp2_with fail
      go_wp2_with fail
      refine wp_region_flo2 [(0, true, [3, 5, 6]), (1, true, [3, 5]), (2, true, [5, 6]), (3, false, []), (4, true, [6]), (5, false, []), (6, false, []), (7, true, []), (8, false, [])] (fun j W => Kx ⟨tb, 2, none⟩ (.slice A q c) 6 8 W j) (by kernel_rfl) rfl (by kernel_rfl) (by intro c d v a w h; cases d <;> first | (simpa [Exit.then, Exit.inBlock, Act.put] using h) | exact h) ?_
      generalize wr.drew = w6 at *
      have x3 : w6.cell? ⟨tb, 2, none⟩ = some _ := (H6h.out.blk 0 rfl).cell 2
      first
        | (refine flo2_read _ rfl (fun _ => True) trivial (fun _ _ _ _ => trivial) (fun K hK => ?_); go_simp; first | (refine hK _ ?_) | (refine ⟨fun W _ => ?_, hK _ ?_⟩; · (go_simp)) | (refine ⟨fun W => ?_, hK _ ?_⟩; · (go_simp)))
        | (refine flo2_read _ rfl (fun W => W = _) rfl (by simp) (fun K hK => ?_); go_simp; first | (refine hK _ ?_) | (refine ⟨fun W hS => ?_, hK _ ?_⟩; · (subst hS; go_simp)) | (refine ⟨?_, hK _ ?_⟩; · (go_simp)))
      clear hK K
      refine flo2_read _ rfl (fun W => Kv ⟨tb, 2, none⟩ (.slice A q c) W) (⟨x3⟩) (fun j hj W hW => ⟨hW.out (by simp at hj; omega) (by simp at hj; omega)⟩) (fun K hK => ?_)
      go_simp
      first | (refine hK _ ?_) | (refine ⟨fun W hS => ?_, hK _ ?_⟩; · (have x3' := hS.out; try go_simp))
      clear hK K
      first
        | (refine flo2_read _ rfl (fun _ => True) trivial (fun _ _ _ _ => trivial) (fun K hK => ?_); go_simp; first | (refine hK _ ?_) | (refine ⟨fun W _ => ?_, hK _ ?_⟩; · (go_simp)) | (refine ⟨fun W => ?_, hK _ ?_⟩; · (go_simp)))
        | (refine flo2_read _ rfl (fun W => W = _) rfl (by simp) (fun K hK => ?_); go_simp; first | (refine hK _ ?_) | (refine ⟨fun W hS => ?_, hK _ ?_⟩; · (subst hS; go_simp)) | (refine ⟨?_, hK _ ?_⟩; · (go_simp)))
      clear hK K
      clear x3
      refine flo2_alone _ rfl ?_
      go_wp2_with fail
      go_at_call 46
      refine Calls.mono (D1.out _ (Sep_isRd H6h.out 2 rfl)) ?_
      rintro e w7 ⟨rfl, r7, t7⟩
      have H8h := Lib.hid (Sep_rd H6h.out 2 rfl r7 t7)
      clear D1 H6h r7 t7
      go_wp2_with fail
      refine ⟨⟨fun _ _ => (H8h.out.blk 0 rfl).cell 2⟩, _, fun _ _ h => h, ?_⟩
      first
        | (refine flo2_read _ rfl (fun _ => True) trivial (fun _ _ _ _ => trivial) (fun K hK => ?_); go_simp; first | (refine hK _ ?_) | (refine ⟨fun W _ => ?_, hK _ ?_⟩; · (go_simp)) | (refine ⟨fun W => ?_, hK _ ?_⟩; · (go_simp)))
        | (refine flo2_read _ rfl (fun W => W = _) rfl (by simp) (fun K hK => ?_); go_simp; first | (refine hK _ ?_) | (refine ⟨fun W hS => ?_, hK _ ?_⟩; · (subst hS; go_simp)) | (refine ⟨?_, hK _ ?_⟩; · (go_simp)))
      clear hK K
      refine flo2_alone _ rfl ?_
      go_wp2_with fail
      have R9 : RdS 1 (w7.alloc (.cells #[.int .i64 (q1.1 - 1)] 3)) (.slice (some ⟨w7.heap.size, 0, none⟩) 1 1) (ins [q1.1 - 1]) := RdS.of_cells (rows := ins [q1.1 - 1]) (Blk.new w7 #[.int .i64 (q1.1 - 1)] 3) rfl (by intro r hr; simp [ins] at hr; subst hr; rfl) 1 (by simp [ins]) (by decide)
      have H9h := Lib.hid (H8h.out.turns ((Turns.refl [] w7).alloc (.cells #[.int .i64 (q1.1 - 1)] 3)))
      refine ⟨⟨fun _ _ => (H9h.out.blk 0 rfl).cell 2⟩, _, fun _ _ h => h, ?_⟩
      clear H8h
      generalize w7.alloc (.cells #[.int .i64 (q1.1 - 1)] 3) = w9 at *
      refine flo2_alone _ rfl ?_
      refine H9h.out.append 1 rfl R9 (k + 1) (by rw [ins_len, ins_len, hpl]; rfl) (ins (p.1 ++ [q1.1 - 1])) (ins_append _ _) rfl _ _ _ rfl (.int .i64 0) 8 Try.underlying34 info3 rfl (by decide) rfl rfl (ins_one _) (by omega) (by omega) ?_
      intro A3 c3 w10 H10 t10 hnil
      have H10h := Lib.hid H10
      clear R9 H9h H10 t10 hnil
      go_wp2_with fail
      refine ⟨⟨fun h _ => absurd rfl h⟩, _, fun _ _ h => h, ?_⟩
      first
        | (refine flo2_read _ rfl (fun _ => True) trivial (fun _ _ _ _ => trivial) (fun K hK => ?_); go_simp; first | (refine hK _ ?_) | (refine ⟨fun W _ => ?_, hK _ ?_⟩; · (go_simp)) | (refine ⟨fun W => ?_, hK _ ?_⟩; · (go_simp)))
        | (refine flo2_read _ rfl (fun W => W = _) rfl (by simp) (fun K hK => ?_); go_simp; first | (refine hK _ ?_) | (refine ⟨fun W hS => ?_, hK _ ?_⟩; · (subst hS; go_simp)) | (refine ⟨?_, hK _ ?_⟩; · (go_simp)))
      clear hK K
      have f3 := (H10h.out.blk 0 rfl).frozen 2
      have d3 : w10.cell? ⟨tb, 2, none⟩ = some _ := (H10h.out.blk 0 rfl).cell 2
      have H11 := Lib.hid (H10h.out.set 0 rfl 2 (.slice A3 (k + 1) c3))
      clear H10h
      refine flo2_alone _ rfl ?_
      go_wp2_with fail
      refine ⟨⟨fun _ h => absurd rfl h⟩, _, fun _ _ h => h, ?_⟩
      refine flo2_end ?_
      go_wp2_with fail
      go_roundw
      case rel => exact ⟨k + 1, _, _, _, by omega, by go_num, by rw [hnx.out]; exact H11.out⟩
      case measure => simp [RowKit.intOf]; omega
    · obtain rfl : k = n := by omega
      have g1 : decide ((k : Int) < (k : Int)) = false := by simp
      rw [h4h.out] at H
      have H5h := Lib.hid H
      clear H hlt hk h4h
      go_wp2_with fail
      go_at_call 46
      refine Calls.mono (C5.out _ (Sep_isRd H5h.out 2 rfl)) ?_
      rintro e w5 ⟨rfl, r5, t5⟩
      have H6 := Sep_rd H5h.out 2 rfl r5 t5
      have x3 : World.cell? (w5) ⟨tb, 3, none⟩ = some _ := (H6.blk 0 rfl).cell 3
      have xf3 : World.frozen? (w5) ⟨tb, 3, none⟩ = false := (H6.blk 0 rfl).frozen 3
      have H7h := Lib.hid (Sep_outs0 ((H6.set 0 rfl 3 (.int .i64 s5.1)).nilSlice 86 4))
      clear C5 H5h r5 t5 H6
      go_upto_region 7 with fail
      generalize w5.setCell ⟨tb, 3, none⟩ (.int .i64 s5.1) = w6 at *
      clear x3 xf3
      go_wp2_with fail
      go_at_call 82
      refine Calls.mono (C6.out _ (Sep_isRd H7h.out 4 rfl)) ?_
      rintro e w7 ⟨rfl, r7, t7⟩
      have H8h := Lib.hid ((Sep_rd H7h.out 4 rfl r7 t7).keep [2, 1, 0, 4, 3, 5])
      clear C6 H7h r7 t7
      go_wp2_with fail
      go_loopw [28] (fun v28 wr => ∃ (j : Nat) (X : List Rw) (A' : Option Addr) (m' c' : Nat), j ≤ m ∧ v28 = .int .i64 j ∧ X.length = j ∧ Sep F w [tBlk tb #[.int .i64 s1.1, .int .i64 s2.1, .slice A q c, .int .i64 s5.1, .slice A' m' c'] 39, tOwn 86 4 (.slice A' m' c') (X.map Rw.cells), tOuts X (rowsP j s6.2).1, tRd 126 b own (rowsP j s6.2).2, tOwn 3 1 (.slice A q c) (ins s4.1), tBlk rb zeroT 39] wr) (fun v28 _ => m - (intOf v28).toNat)
      case atStart => exact ⟨0, [], none, 0, 0, by omega, rfl, rfl, H8h.out⟩
      case round =>
        clear H8h
        obtain ⟨j, X, A', m', c', hj, rfl, hXl, H⟩ := hrel
        by_cases hlt : j < m
        · have g1 : decide ((j : Int) < (m : Int)) = true := decide_eq_true (by omega)
          have g1b : decide (j < m) = true := decide_eq_true hlt
          obtain ⟨p, hp⟩ : ∃ p, rowsP j s6.2 = p := ⟨_, rfl⟩
          obtain ⟨q1, hq1⟩ : ∃ q, rowP p.2 = q := ⟨_, rfl⟩
          have hnx : Hid (rowsP (j + 1) s6.2 = (p.1 ++ [q1.1], q1.2)) := Lib.hid (by rw [show rowsP (j + 1) s6.2 = ((rowsP j s6.2).1 ++ [(rowP (rowsP j s6.2).2).1], (rowP (rowsP j s6.2).2).2) from rfl, hp, hq1])
          have k0 := rows_len j s6.2
          rw [hp] at H k0
          have hl6' := hl6.out
          have D1 := Lib.hid (fun W (h : IsRd 126 W b own p.2) => readRow_is W b own p.2 h (by omega))
          rw [hq1] at D1
          have H6h := Lib.hid H.drew
          clear H hp hq1 k0 hl6'
          go_wp2_with fail
          go_wp2_with fail
          refine wp_region_flo2 [(0, true, [4, 5, 6]), (1, true, [4, 5, 6]), (2, true, [4, 5]), (3, true, [5, 6]), (4, false, []), (5, false, []), (6, false, []), (7, true, [9]), (8, true, []), (9, false, [])] (fun j W => Kx ⟨tb, 4, none⟩ (.slice A' m' c') 6 9 W j) (by kernel_rfl) rfl (by kernel_rfl) (by intro c d v a w h; cases d <;> first | (simpa [Exit.then, Exit.inBlock, Act.put] using h) | exact h) ?_
          generalize wr.drew = w8 at *
          have x3 : w8.cell? ⟨tb, 4, none⟩ = some _ := (H6h.out.blk 0 rfl).cell 4
          first
            | (refine flo2_read _ rfl (fun _ => True) trivial (fun _ _ _ _ => trivial) (fun K hK => ?_); go_simp; first | (refine hK _ ?_) | (refine ⟨fun W _ => ?_, hK _ ?_⟩; · (go_simp)) | (refine ⟨fun W => ?_, hK _ ?_⟩; · (go_simp)))
            | (refine flo2_read _ rfl (fun W => W = _) rfl (by simp) (fun K hK => ?_); go_simp; first | (refine hK _ ?_) | (refine ⟨fun W hS => ?_, hK _ ?_⟩; · (subst hS; go_simp)) | (refine ⟨?_, hK _ ?_⟩; · (go_simp)))
          clear hK K
          first
            | (refine flo2_read _ rfl (fun _ => True) trivial (fun _ _ _ _ => trivial) (fun K hK => ?_); go_simp; first | (refine hK _ ?_) | (refine ⟨fun W _ => ?_, hK _ ?_⟩; · (go_simp)) | (refine ⟨fun W => ?_, hK _ ?_⟩; · (go_simp)))
            | (refine flo2_read _ rfl (fun W => W = _) rfl (by simp) (fun K hK => ?_); go_simp; first | (refine hK _ ?_) | (refine ⟨fun W hS => ?_, hK _ ?_⟩; · (subst hS; go_simp)) | (refine ⟨?_, hK _ ?_⟩; · (go_simp)))
          clear hK K
          refine flo2_read _ rfl (fun W => Kv ⟨tb, 4, none⟩ (.slice A' m' c') W) (⟨x3⟩) (fun j hj W hW => ⟨hW.out (by simp at hj; omega) (by simp at hj; omega)⟩) (fun K hK => ?_)
          go_simp
          first | (refine hK _ ?_) | (refine ⟨fun W hS => ?_, hK _ ?_⟩; · (have x3' := hS.out; try go_simp))
          clear hK K
          first
            | (refine flo2_read _ rfl (fun _ => True) trivial (fun _ _ _ _ => trivial) (fun K hK => ?_); go_simp; first | (refine hK _ ?_) | (refine ⟨fun W _ => ?_, hK _ ?_⟩; · (go_simp)) | (refine ⟨fun W => ?_, hK _ ?_⟩; · (go_simp)))
            | (refine flo2_read _ rfl (fun W => W = _) rfl (by simp) (fun K hK => ?_); go_simp; first | (refine hK _ ?_) | (refine ⟨fun W hS => ?_, hK _ ?_⟩; · (subst hS; go_simp)) | (refine ⟨?_, hK _ ?_⟩; · (go_simp)))
          clear hK K
          clear x3
          refine flo2_alone _ rfl ?_
          go_wp2_with fail
          go_at_call 83
          refine Calls.mono (D1.out _ (Sep_isRd H6h.out 3 rfl)) ?_
          rintro e w9 ⟨ov, rfl, h9⟩
          have H9 := H6h.out.call1 3 rfl h9
          obtain ⟨n5, A5, c5, hov⟩ : ∃ n A c, ov = Value.slice A n c := by obtain ⟨A, c, h, _⟩ := (H9.own 0 rfl).form; exact ⟨_, A, c, h⟩
          subst hov
          have H9h := Lib.hid H9
          clear D1 H6h h9 H9
          go_wp2_with fail
          refine ⟨⟨fun _ _ => (H9h.out.blk 2 rfl).cell 4⟩, _, fun _ _ h => h, ?_⟩
          refine flo2_alone _ rfl ?_
          go_wp2_with fail
          have R9 : RdS 4 (w9.alloc (.cells #[.int .i64 q1.1.key, .int .i64 q1.1.avail, .int .i64 q1.1.mark, .slice A5 n5 c5] 86)) (.slice (some ⟨w9.heap.size, 0, none⟩) 1 1) ([Rw.mk q1.1.key q1.1.avail q1.1.mark (.slice A5 n5 c5)].map Rw.cells) := RdS.of_cells (rows := [Rw.mk q1.1.key q1.1.avail q1.1.mark (.slice A5 n5 c5)].map Rw.cells) (Blk.new w9 #[.int .i64 q1.1.key, .int .i64 q1.1.avail, .int .i64 q1.1.mark, .slice A5 n5 c5] 86) rfl (by intro r hr; simp at hr; subst hr; rfl) 1 (by simp) (by decide)
          have H10h := Lib.hid (H9h.out.turns ((Turns.refl [] w9).alloc (.cells #[.int .i64 q1.1.key, .int .i64 q1.1.avail, .int .i64 q1.1.mark, .slice A5 n5 c5] 86)))
          refine ⟨⟨fun _ _ => (H10h.out.blk 2 rfl).cell 4⟩, _, fun _ _ h => h, ?_⟩
          clear H9h
          generalize w9.alloc (.cells #[.int .i64 q1.1.key, .int .i64 q1.1.avail, .int .i64 q1.1.mark, .slice A5 n5 c5] 86) = w10 at *
          refine flo2_alone _ rfl ?_
          refine H10h.out.append 3 rfl R9 (j + 1) (by simp [hXl]) ((X ++ [Rw.mk q1.1.key q1.1.avail q1.1.mark (.slice A5 n5 c5)]).map Rw.cells) (by rw [List.map_append]) rfl _ _ _ rfl (.agg #[.int .i64 0, .int .i64 0, .int .i64 0, .slice none 0 0]) 48 Try.underlying35 infoRow rfl (by decide) rfl rfl (by intro r hr u hu; simp at hr; subst hr; simp [Rw.cells] at hu; rcases hu with rfl | rfl | rfl | rfl <;> rfl) (by omega) (by omega) ?_
          intro A3 c3 w11 H11 t11 hnil
          have H11h := Lib.hid H11
          clear R9 H10h H11 t11 hnil
          go_wp2_with fail
          refine ⟨⟨fun h _ => absurd rfl h⟩, _, fun _ _ h => h, ?_⟩
          first
            | (refine flo2_read _ rfl (fun _ => True) trivial (fun _ _ _ _ => trivial) (fun K hK => ?_); go_simp; first | (refine hK _ ?_) | (refine ⟨fun W _ => ?_, hK _ ?_⟩; · (go_simp)) | (refine ⟨fun W => ?_, hK _ ?_⟩; · (go_simp)))
            | (refine flo2_read _ rfl (fun W => W = _) rfl (by simp) (fun K hK => ?_); go_simp; first | (refine hK _ ?_) | (refine ⟨fun W hS => ?_, hK _ ?_⟩; · (subst hS; go_simp)) | (refine ⟨?_, hK _ ?_⟩; · (go_simp)))
          clear hK K
          first
            | (refine flo2_read _ rfl (fun _ => True) trivial (fun _ _ _ _ => trivial) (fun K hK => ?_); go_simp; first | (refine hK _ ?_) | (refine ⟨fun W _ => ?_, hK _ ?_⟩; · (go_simp)) | (refine ⟨fun W => ?_, hK _ ?_⟩; · (go_simp)))
            | (refine flo2_read _ rfl (fun W => W = _) rfl (by simp) (fun K hK => ?_); go_simp; first | (refine hK _ ?_) | (refine ⟨fun W hS => ?_, hK _ ?_⟩; · (subst hS; go_simp)) | (refine ⟨?_, hK _ ?_⟩; · (go_simp)))
          clear hK K
          have f3 := (H11h.out.blk 2 rfl).frozen 4
          have d3 : w11.cell? ⟨tb, 4, none⟩ = some _ := (H11h.out.blk 2 rfl).cell 4
          have H12 := (Sep_snoc ((H11h.out.set 2 rfl 4 (.slice A3 (j + 1) c3)).keep [0, 4, 2, 3, 1, 5, 6])).keep [1, 2, 0, 3, 4, 5]
          have H12h := Lib.hid H12
          clear H11h H12
          refine flo2_alone _ rfl ?_
          go_wp2_with fail
          refine ⟨⟨fun _ h => absurd rfl h⟩, _, fun _ _ h => h, ?_⟩
          refine flo2_end ?_
          go_wp2_with fail
          go_roundw
          case rel => exact ⟨j + 1, X ++ [Rw.mk q1.1.key q1.1.avail q1.1.mark (.slice A5 n5 c5)], _, _, _, by omega, by go_num, by simp [hXl], by rw [hnx.out]; exact H12h.out⟩
          case measure => simp [RowKit.intOf]; omega
        · obtain rfl : j = m := by omega
          have g1 : decide ((j : Int) < (j : Int)) = false := by simp
          have x0 : World.cell? (wr) ⟨tb, 0, none⟩ = some _ := (H.blk 0 rfl).cell 0
          have x1 : World.cell? (wr) ⟨tb, 1, none⟩ = some _ := (H.blk 0 rfl).cell 1
          have x2 : World.cell? (wr) ⟨tb, 2, none⟩ = some _ := (H.blk 0 rfl).cell 2
          have x3 : World.cell? (wr) ⟨tb, 3, none⟩ = some _ := (H.blk 0 rfl).cell 3
          have x4 : World.cell? (wr) ⟨tb, 4, none⟩ = some _ := (H.blk 0 rfl).cell 4
          have z0 : World.cell? (wr) ⟨rb, 0, none⟩ = some _ := (H.blk 5 rfl).cell 0
          have zf0 : World.frozen? (wr) ⟨rb, 0, none⟩ = false := (H.blk 5 rfl).frozen 0
          have z1 : World.cell? (wr) ⟨rb, 1, none⟩ = some _ := (H.blk 5 rfl).cell 1
          have zf1 : World.frozen? (wr) ⟨rb, 1, none⟩ = false := (H.blk 5 rfl).frozen 1
          have z2 : World.cell? (wr) ⟨rb, 2, none⟩ = some _ := (H.blk 5 rfl).cell 2
          have zf2 : World.frozen? (wr) ⟨rb, 2, none⟩ = false := (H.blk 5 rfl).frozen 2
          have z3 : World.cell? (wr) ⟨rb, 3, none⟩ = some _ := (H.blk 5 rfl).cell 3
          have zf3 : World.frozen? (wr) ⟨rb, 3, none⟩ = false := (H.blk 5 rfl).frozen 3
          have z4 : World.cell? (wr) ⟨rb, 4, none⟩ = some _ := (H.blk 5 rfl).cell 4
          have zf4 : World.frozen? (wr) ⟨rb, 4, none⟩ = false := (H.blk 5 rfl).frozen 4
          have H5 := Hp.Sep.fill H 5 rfl [.int .i64 s1.1, .int .i64 s2.1, .slice A q c, .int .i64 s5.1, .slice A' m' c'] rfl
          have hR5 := H5.blk 5 rfl
          have hX := hZh.out _ _ _ _ _ _ _ _ (H5.keep [4, 1, 2, 3])
          clear H5 H hZh
          go_wp2_with fail
          refine bodyPost_ret (res_one rfl (.cell rb _ _ _ rfl hR5 Try.underlying39 rfl (by kernel_rfl) .nil)) rfl ?_
          exact hX
end Go.Proofs.Ytohokckpheljbaa.Ne_
