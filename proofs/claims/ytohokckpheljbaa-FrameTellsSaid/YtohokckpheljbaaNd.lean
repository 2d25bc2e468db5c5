/- Readers as things; frame.readRow. -/
import Derived.Test.YtohokckpheljbaaNz
import Derived.Deep.Cut
import Derived.Test.YtohokckpheljbaaHp
set_option linter.unusedVariables false
set_option linter.unusedSimpArgs false
set_option maxRecDepth 100000
namespace Go.Proofs.Ytohokckpheljbaa.Nd
open Go.RowKit Go.MapKept Hm Hs Hr Hb Hf Hg Hv Hx Fa Ff Fg Fi Fj Kw Kn Kr Ks Kt Na Nb Nz
theorem lt_same {w w' : World} {k : Nat} (h : w'.heap[k]? = w.heap[k]?) (hk : k < w.heap.size) : k < w'.heap.size := by
  rw [Array.getElem?_eq_getElem hk] at h
  exact (Array.getElem?_eq_some_iff.1 h).1
/-- a reader -/
def tRd (T : TypeId) (b : Nat) (own : Option Nat) (s : St) : Th := ⟨b :: own.toList, fun w => IsRd T w b own s, fun {w} h k hk => by
    rcases List.mem_cons.1 hk with rfl | hk
    · obtain ⟨⟨bv, hb, _⟩, _⟩ := h
      exact hb.lt
    · exact h.lt k (by simpa using hk), fun {w w'} h hm => by
    obtain ⟨⟨bv, hb, hr, ho⟩, hne, hbd, hlt⟩ := h
    exact ⟨⟨bv, hb.move (hm b (by simp)), RdS.blocks hr (fun k hk => hm k (by rw [ho] at hk; simp [hk])), ho⟩, hne, hbd, fun k hk => lt_same (hm k (by simp [hk])) (hlt k hk)⟩⟩
theorem Sep_rd {F : List Nat} {w0 w w' : World} {l : List Th} (H : Sep F w0 l w) (i : Nat) {T : TypeId} {b : Nat} {own : Option Nat} {s s' : St} (hi : l[i]? = some (tRd T b own s)) (h' : IsRd T w' b own s') (t : Turns [b] w w') : Sep F w0 (l.set i (tRd T b own s')) w' :=
  H.step i hi (t.mono (by simp [tRd])) h' (fun k hk => .inl hk)
theorem Sep_isRd {F : List Nat} {w0 w : World} {l : List Th} (H : Sep F w0 l w) (i : Nat) {T : TypeId} {b : Nat} {own : Option Nat} {s : St} (hi : l[i]? = some (tRd T b own s)) : IsRd T w b own s := H.at_ i hi
theorem upto_len (s : St) (m : Int) : (s.upto m).2.bytes.length ≤ s.bytes.length := by
  have := bits_len s
  unfold St.upto
  split
  · exact this
  · split
    · exact this
    · exact this
theorem num_len (s : St) : (numP s).2.bytes.length ≤ s.bytes.length := upto_len s _
theorem ls_len : ∀ (n : Nat) (s : St), (lsP n s).2.bytes.length ≤ s.bytes.length
  | 0, _ => Nat.le_refl _
  | n + 1, s => Nat.le_trans (num_len _) (Nat.le_trans (num_len _) (ls_len n s))
theorem st_len : ∀ (n : Nat) (s : St), (stP n s).2.bytes.length ≤ s.bytes.length
  | 0, _ => Nat.le_refl _
  | n + 1, s => Nat.le_trans (num_len _) (st_len n s)
theorem row_len (s : St) : (rowP s).2.bytes.length ≤ s.bytes.length :=
  Nat.le_trans (ls_len _ _) (Nat.le_trans (upto_len _ _) (Nat.le_trans (num_len _) (Nat.le_trans (num_len _) (num_len s))))
theorem rows_len : ∀ (n : Nat) (s : St), (rowsP n s).2.bytes.length ≤ s.bytes.length
  | 0, _ => Nat.le_refl _
  | n + 1, s => Nat.le_trans (row_len _) (rows_len n s)
theorem tok_len (s : St) : (tokP s).2.bytes.length ≤ s.bytes.length :=
  Nat.le_trans (rows_len _ _) (Nat.le_trans (upto_len _ _) (Nat.le_trans (num_len _) (Nat.le_trans (st_len _ _) (Nat.le_trans (upto_len _ _) (Nat.le_trans (num_len _) (num_len s))))))
theorem upto_bd {s : St} (hb : Byt s.bytes) (m : Int) (hm : 0 ≤ m) : 0 ≤ (s.upto m).1 ∧ (s.upto m).1 ≤ m := by
  have := bits_bd hb
  unfold St.upto
  split
  · exact ⟨by simp, by simpa using hm⟩
  · split
    · exact ⟨by simp, by simpa using hm⟩
    · exact ⟨this.1, by omega⟩
theorem num_bd {s : St} (hb : Byt s.bytes) : 0 ≤ (numP s).1 ∧ (numP s).1 ≤ 4611686018427387904 := upto_bd hb _ (by omega)
theorem lsP_length : ∀ (n : Nat) (s : St), (lsP n s).1.length = n
  | 0, _ => rfl
  | n + 1, s => by simp [lsP, lsP_length n s]
theorem stP_length : ∀ (n : Nat) (s : St), (stP n s).1.length = n
  | 0, _ => rfl
  | n + 1, s => by simp [stP, stP_length n s]
theorem rowsP_length : ∀ (n : Nat) (s : St), (rowsP n s).1.length = n
  | 0, _ => rfl
  | n + 1, s => by simp [rowsP, rowsP_length n s]
theorem rnum_is (w : World) (b : Nat) (own : Option Nat) (s : St) (h : IsRd 126 w b own s) (hm : s.bytes.length ≤ 1000000) :
    Calls Try.prog 46 #[.pointer (some ⟨b, 0, none⟩)] w fun e w' => e = .returned (.int .i64 (numP s).1) ∧ IsRd 126 w' b own (numP s).2 ∧ Turns [b] w w' := Kt.num_is w b own s h hm
/-- a cell, kept by all but what follows on it -/
structure Kx (a : Addr) (v : Value) (m n : Nat) (W : World) (j : Nat) : Prop where
  out : j ≠ m → j ≠ n → W.cell? a = some v
/-- a cell -/
structure Kv (a : Addr) (v : Value) (W : World) : Prop where
  out : W.cell? a = some v
theorem infoLs : (Try.prog.info? 83).map (fun i => (i.zero, i.size, i.bytes)) = some (some (.agg #[.int .i64 0, .int .i64 0]), 2, 16) := by kernel_rfl
abbrev zeroR : Array Value := #[.int .i64 0, .int .i64 0, .int .i64 0, .slice none 0 0]
set_option maxHeartbeats 8000000 in
theorem readRow_is (w : World) (b : Nat) (own : Option Nat) (s : St) (h : IsRd 126 w b own s) (hm : s.bytes.length ≤ 1000000) :
    Calls Try.prog 83 #[.pointer (some ⟨b, 0, none⟩)] w fun e w' => ∃ ov, e = .returned (.agg #[.int .i64 (rowP s).1.key, .int .i64 (rowP s).1.avail, .int .i64 (rowP s).1.mark, ov]) ∧ Sep (b :: own.toList) w [tOwn 83 2 ov (lss (rowP s).1.out), tRd 126 b own (rowP s).2] w' := by
  have H : Sep (b :: own.toList) w [tRd 126 b own s] w := by simpa [fps, tRd] using (Got.one (T := tRd 126 b own s) h).sep
  obtain ⟨X, hX⟩ : ∃ X : Ending → World → Prop, X = fun e w' => ∃ ov, e = .returned (.agg #[.int .i64 (rowP s).1.key, .int .i64 (rowP s).1.avail, .int .i64 (rowP s).1.mark, ov]) ∧ Sep (b :: own.toList) w [tOwn 83 2 ov (lss (rowP s).1.out), tRd 126 b own (rowP s).2] w' := ⟨_, rfl⟩
  rw [← hX]
  have hXh : Hid (∀ A n c w', Sep (b :: own.toList) w [tOwn 83 2 (.slice A n c) (lss (rowP s).1.out), tRd 126 b own (rowP s).2] w' → X (.returned (.agg #[.int .i64 (rowP s).1.key, .int .i64 (rowP s).1.avail, .int .i64 (rowP s).1.mark, .slice A n c])) w') := Lib.hid (fun A n c w' h1 => by rw [hX]; exact ⟨_, rfl, h1⟩)
  obtain ⟨F, hF⟩ : ∃ F, b :: own.toList = F := ⟨_, rfl⟩
  rw [hF] at H hXh
  obtain ⟨s1, h1⟩ : ∃ s1, numP s = s1 := ⟨_, rfl⟩
  obtain ⟨s2, h2⟩ : ∃ s2, numP s1.2 = s2 := ⟨_, rfl⟩
  obtain ⟨s3, h3⟩ : ∃ s3, numP s2.2 = s3 := ⟨_, rfl⟩
  obtain ⟨s4, h4⟩ : ∃ s4, s3.2.upto 64 = s4 := ⟨_, rfl⟩
  have l1 := num_len s
  have l2 := num_len s1.2
  have l3 := num_len s2.2
  have l4 := upto_len s3.2 64
  have b1 := num_byt h.bd
  rw [h1] at l1 b1
  have b2 := num_byt b1
  rw [h2] at l2 b2
  have b3 := num_byt b2
  rw [h3] at l3 b3
  have b4 := upto_bd b3 64 (by omega)
  rw [h4] at l4 b4
  have hr1 : (rowP s).1 = ⟨s1.1, s2.1, s3.1, (lsP s4.1.toNat s4.2).1⟩ := by unfold rowP; simp only [h1, h2, h3, h4]
  have hr2 : (rowP s).2 = (lsP s4.1.toNat s4.2).2 := by unfold rowP; simp only [h1, h2, h3, h4]
  rw [hr1, hr2] at hXh
  simp only at hXh
  obtain ⟨n, hn⟩ : ∃ n : Nat, s4.1 = n := ⟨s4.1.toNat, by omega⟩
  rw [hn, Int.toNat_natCast] at hXh
  have hn64 : n ≤ 64 := by omega
  have hH0 := Lib.hid (H.alloc zeroR 86)
  have C1 := Lib.hid (fun W (h : IsRd 126 W b own s) => rnum_is W b own s h hm)
  have C2 := Lib.hid (fun W (h : IsRd 126 W b own s1.2) => rnum_is W b own s1.2 h (by omega))
  have C3 := Lib.hid (fun W (h : IsRd 126 W b own s2.2) => rnum_is W b own s2.2 h (by omega))
  have C4 := Lib.hid (fun W (h : IsRd 126 W b own s3.2) => upto_is 64 (by omega) W b own s3.2 h (by omega))
  have hl4 : Hid (s4.2.bytes.length ≤ 1000000) := Lib.hid (by omega)
  rw [h1] at C1
  rw [h2] at C2
  rw [h3] at C3
  rw [h4, hn] at C4
  clear h hX hF H h1 h2 h3 h4 l1 l2 l3 l4 b1 b2 b3 b4 hr1 hr2 hn hm
  go_enter Try.func83, Try.ntmps83
  go_wp2_with fail
  go_at_call 46
  refine Calls.mono (C1.out _ (Sep_isRd hH0.out 1 rfl)) ?_
  rintro e w1 ⟨rfl, r1, t1⟩
  have hH1 := Lib.hid (Sep_rd hH0.out 1 rfl r1 t1)
  clear C1 hH0 r1 t1
  go_wp2_with fail
  go_at_call 46
  refine Calls.mono (C2.out _ (Sep_isRd hH1.out 1 rfl)) ?_
  rintro e w2 ⟨rfl, r2, t2⟩
  have hH2 := Lib.hid (Sep_rd hH1.out 1 rfl r2 t2)
  clear C2 hH1 r2 t2
  go_wp2_with fail
  go_at_call 46
  refine Calls.mono (C3.out _ (Sep_isRd hH2.out 1 rfl)) ?_
  rintro e w3 ⟨rfl, r3, t3⟩
  have hH3 := Lib.hid (Sep_rd hH2.out 1 rfl r3 t3)
  clear C3 hH2 r3 t3
  have hH4 := Lib.hid (((hH3.out.alloc #[.int .i64 s1.1, .int .i64 s2.1, .int .i64 s3.1, .slice none 0 0] 86).nilSlice 83 2).keep [1, 0, 3, 2])
  clear hH3
  go_upto_region 2 with fail
  generalize w3.alloc (.cells #[.int .i64 s1.1, .int .i64 s2.1, .int .i64 s3.1, .slice none 0 0] 86) = w4 at *
  generalize w3.heap.size = xb at *
  generalize w.heap.size = rb at *
  go_wp2_with fail
  go_at_call 82
  refine Calls.mono (C4.out _ (Sep_isRd hH4.out 2 rfl)) ?_
  rintro e w5 ⟨rfl, r5, t5⟩
  have hH5 := Lib.hid (Sep_rd hH4.out 2 rfl r5 t5)
  clear C4 hH4 r5 t5
  go_wp2_with fail
  go_loopw [13] (fun v13 wr => ∃ (k : Nat) (A : Option Addr) (m c : Nat), k ≤ n ∧ v13 = .int .i64 k ∧ Sep F w [tBlk xb #[.int .i64 s1.1, .int .i64 s2.1, .int .i64 s3.1, .slice A m c] 86, tOwn 83 2 (.slice A m c) (lss (lsP k s4.2).1), tRd 126 b own (lsP k s4.2).2, tBlk rb zeroR 86] wr) (fun v13 _ => n - (intOf v13).toNat)
  case atStart => exact ⟨0, none, 0, 0, by omega, rfl, hH5.out⟩
  case round =>
    clear hH5
    obtain ⟨k, A, m, c, hk, rfl, H⟩ := hrel
    by_cases hlt : k < n
    · have g1 : decide ((k : Int) < (n : Int)) = true := decide_eq_true (by omega)
      have g1b : decide (k < n) = true := decide_eq_true hlt
      obtain ⟨p, hp⟩ : ∃ p, lsP k s4.2 = p := ⟨_, rfl⟩
      obtain ⟨q1, hq1⟩ : ∃ q, numP p.2 = q := ⟨_, rfl⟩
      obtain ⟨q2, hq2⟩ : ∃ q, numP q1.2 = q := ⟨_, rfl⟩
      have hnx : Hid (lsP (k + 1) s4.2 = (p.1 ++ [(q1.1, q2.1)], q2.2)) := Lib.hid (by rw [show lsP (k + 1) s4.2 = ((lsP k s4.2).1 ++ [((numP (lsP k s4.2).2).1, (numP (numP (lsP k s4.2).2).2).1)], (numP (numP (lsP k s4.2).2).2).2) from rfl, hp, hq1, hq2])
      have k0 := ls_len k s4.2
      have k1 := num_len p.2
      have hpl := lsP_length k s4.2
      rw [hp] at H k0 hpl
      rw [hq1] at k1
      have hl4' := hl4.out
      have D1 := Lib.hid (fun W (h : IsRd 126 W b own p.2) => rnum_is W b own p.2 h (by omega))
      have D2 := Lib.hid (fun W (h : IsRd 126 W b own q1.2) => rnum_is W b own q1.2 h (by omega))
      rw [hq1] at D1
      rw [hq2] at D2
      have H6h := Lib.hid H.drew
      clear H hp hq1 hq2 k0 k1 hl4'
      go_wp2_with fail
      go_wp2_with fail
      refine wp_region_flo2 [(0, true, [3, 5, 7, 8]), (1, true, [3, 5, 7]), (2, true, [5, 7, 8]), (4, true, [3, 7, 8]), (3, false, []), (5, false, []), (6, true, [8]), (7, false, []), (8, false, []), (9, true, []), (10, false, [])] (fun j W => Kx ⟨xb, 3, none⟩ (.slice A m c) 8 10 W j) (by kernel_rfl) rfl (by kernel_rfl) (by intro c d v a w h; cases d <;> first | (simpa [Exit.then, Exit.inBlock, Act.put] using h) | exact h) ?_
      generalize wr.drew = w6 at *
      have x3 : w6.cell? ⟨xb, 3, none⟩ = some _ := (H6h.out.blk 0 rfl).cell 3
      first
        | (refine flo2_read _ rfl (fun _ => True) trivial (fun _ _ _ _ => trivial) (fun K hK => ?_); go_simp; first | (refine hK _ ?_) | (refine ⟨fun W _ => ?_, hK _ ?_⟩; · (go_simp)) | (refine ⟨fun W => ?_, hK _ ?_⟩; · (go_simp)))
        | (refine flo2_read _ rfl (fun W => W = _) rfl (by simp) (fun K hK => ?_); go_simp; first | (refine hK _ ?_) | (refine ⟨fun W hS => ?_, hK _ ?_⟩; · (subst hS; go_simp)) | (refine ⟨?_, hK _ ?_⟩; · (go_simp)))
      clear hK K
      refine flo2_read _ rfl (fun W => Kv ⟨xb, 3, none⟩ (.slice A m c) W) (⟨x3⟩) (fun j hj W hW => ⟨hW.out (by simp at hj; omega) (by simp at hj; omega)⟩) (fun K hK => ?_)
      go_simp
      first | (refine hK _ ?_) | (refine ⟨fun W hS => ?_, hK _ ?_⟩; · (have x3' := hS.out; try go_simp))
      clear hK K
      first
        | (refine flo2_read _ rfl (fun _ => True) trivial (fun _ _ _ _ => trivial) (fun K hK => ?_); go_simp; first | (refine hK _ ?_) | (refine ⟨fun W _ => ?_, hK _ ?_⟩; · (go_simp)) | (refine ⟨fun W => ?_, hK _ ?_⟩; · (go_simp)))
        | (refine flo2_read _ rfl (fun W => W = _) rfl (by simp) (fun K hK => ?_); go_simp; first | (refine hK _ ?_) | (refine ⟨fun W hS => ?_, hK _ ?_⟩; · (subst hS; go_simp)) | (refine ⟨?_, hK _ ?_⟩; · (go_simp)))
      clear hK K
      first
        | (refine flo2_read _ rfl (fun _ => True) trivial (fun _ _ _ _ => trivial) (fun K hK => ?_); go_simp; first | (refine hK _ ?_) | (refine ⟨fun W _ => ?_, hK _ ?_⟩; · (go_simp)) | (refine ⟨fun W => ?_, hK _ ?_⟩; · (go_simp)))
        | (refine flo2_read _ rfl (fun W => W = _) rfl (by simp) (fun K hK => ?_); go_simp; first | (refine hK _ ?_) | (refine ⟨fun W hS => ?_, hK _ ?_⟩; · (subst hS; go_simp)) | (refine ⟨?_, hK _ ?_⟩; · (go_simp)))
      clear hK K
      clear x3
      refine flo2_alone _ rfl ?_
      go_wp2_with fail
      go_at_call 46
      refine Calls.mono (D1.out _ (Sep_isRd H6h.out 2 rfl)) ?_
      rintro e w7 ⟨rfl, r7, t7⟩
      have H7h := Lib.hid (Sep_rd H6h.out 2 rfl r7 t7)
      clear D1 H6h r7 t7
      go_wp2_with fail
      refine ⟨⟨fun _ _ => (H7h.out.blk 0 rfl).cell 3⟩, _, fun _ _ h => h, ?_⟩
      refine flo2_alone _ rfl ?_
      go_wp2_with fail
      go_at_call 46
      refine Calls.mono (D2.out _ (Sep_isRd H7h.out 2 rfl)) ?_
      rintro e w8 ⟨rfl, r8, t8⟩
      have H8h := Lib.hid (Sep_rd H7h.out 2 rfl r8 t8)
      clear D2 H7h r8 t8
      go_wp2_with fail
      refine ⟨⟨fun _ _ => (H8h.out.blk 0 rfl).cell 3⟩, _, fun _ _ h => h, ?_⟩
      first
        | (refine flo2_read _ rfl (fun _ => True) trivial (fun _ _ _ _ => trivial) (fun K hK => ?_); go_simp; first | (refine hK _ ?_) | (refine ⟨fun W _ => ?_, hK _ ?_⟩; · (go_simp)) | (refine ⟨fun W => ?_, hK _ ?_⟩; · (go_simp)))
        | (refine flo2_read _ rfl (fun W => W = _) rfl (by simp) (fun K hK => ?_); go_simp; first | (refine hK _ ?_) | (refine ⟨fun W hS => ?_, hK _ ?_⟩; · (subst hS; go_simp)) | (refine ⟨?_, hK _ ?_⟩; · (go_simp)))
      clear hK K
      refine flo2_alone _ rfl ?_
      go_wp2_with fail
      have R9 : RdS 2 (w8.alloc (.cells #[.int .i64 q1.1, .int .i64 q2.1] 83)) (.slice (some ⟨w8.heap.size, 0, none⟩) 1 1) (lss [(q1.1, q2.1)]) := RdS.of_cells (rows := lss [(q1.1, q2.1)]) (Blk.new w8 #[.int .i64 q1.1, .int .i64 q2.1] 83) rfl (by intro r hr; simp [lss] at hr; subst hr; rfl) 1 (by simp [lss]) (by decide)
      have H9h := Lib.hid (H8h.out.turns ((Turns.refl [] w8).alloc (.cells #[.int .i64 q1.1, .int .i64 q2.1] 83)))
      refine ⟨⟨fun _ _ => (H9h.out.blk 0 rfl).cell 3⟩, _, fun _ _ h => h, ?_⟩
      clear H8h
      generalize w8.alloc (.cells #[.int .i64 q1.1, .int .i64 q2.1] 83) = w9 at *
      refine flo2_alone _ rfl ?_
      refine H9h.out.append 1 rfl R9 (k + 1) (by rw [lss_len, lss_len, hpl]; rfl) (lss (p.1 ++ [(q1.1, q2.1)])) (lss_append _ _) rfl _ _ _ rfl (.agg #[.int .i64 0, .int .i64 0]) 16 Try.underlying84 infoLs rfl (by decide) rfl rfl (lss_one _) (by omega) (by omega) ?_
      intro A3 c3 w10 H10 t10 hnil
      have H10h := Lib.hid H10
      clear R9 H9h H10 t10 hnil
      go_wp2_with fail
      refine ⟨⟨fun h _ => absurd rfl h⟩, _, fun _ _ h => h, ?_⟩
      first
        | (refine flo2_read _ rfl (fun _ => True) trivial (fun _ _ _ _ => trivial) (fun K hK => ?_); go_simp; first | (refine hK _ ?_) | (refine ⟨fun W _ => ?_, hK _ ?_⟩; · (go_simp)) | (refine ⟨fun W => ?_, hK _ ?_⟩; · (go_simp)))
        | (refine flo2_read _ rfl (fun W => W = _) rfl (by simp) (fun K hK => ?_); go_simp; first | (refine hK _ ?_) | (refine ⟨fun W hS => ?_, hK _ ?_⟩; · (subst hS; go_simp)) | (refine ⟨?_, hK _ ?_⟩; · (go_simp)))
      clear hK K
      have f3 := (H10h.out.blk 0 rfl).frozen 3
      have d3 : w10.cell? ⟨xb, 3, none⟩ = some _ := (H10h.out.blk 0 rfl).cell 3
      have H11 := Lib.hid (H10h.out.set 0 rfl 3 (.slice A3 (k + 1) c3))
      clear H10h
      refine flo2_alone _ rfl ?_
      go_wp2_with fail
      refine ⟨⟨fun _ h => absurd rfl h⟩, _, fun _ _ h => h, ?_⟩
      refine flo2_end ?_
      go_wp2_with fail
      go_roundw
      case rel => exact ⟨k + 1, _, _, _, by omega, by go_num, by rw [hnx.out]; exact H11.out⟩
      case measure => simp [RowKit.intOf]; omega
    · obtain rfl : k = n := by omega
      have g1 : decide ((k : Int) < (k : Int)) = false := by simp
      have x0 : World.cell? (wr) ⟨xb, 0, none⟩ = some _ := (H.blk 0 rfl).cell 0
      have x1 : World.cell? (wr) ⟨xb, 1, none⟩ = some _ := (H.blk 0 rfl).cell 1
      have x2 : World.cell? (wr) ⟨xb, 2, none⟩ = some _ := (H.blk 0 rfl).cell 2
      have x3 : World.cell? (wr) ⟨xb, 3, none⟩ = some _ := (H.blk 0 rfl).cell 3
      have z0 : World.cell? (wr) ⟨rb, 0, none⟩ = some _ := (H.blk 3 rfl).cell 0
      have zf0 : World.frozen? (wr) ⟨rb, 0, none⟩ = false := (H.blk 3 rfl).frozen 0
      have z1 : World.cell? (wr) ⟨rb, 1, none⟩ = some _ := (H.blk 3 rfl).cell 1
      have zf1 : World.frozen? (wr) ⟨rb, 1, none⟩ = false := (H.blk 3 rfl).frozen 1
      have z2 : World.cell? (wr) ⟨rb, 2, none⟩ = some _ := (H.blk 3 rfl).cell 2
      have zf2 : World.frozen? (wr) ⟨rb, 2, none⟩ = false := (H.blk 3 rfl).frozen 2
      have z3 : World.cell? (wr) ⟨rb, 3, none⟩ = some _ := (H.blk 3 rfl).cell 3
      have zf3 : World.frozen? (wr) ⟨rb, 3, none⟩ = false := (H.blk 3 rfl).frozen 3
      have H5 := Hp.Sep.fill H 3 rfl [.int .i64 s1.1, .int .i64 s2.1, .int .i64 s3.1, .slice A m c] rfl
      have hR5 := H5.blk 3 rfl
      have hX := hXh.out _ _ _ _ (H5.keep [1, 2])
      clear H5 H hXh
      go_wp2_with fail
      refine bodyPost_ret (res_one rfl (.cell rb _ _ _ rfl hR5 Try.underlying86 rfl (by kernel_rfl) .nil)) rfl ?_
      exact hX
end Go.Proofs.Ytohokckpheljbaa.Nd
