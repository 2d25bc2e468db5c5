/- The walks of package view. -/
import Derived.Test.YtmaielpfeajelaaDoorYa
import Derived.Test.YtmaielpfeajelaaDoorClk
import Derived.Test.YtmaielpfeajelaaDoorRh
import Derived.Test.YtmaielpfeajelaaDoorHf
set_option linter.unusedVariables false
set_option linter.unusedSimpArgs false
set_option maxRecDepth 100000
namespace Go.Proofs.YtmaielpfeajelaaDoor.Yb
open Go.RowKit Go.MapKept Hm Hs Hf Hg Hv Hx Hy Hc Hd Sm Sat Clk Ra Rg Rb Rd Rh Ya
/-- a view: its block, its readings -/
abbrev vw (b : Nat) (node span : Int) (hv : Value) (L : List Int) : List Th := [tBlk b #[.int .i64 node, .int .i64 span, hv] 65, tOwn 3 1 hv (ins L)]
def passedB (a b c : Int) : Bool := sub (two a c) b == 0
def goes (L : List Int) (node span now : Int) (k : Nat) : Bool := decide ((k : Int) = node) || !passedB (L.getD k 0) now span
def liveK (L : List Int) (node span now : Int) : Nat → Nat
  | 0 => 0
  | k + 1 => if goes L node span now k then withN (liveK L node span now k) k else liveK L node span now k
theorem liveK_lt (L : List Int) (node span now : Int) : ∀ k, U64 (liveK L node span now k)
  | 0 => by show 0 < _; omega
  | k + 1 => by
    unfold liveK
    split
    · exact withN_lt (liveK_lt L node span now k) _
    · exact liveK_lt L node span now k
def live (L : List Int) (node span now : Int) : Nat := liveK L node span now L.length
def hearL (L : List Int) (frm now : Int) : List Int := if 0 ≤ frm ∧ frm < L.length then L.set frm.toNat (max (L.getD frm.toNat 0) now) else L
theorem hearL_len (L : List Int) (frm now : Int) : (hearL L frm now).length = L.length := by unfold hearL; split <;> simp
theorem icell {w : World} {v : Value} {l : List Int} {j : Nat} {x : Int} (h : RdS 1 w v (ins l)) (hj : l[j]? = some x) : ∃ ad c, v = .slice (some ad) l.length c ∧ w.cell? (ad.add j) = some (.int .i64 x) := by
  obtain ⟨ad, c, hv, _, hc⟩ := h.at_ (j := j) (r := [.int .i64 x]) (by unfold ins; rw [List.getElem?_map, hj]; rfl)
  rw [ins_len] at hv
  have := hc 0 _ rfl
  rw [Nat.mul_one, Nat.add_zero] at this
  exact ⟨ad, c, hv, this⟩
theorem oneI (w : World) (x : Int) : RdS 1 (w.alloc (.cells #[.int .i64 x] 3)) (.slice (some ⟨w.heap.size, 0, none⟩) 1 1) (ins [x]) :=
  RdS.of_cells (rows := ins [x]) (heap_alloc w (.cells #[.int .i64 x] 3)).1 rfl (by simp [ins]) 1 (by simp [ins]) (by decide)
def okV (n node : Int) : Prop := okN n ∧ 0 ≤ node ∧ node < n
theorem has_all {n node : Int} : hasB (allN n) node = decide (okN n ∧ 0 ≤ node ∧ node < n) := by
  unfold allN
  by_cases h : okN n
  · rw [if_pos h]
    have h1 := h.1
    have h2 := h.2
    by_cases hi : 0 ≤ node ∧ node < 64
    · obtain ⟨k, rfl, hk⟩ := nat_of hi
      rw [hasB_nat _ _ hk, bit_mask, decide_eq_decide]
      constructor
      · intro h3; exact ⟨h, by omega, by omega⟩
      · rintro ⟨_, _, h3⟩; omega
    · rw [hasB_no _ hi, eq_comm, decide_eq_false_iff_not]
      rintro ⟨_, h3, h4⟩
      exact hi ⟨h3, by omega⟩
  · rw [if_neg h, decide_eq_false (fun h3 => h h3.1)]
    unfold hasB
    rw [bit_zero, Bool.and_false]
theorem vnew_no (n node span now : Int) (h : ¬ okV n node) (w : World) : Calls Tryd.prog 10 #[.int .i64 n, .int .i64 node, .int .i64 span, .int .i64 now] w fun e w' => e = .returned (.tuple #[.pointer none, .int .i64 1]) ∧ Turns [] w w' := by
  have Ah := Lib.hid (fun w => all_any n w)
  have Hh := Lib.hid (fun w => has_any (allN n) node (allN_lt n) w)
  rw [has_all, decide_eq_false (show ¬ (okN n ∧ 0 ≤ node ∧ node < n) from h)] at Hh
  generalize allN n = a at *
  clear h
  go_enter Tryd.func10, Tryd.ntmps10
  go_wp2_with fail
  go_at_call 30
  refine Calls.mono (Ah.out _) ?_
  rintro e w1 ⟨rfl, t1⟩
  go_wp2_with fail
  go_at_call 20
  refine Calls.mono (Hh.out _) ?_
  rintro e w2 ⟨rfl, t2⟩
  go_wp2_with fail
  go_ret2
  exact ⟨rfl, t1.trans t2⟩
theorem vnew_ok (n : Nat) (node span now : Int) (h : okV n node) (w : World) : Calls Tryd.prog 10 #[.int .i64 n, .int .i64 node, .int .i64 span, .int .i64 now] w fun e w' => ∃ b hv, e = .returned (.tuple #[.pointer (some ⟨b, 0, none⟩), .int .i64 0]) ∧ Sep [] w (vw b node span hv (List.replicate n now)) w' := by
  have Ah := Lib.hid (fun w => all_any n w)
  have Hh := Lib.hid (fun w => has_any (allN n) node (allN_lt n) w)
  rw [has_all, decide_eq_true (show (okN n ∧ 0 ≤ node ∧ node < n) from h)] at Hh
  have h1 := h.1.1
  have h2 := h.1.2
  obtain ⟨X, hX⟩ : ∃ X : Ending → World → Prop, X = fun e w' => ∃ b hv, e = .returned (.tuple #[.pointer (some ⟨b, 0, none⟩), .int .i64 0]) ∧ Sep [] w (vw b node span hv (List.replicate n now)) w' := ⟨_, rfl⟩
  rw [← hX]
  have hXh : Hid (∀ b hv w', Sep [] w (vw b node span hv (List.replicate n now)) w' → X (.returned (.tuple #[.pointer (some ⟨b, 0, none⟩), .int .i64 0])) w') := Lib.hid (fun b hv w' s => by rw [hX]; exact ⟨b, hv, rfl, s⟩)
  have Rh := Lib.hid (fun W v r => repeat_is W v now n r (by omega) (by omega))
  generalize allN n = a at *
  clear h hX h1 h2
  go_enter Tryd.func10, Tryd.ntmps10
  go_wp2_with fail
  go_at_call 30
  refine Calls.mono (Ah.out _) ?_
  rintro e w1 ⟨rfl, t1⟩
  go_wp2_with fail
  go_at_call 20
  refine Calls.mono (Hh.out _) ?_
  rintro e w2 ⟨rfl, t2⟩
  have T2 := t1.trans t2
  have Rc := Lib.hid (Rh.out _ _ (oneI w2 now))
  have T3 := T2.alloc (.cells #[.int .i64 now] 3)
  clear t1 t2 Rh T2
  go_wp2_with fail
  go_at_call 38
  refine Calls.mono (Rc.out) ?_
  rintro e w3 ⟨hv, rfl, o, t4, hb⟩
  have H := ((Sep.start w).turns T3).newSlice t4 o hb
  obtain ⟨A, c, rfl, _⟩ := formI o
  rw [List.length_replicate] at H
  replace H := H.alloc #[.int .i64 node, .int .i64 span, .slice A n c] 65
  have hX := hXh.out _ _ _ H
  clear H o t4 hb T3 Rc
  go_wp2_with fail
  exact hX
theorem hear_nil (frm now : Int) (w : World) : Calls Tryd.prog 12 #[.pointer none, .int .i64 frm, .int .i64 now] w fun e w' => e = .returned (.tuple #[]) ∧ Turns [] w w' := by
  go_enter Tryd.func12, Tryd.ntmps12
  go_wp2_with fail
  go_end0
  exact ⟨rfl, Turns.refl _ _⟩
set_option maxHeartbeats 1000000 in
theorem hear_is (b : Nat) (node span : Int) (hv : Value) (L : List Int) (frm now : Int) (w : World) (h : Got (vw b node span hv L) w) : Calls Tryd.prog 12 #[.pointer (some ⟨b, 0, none⟩), .int .i64 frm, .int .i64 now] w fun e w' => e = .returned (.tuple #[]) ∧ Sep (fps (vw b node span hv L)) w (vw b node span hv (hearL L frm now)) w' := by
  have H := h.sep
  generalize hFF : fps (vw b node span hv L) = FF at H ⊢
  obtain ⟨A, c, rfl, _⟩ := formI (H.own 1 rfl)
  unfold hearL
  have c0 : World.cell? (w) ⟨b, 0, none⟩ = some _ := (H.blk 0 rfl).cell 0
  have c1 : World.cell? (w) ⟨b, 1, none⟩ = some _ := (H.blk 0 rfl).cell 1
  have c2 : World.cell? (w) ⟨b, 2, none⟩ = some _ := (H.blk 0 rfl).cell 2
  by_cases h1 : frm ≥ 0
  · have g1 := decide_eq_true h1
    by_cases h2 : frm < (L.length : Int)
    · have g2 := decide_eq_true h2
      rw [if_pos ⟨h1, h2⟩]
      obtain ⟨k, rfl⟩ : ∃ k : Nat, frm = k := ⟨frm.toNat, by omega⟩
      have hk : k < L.length := by omega
      have g2b : decide (k < L.length) = true := decide_eq_true hk
      rw [Int.toNat_natCast]
      obtain ⟨x, hx⟩ : ∃ x, L[k]? = some x := ⟨_, List.getElem?_eq_getElem hk⟩
      obtain ⟨ad, c', hv, Lc⟩ := icell (H.own 1 rfl).reads hx
      injection hv with e1 e2 e3
      subst e1 e3
      have hgd : L.getD k 0 = x := by rw [List.getD_eq_getElem?_getD, hx]; rfl
      rw [hgd]
      have hHd := Lib.hid (H.drew)
      have hxh := Lib.hid hx
      clear h hFF h1 hx e2 H hgd
      go_enter Tryd.func12, Tryd.ntmps12
      go_wp2_with fail
      go_wp2_with fail
      refine wp_region_flo2 [(0, true, []), (1, true, []), (2, true, []), (3, true, []), (4, true, []), (5, true, []), (6, true, []), (7, true, []), (8, true, []), (9, true, []), (10, true, []), (11, true, []), (12, true, []), (13, true, []), (14, true, []), (15, false, [])] (fun j W => True) (by kernel_rfl) rfl (by kernel_rfl) (by intro c d v a w h; cases d <;> first | (simpa [Exit.then, Exit.inBlock, Act.put] using h) | exact h) ?_
      have c0' : w.drew.cell? ⟨b, 2, none⟩ = some (.slice (some ad) L.length c) := c2
      have Lc' : w.drew.cell? (ad.add k) = some (.int .i64 x) := Lc
      have H := hHd.out
      clear hHd Lc c0 c1 c2
      generalize w.drew = w1 at *
      first
        | (refine flo2_read _ rfl (fun _ => True) trivial (fun _ _ _ _ => trivial) (fun K hK => ?_); go_simp; first | (refine hK _ ?_) | (refine ⟨fun W _ => ?_, hK _ ?_⟩; · (go_simp)) | (refine ⟨fun W => ?_, hK _ ?_⟩; · (go_simp)))
        | (refine flo2_read _ rfl (fun W => W = _) rfl (by simp) (fun K hK => ?_); go_simp; first | (refine hK _ ?_) | (refine ⟨fun W hS => ?_, hK _ ?_⟩; · (subst hS; go_simp)) | (refine ⟨?_, hK _ ?_⟩; · (go_simp)))
      clear hK K
      first
        | (refine flo2_read _ rfl (fun _ => True) trivial (fun _ _ _ _ => trivial) (fun K hK => ?_); go_simp; first | (refine hK _ ?_) | (refine ⟨fun W _ => ?_, hK _ ?_⟩; · (go_simp)) | (refine ⟨fun W => ?_, hK _ ?_⟩; · (go_simp)))
        | (refine flo2_read _ rfl (fun W => W = _) rfl (by simp) (fun K hK => ?_); go_simp; first | (refine hK _ ?_) | (refine ⟨fun W hS => ?_, hK _ ?_⟩; · (subst hS; go_simp)) | (refine ⟨?_, hK _ ?_⟩; · (go_simp)))
      clear hK K
      first
        | (refine flo2_read _ rfl (fun _ => True) trivial (fun _ _ _ _ => trivial) (fun K hK => ?_); go_simp; first | (refine hK _ ?_) | (refine ⟨fun W _ => ?_, hK _ ?_⟩; · (go_simp)) | (refine ⟨fun W => ?_, hK _ ?_⟩; · (go_simp)))
        | (refine flo2_read _ rfl (fun W => W = _) rfl (by simp) (fun K hK => ?_); go_simp; first | (refine hK _ ?_) | (refine ⟨fun W hS => ?_, hK _ ?_⟩; · (subst hS; go_simp)) | (refine ⟨?_, hK _ ?_⟩; · (go_simp)))
      clear hK K
      first
        | (refine flo2_read _ rfl (fun _ => True) trivial (fun _ _ _ _ => trivial) (fun K hK => ?_); go_simp; first | (refine hK _ ?_) | (refine ⟨fun W _ => ?_, hK _ ?_⟩; · (go_simp)) | (refine ⟨fun W => ?_, hK _ ?_⟩; · (go_simp)))
        | (refine flo2_read _ rfl (fun W => W = _) rfl (by simp) (fun K hK => ?_); go_simp; first | (refine hK _ ?_) | (refine ⟨fun W hS => ?_, hK _ ?_⟩; · (subst hS; go_simp)) | (refine ⟨?_, hK _ ?_⟩; · (go_simp)))
      clear hK K
      first
        | (refine flo2_read _ rfl (fun _ => True) trivial (fun _ _ _ _ => trivial) (fun K hK => ?_); go_simp; first | (refine hK _ ?_) | (refine ⟨fun W _ => ?_, hK _ ?_⟩; · (go_simp)) | (refine ⟨fun W => ?_, hK _ ?_⟩; · (go_simp)))
        | (refine flo2_read _ rfl (fun W => W = _) rfl (by simp) (fun K hK => ?_); go_simp; first | (refine hK _ ?_) | (refine ⟨fun W hS => ?_, hK _ ?_⟩; · (subst hS; go_simp)) | (refine ⟨?_, hK _ ?_⟩; · (go_simp)))
      clear hK K
      first
        | (refine flo2_read _ rfl (fun _ => True) trivial (fun _ _ _ _ => trivial) (fun K hK => ?_); go_simp; first | (refine hK _ ?_) | (refine ⟨fun W _ => ?_, hK _ ?_⟩; · (go_simp)) | (refine ⟨fun W => ?_, hK _ ?_⟩; · (go_simp)))
        | (refine flo2_read _ rfl (fun W => W = _) rfl (by simp) (fun K hK => ?_); go_simp; first | (refine hK _ ?_) | (refine ⟨fun W hS => ?_, hK _ ?_⟩; · (subst hS; go_simp)) | (refine ⟨?_, hK _ ?_⟩; · (go_simp)))
      clear hK K
      first
        | (refine flo2_read _ rfl (fun _ => True) trivial (fun _ _ _ _ => trivial) (fun K hK => ?_); go_simp; first | (refine hK _ ?_) | (refine ⟨fun W _ => ?_, hK _ ?_⟩; · (go_simp)) | (refine ⟨fun W => ?_, hK _ ?_⟩; · (go_simp)))
        | (refine flo2_read _ rfl (fun W => W = _) rfl (by simp) (fun K hK => ?_); go_simp; first | (refine hK _ ?_) | (refine ⟨fun W hS => ?_, hK _ ?_⟩; · (subst hS; go_simp)) | (refine ⟨?_, hK _ ?_⟩; · (go_simp)))
      clear hK K
      first
        | (refine flo2_read _ rfl (fun _ => True) trivial (fun _ _ _ _ => trivial) (fun K hK => ?_); go_simp; first | (refine hK _ ?_) | (refine ⟨fun W _ => ?_, hK _ ?_⟩; · (go_simp)) | (refine ⟨fun W => ?_, hK _ ?_⟩; · (go_simp)))
        | (refine flo2_read _ rfl (fun W => W = _) rfl (by simp) (fun K hK => ?_); go_simp; first | (refine hK _ ?_) | (refine ⟨fun W hS => ?_, hK _ ?_⟩; · (subst hS; go_simp)) | (refine ⟨?_, hK _ ?_⟩; · (go_simp)))
      clear hK K
      first
        | (refine flo2_read _ rfl (fun _ => True) trivial (fun _ _ _ _ => trivial) (fun K hK => ?_); go_simp; first | (refine hK _ ?_) | (refine ⟨fun W _ => ?_, hK _ ?_⟩; · (go_simp)) | (refine ⟨fun W => ?_, hK _ ?_⟩; · (go_simp)))
        | (refine flo2_read _ rfl (fun W => W = _) rfl (by simp) (fun K hK => ?_); go_simp; first | (refine hK _ ?_) | (refine ⟨fun W hS => ?_, hK _ ?_⟩; · (subst hS; go_simp)) | (refine ⟨?_, hK _ ?_⟩; · (go_simp)))
      clear hK K
      first
        | (refine flo2_read _ rfl (fun _ => True) trivial (fun _ _ _ _ => trivial) (fun K hK => ?_); go_simp; first | (refine hK _ ?_) | (refine ⟨fun W _ => ?_, hK _ ?_⟩; · (go_simp)) | (refine ⟨fun W => ?_, hK _ ?_⟩; · (go_simp)))
        | (refine flo2_read _ rfl (fun W => W = _) rfl (by simp) (fun K hK => ?_); go_simp; first | (refine hK _ ?_) | (refine ⟨fun W hS => ?_, hK _ ?_⟩; · (subst hS; go_simp)) | (refine ⟨?_, hK _ ?_⟩; · (go_simp)))
      clear hK K
      first
        | (refine flo2_read _ rfl (fun _ => True) trivial (fun _ _ _ _ => trivial) (fun K hK => ?_); go_simp; first | (refine hK _ ?_) | (refine ⟨fun W _ => ?_, hK _ ?_⟩; · (go_simp)) | (refine ⟨fun W => ?_, hK _ ?_⟩; · (go_simp)))
        | (refine flo2_read _ rfl (fun W => W = _) rfl (by simp) (fun K hK => ?_); go_simp; first | (refine hK _ ?_) | (refine ⟨fun W hS => ?_, hK _ ?_⟩; · (subst hS; go_simp)) | (refine ⟨?_, hK _ ?_⟩; · (go_simp)))
      clear hK K
      first
        | (refine flo2_read _ rfl (fun _ => True) trivial (fun _ _ _ _ => trivial) (fun K hK => ?_); go_simp; first | (refine hK _ ?_) | (refine ⟨fun W _ => ?_, hK _ ?_⟩; · (go_simp)) | (refine ⟨fun W => ?_, hK _ ?_⟩; · (go_simp)))
        | (refine flo2_read _ rfl (fun W => W = _) rfl (by simp) (fun K hK => ?_); go_simp; first | (refine hK _ ?_) | (refine ⟨fun W hS => ?_, hK _ ?_⟩; · (subst hS; go_simp)) | (refine ⟨?_, hK _ ?_⟩; · (go_simp)))
      clear hK K
      first
        | (refine flo2_read _ rfl (fun _ => True) trivial (fun _ _ _ _ => trivial) (fun K hK => ?_); go_simp; first | (refine hK _ ?_) | (refine ⟨fun W _ => ?_, hK _ ?_⟩; · (go_simp)) | (refine ⟨fun W => ?_, hK _ ?_⟩; · (go_simp)))
        | (refine flo2_read _ rfl (fun W => W = _) rfl (by simp) (fun K hK => ?_); go_simp; first | (refine hK _ ?_) | (refine ⟨fun W hS => ?_, hK _ ?_⟩; · (subst hS; go_simp)) | (refine ⟨?_, hK _ ?_⟩; · (go_simp)))
      clear hK K
      first
        | (refine flo2_read _ rfl (fun _ => True) trivial (fun _ _ _ _ => trivial) (fun K hK => ?_); go_simp; first | (refine hK _ ?_) | (refine ⟨fun W _ => ?_, hK _ ?_⟩; · (go_simp)) | (refine ⟨fun W => ?_, hK _ ?_⟩; · (go_simp)))
        | (refine flo2_read _ rfl (fun W => W = _) rfl (by simp) (fun K hK => ?_); go_simp; first | (refine hK _ ?_) | (refine ⟨fun W hS => ?_, hK _ ?_⟩; · (subst hS; go_simp)) | (refine ⟨?_, hK _ ?_⟩; · (go_simp)))
      clear hK K
      first
        | (refine flo2_read _ rfl (fun _ => True) trivial (fun _ _ _ _ => trivial) (fun K hK => ?_); go_simp; first | (refine hK _ ?_) | (refine ⟨fun W _ => ?_, hK _ ?_⟩; · (go_simp)) | (refine ⟨fun W => ?_, hK _ ?_⟩; · (go_simp)))
        | (refine flo2_read _ rfl (fun W => W = _) rfl (by simp) (fun K hK => ?_); go_simp; first | (refine hK _ ?_) | (refine ⟨fun W hS => ?_, hK _ ?_⟩; · (subst hS; go_simp)) | (refine ⟨?_, hK _ ?_⟩; · (go_simp)))
      clear hK K
      obtain ⟨ad2, c3, hv2, _, hst⟩ := Hy.Sep.setAt H 1 rfl (j := k) (r := [.int .i64 x]) (by unfold ins; rw [List.getElem?_map, hxh.out]; rfl)
      injection hv2 with e4 e5 e6
      injection e4 with e4
      subst e4
      obtain ⟨f0, hs2⟩ := hst 0 (by omega) (ad.add k) (by rw [Nat.mul_one, Nat.add_zero])
      have H2 := hs2 (.int .i64 (max x now))
      have er : (ins L).set k ([Value.int .i64 x].set 0 (.int .i64 (max x now))) = ins (L.set k (max x now)) := by unfold ins; rw [List.map_set]; rfl
      rw [er] at H2
      have H2h := Lib.hid H2
      clear H2 hst hs2 H er
      refine flo2_alone _ rfl ?_
      simp only [List.getElem_toArray, List.getElem_cons_succ, List.getElem_cons_zero]
      go_wp2_with fail
      refine ⟨trivial, _, fun _ _ h => h, ?_⟩
      refine flo2_end ?_
      go_wp2_with fail
      go_end0
      exact ⟨rfl, H2h.out⟩
    · have g2 : decide (frm < (L.length : Int)) = false := decide_eq_false h2
      rw [if_neg (fun h => h2 h.2)]
      have hHh := Lib.hid H
      clear h hFF h1 h2 H
      go_enter Tryd.func12, Tryd.ntmps12
      go_wp2_with fail
      go_end0
      exact ⟨rfl, hHh.out⟩
  · have g1 : decide (frm ≥ 0) = false := decide_eq_false h1
    rw [if_neg (fun h => h1 h.1)]
    have hHh := Lib.hid H
    clear h hFF h1 H
    go_enter Tryd.func12, Tryd.ntmps12
    go_wp2_with fail
    go_end0
    exact ⟨rfl, hHh.out⟩
theorem live_nil (now : Int) (w : World) : Calls Tryd.prog 16 #[.pointer none, .int .i64 now] w fun e w' => e = .returned (.int .u64 0) ∧ Turns [] w w' := by
  go_enter Tryd.func16, Tryd.ntmps16
  go_wp2_with fail
  go_ret
  exact ⟨rfl, Turns.refl _ _⟩
set_option maxHeartbeats 2000000 in
theorem live_is (b : Nat) (node span : Int) (hv : Value) (L : List Int) (now : Int) (hL : L.length ≤ 64) (w : World) (h : Got (vw b node span hv L) w) : Calls Tryd.prog 16 #[.pointer (some ⟨b, 0, none⟩), .int .i64 now] w fun e w' => e = .returned (.int .u64 (live L node span now : Nat)) ∧ Turns [] w w' := by
  have hb := h.sep.blk 0 rfl
  have ho := Lib.hid (h.sep.own 1 rfl).reads
  obtain ⟨A, c, rfl, _⟩ := formI (h.sep.own 1 rfl)
  unfold live
  have c0 : World.cell? (w) ⟨b, 0, none⟩ = some _ := (hb).cell 0
  have c1 : World.cell? (w) ⟨b, 1, none⟩ = some _ := (hb).cell 1
  have c2 : World.cell? (w) ⟨b, 2, none⟩ = some _ := (hb).cell 2
  clear h
  go_enter Tryd.func16, Tryd.ntmps16
  go_wp2_with fail
  go_loopw [5, 14] (fun v5 v14 wr => ∃ (k : Nat), k ≤ L.length ∧ v14 = .int .i64 k ∧ v5 = .int .u64 (liveK L node span now k : Nat) ∧ Turns [] w wr) (fun _ v14 _ => L.length - (RowKit.intOf v14).toNat)
  case atStart => exact ⟨0, by omega, rfl, rfl, Turns.refl _ _⟩
  case round =>
    obtain ⟨k, hk, rfl, rfl, T⟩ := hrel
    by_cases hlt : k < L.length
    · have g1 : decide ((k : Int) < (L.length : Int)) = true := decide_eq_true (by omega)
      have g1b : decide (k < L.length) = true := decide_eq_true hlt
      obtain ⟨x, hx⟩ : ∃ x, L[k]? = some x := ⟨_, List.getElem?_eq_getElem hlt⟩
      obtain ⟨ad, c', hv, Lc⟩ := icell ho.out hx
      injection hv with e1 e2 e3
      subst e1 e3
      have hgd : L.getD k 0 = x := by rw [List.getD_eq_getElem?_getD, hx]; rfl
      have hnx : liveK L node span now (k + 1) = if (decide ((k : Int) = node) || !passedB x now span) then withN (liveK L node span now k) k else liveK L node span now k := by
        conv => lhs; unfold liveK
        unfold goes
        rw [hgd]
      have hlt64 := liveK_lt L node span now k
      have i0 := T.old Lc
      have q0 := T.old c0
      have q1 := T.old c1
      have q2 := T.old c2
      have Wh := Lib.hid (fun w => with_any (liveK L node span now k) k hlt64 w)
      have Ph := Lib.hid (fun w => passed_is x now span w)
      have hnxh := Lib.hid hnx
      generalize liveK L node span now k = s at *
      generalize withN s k = sw at *
      clear hx e2 Lc hgd hnx hlt64
      by_cases hkn : (k : Int) = node
      · have g2 : ((k : Int) == node) = true := by simpa using hkn
        have e8 := hnxh.out
        rw [decide_eq_true hkn, Bool.true_or, if_pos rfl] at e8
        have e8h := Lib.hid e8
        clear e8
        go_wp2_with fail
        go_wp2_with fail
        refine wp_region_flo [(0, true), (1, true), (2, true), (3, true), (4, true), (5, true), (6, true), (7, true), (8, true), (9, true), (10, true), (11, true), (12, true), (13, true), (14, true), (15, true), (16, true), (17, true), (18, true), (19, false), (20, true), (21, true)] (fun W => Turns [] wr.drew W) (by kernel_rfl) rfl (by kernel_rfl) (by intro c d v a w h; cases d <;> first | (simpa [Exit.then, Exit.inBlock, Act.put] using h) | exact h) (Turns.refl _ _) ?_
        have z0 : wr.drew.cell? ⟨b, 0, none⟩ = _ := q0
        have Td := T.drew
        generalize wr.drew = w3 at *
        refine flo_read _ rfl (fun K hK => ?_)
        go_simp
        first | (refine hK _ ?_) | (refine ⟨fun W hS => ?_, hK _ ?_⟩; · (have x0 := hS.old z0; try go_simp))
        clear hK K
        refine flo_read _ rfl (fun K hK => ?_)
        go_simp
        first | (refine hK _ ?_) | (refine ⟨fun W hS => ?_, hK _ ?_⟩; · (have x0 := hS.old z0; try go_simp))
        clear hK K
        refine flo_read _ rfl (fun K hK => ?_)
        go_simp
        first | (refine hK _ ?_) | (refine ⟨fun W hS => ?_, hK _ ?_⟩; · (have x0 := hS.old z0; try go_simp))
        clear hK K
        refine flo_read _ rfl (fun K hK => ?_)
        go_simp
        first | (refine hK _ ?_) | (refine ⟨fun W hS => ?_, hK _ ?_⟩; · (have x0 := hS.old z0; try go_simp))
        clear hK K
        refine flo_read _ rfl (fun K hK => ?_)
        go_simp
        first | (refine hK _ ?_) | (refine ⟨fun W hS => ?_, hK _ ?_⟩; · (have x0 := hS.old z0; try go_simp))
        clear hK K
        refine flo_read _ rfl (fun K hK => ?_)
        go_simp
        first | (refine hK _ ?_) | (refine ⟨fun W hS => ?_, hK _ ?_⟩; · (have x0 := hS.old z0; try go_simp))
        clear hK K
        refine flo_read _ rfl (fun K hK => ?_)
        go_simp
        first | (refine hK _ ?_) | (refine ⟨fun W hS => ?_, hK _ ?_⟩; · (have x0 := hS.old z0; try go_simp))
        clear hK K
        refine flo_read _ rfl (fun K hK => ?_)
        go_simp
        first | (refine hK _ ?_) | (refine ⟨fun W hS => ?_, hK _ ?_⟩; · (have x0 := hS.old z0; try go_simp))
        clear hK K
        refine flo_read _ rfl (fun K hK => ?_)
        go_simp
        first | (refine hK _ ?_) | (refine ⟨fun W hS => ?_, hK _ ?_⟩; · (have x0 := hS.old z0; try go_simp))
        clear hK K
        refine flo_read _ rfl (fun K hK => ?_)
        go_simp
        first | (refine hK _ ?_) | (refine ⟨fun W hS => ?_, hK _ ?_⟩; · (have x0 := hS.old z0; try go_simp))
        clear hK K
        refine flo_read _ rfl (fun K hK => ?_)
        go_simp
        first | (refine hK _ ?_) | (refine ⟨fun W hS => ?_, hK _ ?_⟩; · (have x0 := hS.old z0; try go_simp))
        clear hK K
        refine flo_read _ rfl (fun K hK => ?_)
        go_simp
        first | (refine hK _ ?_) | (refine ⟨fun W hS => ?_, hK _ ?_⟩; · (have x0 := hS.old z0; try go_simp))
        clear hK K
        refine flo_read _ rfl (fun K hK => ?_)
        go_simp
        first | (refine hK _ ?_) | (refine ⟨fun W hS => ?_, hK _ ?_⟩; · (have x0 := hS.old z0; try go_simp))
        clear hK K
        refine flo_read _ rfl (fun K hK => ?_)
        go_simp
        first | (refine hK _ ?_) | (refine ⟨fun W hS => ?_, hK _ ?_⟩; · (have x0 := hS.old z0; try go_simp))
        clear hK K
        refine flo_read _ rfl (fun K hK => ?_)
        go_simp
        first | (refine hK _ ?_) | (refine ⟨fun W hS => ?_, hK _ ?_⟩; · (have x0 := hS.old z0; try go_simp))
        clear hK K
        refine flo_read _ rfl (fun K hK => ?_)
        go_simp
        first | (refine hK _ ?_) | (refine ⟨fun W hS => ?_, hK _ ?_⟩; · (have x0 := hS.old z0; try go_simp))
        clear hK K
        refine flo_read _ rfl (fun K hK => ?_)
        go_simp
        first | (refine hK _ ?_) | (refine ⟨fun W hS => ?_, hK _ ?_⟩; · (have x0 := hS.old z0; try go_simp))
        clear hK K
        refine flo_read _ rfl (fun K hK => ?_)
        go_simp
        first | (refine hK _ ?_) | (refine ⟨fun W hS => ?_, hK _ ?_⟩; · (have x0 := hS.old z0; try go_simp))
        clear hK K
        refine flo_read _ rfl (fun K hK => ?_)
        go_simp
        first | (refine hK _ ?_) | (refine ⟨fun W hS => ?_, hK _ ?_⟩; · (have x0 := hS.old z0; try go_simp))
        clear hK K
        refine flo_alone _ rfl ?_
        go_wp2_with fail
        refine ⟨fun W => Turns [] w3 W, fun W h => h, Turns.refl _ _, ?_⟩
        refine flo_read _ rfl (fun K hK => ?_)
        go_simp
        first | (refine hK _ ?_) | (refine ⟨fun W hS => ?_, hK _ ?_⟩; · (skip; try go_simp))
        clear hK K
        refine flo_read _ rfl (fun K hK => ?_)
        go_simp
        first | (refine hK _ ?_) | (refine ⟨fun W hS => ?_, hK _ ?_⟩; · (skip; try go_simp))
        clear hK K
        refine flo_end ?_
        have Wk := Wh.out w3
        rw [hkn] at Wk
        have Wkh := Lib.hid Wk
        clear Wk
        go_wp2_with fail
        go_at_call 24
        refine Calls.mono (Wkh.out) ?_
        rintro e w4 ⟨rfl, t4⟩
        go_wp2_with fail
        go_roundw
        case rel => exact ⟨k + 1, by omega, by go_num, by rw [e8h.out], Td.trans t4⟩
        case measure => simp [RowKit.intOf]; omega
      · have g2 : ((k : Int) == node) = false := by simpa using hkn
        have e8 := hnxh.out
        rw [decide_eq_false hkn, Bool.false_or] at e8
        unfold passedB at e8
        cases hp : (sub (two x span) now == 0) with
        | true =>
          rw [hp] at e8 Ph
          simp only [Bool.not_true, Bool.false_eq_true, if_false] at e8
          have e8h := Lib.hid e8
          clear e8 hp
          go_wp2_with fail
          go_wp2_with fail
          refine wp_region_flo [(0, true), (1, true), (2, true), (3, true), (4, true), (5, true), (6, true), (7, true), (8, true), (9, true), (10, true), (11, true), (12, true), (13, true), (14, true), (15, true), (16, true), (17, true), (18, true), (19, false), (20, true), (21, true)] (fun W => Turns [] wr.drew W) (by kernel_rfl) rfl (by kernel_rfl) (by intro c d v a w h; cases d <;> first | (simpa [Exit.then, Exit.inBlock, Act.put] using h) | exact h) (Turns.refl _ _) ?_
          have z0 : wr.drew.cell? ⟨b, 0, none⟩ = _ := q0
          have z1 : wr.drew.cell? ⟨b, 1, none⟩ = _ := q1
          have z2 : wr.drew.cell? ⟨b, 2, none⟩ = _ := q2
          have z3 : wr.drew.cell? (ad.add k) = _ := i0
          have Td := T.drew
          clear q0 q1 q2 i0 T
          generalize wr.drew = w3 at *
          refine flo_read _ rfl (fun K hK => ?_)
          go_simp
          first | (refine hK _ ?_) | (refine ⟨fun W hS => ?_, hK _ ?_⟩; · (have x0 := hS.old z0; have x1 := hS.old z1; have x2 := hS.old z2; have x3 := hS.old z3; try go_simp))
          clear hK K
          refine flo_read _ rfl (fun K hK => ?_)
          go_simp
          first | (refine hK _ ?_) | (refine ⟨fun W hS => ?_, hK _ ?_⟩; · (have x0 := hS.old z0; have x1 := hS.old z1; have x2 := hS.old z2; have x3 := hS.old z3; try go_simp))
          clear hK K
          refine flo_read _ rfl (fun K hK => ?_)
          go_simp
          first | (refine hK _ ?_) | (refine ⟨fun W hS => ?_, hK _ ?_⟩; · (have x0 := hS.old z0; have x1 := hS.old z1; have x2 := hS.old z2; have x3 := hS.old z3; try go_simp))
          clear hK K
          refine flo_read _ rfl (fun K hK => ?_)
          go_simp
          first | (refine hK _ ?_) | (refine ⟨fun W hS => ?_, hK _ ?_⟩; · (have x0 := hS.old z0; have x1 := hS.old z1; have x2 := hS.old z2; have x3 := hS.old z3; try go_simp))
          clear hK K
          refine flo_read _ rfl (fun K hK => ?_)
          go_simp
          first | (refine hK _ ?_) | (refine ⟨fun W hS => ?_, hK _ ?_⟩; · (have x0 := hS.old z0; have x1 := hS.old z1; have x2 := hS.old z2; have x3 := hS.old z3; try go_simp))
          clear hK K
          refine flo_read _ rfl (fun K hK => ?_)
          go_simp
          first | (refine hK _ ?_) | (refine ⟨fun W hS => ?_, hK _ ?_⟩; · (have x0 := hS.old z0; have x1 := hS.old z1; have x2 := hS.old z2; have x3 := hS.old z3; try go_simp))
          clear hK K
          refine flo_read _ rfl (fun K hK => ?_)
          go_simp
          first | (refine hK _ ?_) | (refine ⟨fun W hS => ?_, hK _ ?_⟩; · (have x0 := hS.old z0; have x1 := hS.old z1; have x2 := hS.old z2; have x3 := hS.old z3; try go_simp))
          clear hK K
          refine flo_read _ rfl (fun K hK => ?_)
          go_simp
          first | (refine hK _ ?_) | (refine ⟨fun W hS => ?_, hK _ ?_⟩; · (have x0 := hS.old z0; have x1 := hS.old z1; have x2 := hS.old z2; have x3 := hS.old z3; try go_simp))
          clear hK K
          refine flo_read _ rfl (fun K hK => ?_)
          go_simp
          first | (refine hK _ ?_) | (refine ⟨fun W hS => ?_, hK _ ?_⟩; · (have x0 := hS.old z0; have x1 := hS.old z1; have x2 := hS.old z2; have x3 := hS.old z3; try go_simp))
          clear hK K
          refine flo_read _ rfl (fun K hK => ?_)
          go_simp
          first | (refine hK _ ?_) | (refine ⟨fun W hS => ?_, hK _ ?_⟩; · (have x0 := hS.old z0; have x1 := hS.old z1; have x2 := hS.old z2; have x3 := hS.old z3; try go_simp))
          clear hK K
          refine flo_read _ rfl (fun K hK => ?_)
          go_simp
          first | (refine hK _ ?_) | (refine ⟨fun W hS => ?_, hK _ ?_⟩; · (have x0 := hS.old z0; have x1 := hS.old z1; have x2 := hS.old z2; have x3 := hS.old z3; try go_simp))
          clear hK K
          refine flo_read _ rfl (fun K hK => ?_)
          go_simp
          first | (refine hK _ ?_) | (refine ⟨fun W hS => ?_, hK _ ?_⟩; · (have x0 := hS.old z0; have x1 := hS.old z1; have x2 := hS.old z2; have x3 := hS.old z3; try go_simp))
          clear hK K
          refine flo_read _ rfl (fun K hK => ?_)
          go_simp
          first | (refine hK _ ?_) | (refine ⟨fun W hS => ?_, hK _ ?_⟩; · (have x0 := hS.old z0; have x1 := hS.old z1; have x2 := hS.old z2; have x3 := hS.old z3; try go_simp))
          clear hK K
          refine flo_read _ rfl (fun K hK => ?_)
          go_simp
          first | (refine hK _ ?_) | (refine ⟨fun W hS => ?_, hK _ ?_⟩; · (have x0 := hS.old z0; have x1 := hS.old z1; have x2 := hS.old z2; have x3 := hS.old z3; try go_simp))
          clear hK K
          refine flo_read _ rfl (fun K hK => ?_)
          go_simp
          first | (refine hK _ ?_) | (refine ⟨fun W hS => ?_, hK _ ?_⟩; · (have x0 := hS.old z0; have x1 := hS.old z1; have x2 := hS.old z2; have x3 := hS.old z3; try go_simp))
          clear hK K
          refine flo_read _ rfl (fun K hK => ?_)
          go_simp
          first | (refine hK _ ?_) | (refine ⟨fun W hS => ?_, hK _ ?_⟩; · (have x0 := hS.old z0; have x1 := hS.old z1; have x2 := hS.old z2; have x3 := hS.old z3; try go_simp))
          clear hK K
          refine flo_read _ rfl (fun K hK => ?_)
          go_simp
          first | (refine hK _ ?_) | (refine ⟨fun W hS => ?_, hK _ ?_⟩; · (have x0 := hS.old z0; have x1 := hS.old z1; have x2 := hS.old z2; have x3 := hS.old z3; try go_simp))
          clear hK K
          refine flo_read _ rfl (fun K hK => ?_)
          go_simp
          first | (refine hK _ ?_) | (refine ⟨fun W hS => ?_, hK _ ?_⟩; · (have x0 := hS.old z0; have x1 := hS.old z1; have x2 := hS.old z2; have x3 := hS.old z3; try go_simp))
          clear hK K
          refine flo_read _ rfl (fun K hK => ?_)
          go_simp
          first | (refine hK _ ?_) | (refine ⟨fun W hS => ?_, hK _ ?_⟩; · (have x0 := hS.old z0; have x1 := hS.old z1; have x2 := hS.old z2; have x3 := hS.old z3; try go_simp))
          clear hK K
          refine flo_alone _ rfl ?_
          go_wp2_with fail
          go_at_call 41
          refine Calls.mono (Ph.out _) ?_
          rintro e w4 ⟨rfl, t4⟩
          go_wp2_with fail
          refine ⟨fun W => Turns [] w4 W, fun W h => t4.trans h, Turns.refl _ _, ?_⟩
          have T4 := Td.trans t4
          clear z0 z1 z2 z3 t4 Td
          refine flo_read _ rfl (fun K hK => ?_)
          go_simp
          first | (refine hK _ ?_) | (refine ⟨fun W hS => ?_, hK _ ?_⟩; · (skip; try go_simp))
          clear hK K
          refine flo_read _ rfl (fun K hK => ?_)
          go_simp
          first | (refine hK _ ?_) | (refine ⟨fun W hS => ?_, hK _ ?_⟩; · (skip; try go_simp))
          clear hK K
          refine flo_end ?_
          go_wp2_with fail
          go_roundw
          case rel => exact ⟨k + 1, by omega, by go_num, by rw [e8h.out], T4⟩
          case measure => simp [RowKit.intOf]; omega
        | false =>
          rw [hp] at e8 Ph
          simp only [Bool.not_false, if_true] at e8
          have e8h := Lib.hid e8
          clear e8 hp
          go_wp2_with fail
          go_wp2_with fail
          refine wp_region_flo [(0, true), (1, true), (2, true), (3, true), (4, true), (5, true), (6, true), (7, true), (8, true), (9, true), (10, true), (11, true), (12, true), (13, true), (14, true), (15, true), (16, true), (17, true), (18, true), (19, false), (20, true), (21, true)] (fun W => Turns [] wr.drew W) (by kernel_rfl) rfl (by kernel_rfl) (by intro c d v a w h; cases d <;> first | (simpa [Exit.then, Exit.inBlock, Act.put] using h) | exact h) (Turns.refl _ _) ?_
          have z0 : wr.drew.cell? ⟨b, 0, none⟩ = _ := q0
          have z1 : wr.drew.cell? ⟨b, 1, none⟩ = _ := q1
          have z2 : wr.drew.cell? ⟨b, 2, none⟩ = _ := q2
          have z3 : wr.drew.cell? (ad.add k) = _ := i0
          have Td := T.drew
          clear q0 q1 q2 i0 T
          generalize wr.drew = w3 at *
          refine flo_read _ rfl (fun K hK => ?_)
          go_simp
          first | (refine hK _ ?_) | (refine ⟨fun W hS => ?_, hK _ ?_⟩; · (have x0 := hS.old z0; have x1 := hS.old z1; have x2 := hS.old z2; have x3 := hS.old z3; try go_simp))
          clear hK K
          refine flo_read _ rfl (fun K hK => ?_)
          go_simp
          first | (refine hK _ ?_) | (refine ⟨fun W hS => ?_, hK _ ?_⟩; · (have x0 := hS.old z0; have x1 := hS.old z1; have x2 := hS.old z2; have x3 := hS.old z3; try go_simp))
          clear hK K
          refine flo_read _ rfl (fun K hK => ?_)
          go_simp
          first | (refine hK _ ?_) | (refine ⟨fun W hS => ?_, hK _ ?_⟩; · (have x0 := hS.old z0; have x1 := hS.old z1; have x2 := hS.old z2; have x3 := hS.old z3; try go_simp))
          clear hK K
          refine flo_read _ rfl (fun K hK => ?_)
          go_simp
          first | (refine hK _ ?_) | (refine ⟨fun W hS => ?_, hK _ ?_⟩; · (have x0 := hS.old z0; have x1 := hS.old z1; have x2 := hS.old z2; have x3 := hS.old z3; try go_simp))
          clear hK K
          refine flo_read _ rfl (fun K hK => ?_)
          go_simp
          first | (refine hK _ ?_) | (refine ⟨fun W hS => ?_, hK _ ?_⟩; · (have x0 := hS.old z0; have x1 := hS.old z1; have x2 := hS.old z2; have x3 := hS.old z3; try go_simp))
          clear hK K
          refine flo_read _ rfl (fun K hK => ?_)
          go_simp
          first | (refine hK _ ?_) | (refine ⟨fun W hS => ?_, hK _ ?_⟩; · (have x0 := hS.old z0; have x1 := hS.old z1; have x2 := hS.old z2; have x3 := hS.old z3; try go_simp))
          clear hK K
          refine flo_read _ rfl (fun K hK => ?_)
          go_simp
          first | (refine hK _ ?_) | (refine ⟨fun W hS => ?_, hK _ ?_⟩; · (have x0 := hS.old z0; have x1 := hS.old z1; have x2 := hS.old z2; have x3 := hS.old z3; try go_simp))
          clear hK K
          refine flo_read _ rfl (fun K hK => ?_)
          go_simp
          first | (refine hK _ ?_) | (refine ⟨fun W hS => ?_, hK _ ?_⟩; · (have x0 := hS.old z0; have x1 := hS.old z1; have x2 := hS.old z2; have x3 := hS.old z3; try go_simp))
          clear hK K
          refine flo_read _ rfl (fun K hK => ?_)
          go_simp
          first | (refine hK _ ?_) | (refine ⟨fun W hS => ?_, hK _ ?_⟩; · (have x0 := hS.old z0; have x1 := hS.old z1; have x2 := hS.old z2; have x3 := hS.old z3; try go_simp))
          clear hK K
          refine flo_read _ rfl (fun K hK => ?_)
          go_simp
          first | (refine hK _ ?_) | (refine ⟨fun W hS => ?_, hK _ ?_⟩; · (have x0 := hS.old z0; have x1 := hS.old z1; have x2 := hS.old z2; have x3 := hS.old z3; try go_simp))
          clear hK K
          refine flo_read _ rfl (fun K hK => ?_)
          go_simp
          first | (refine hK _ ?_) | (refine ⟨fun W hS => ?_, hK _ ?_⟩; · (have x0 := hS.old z0; have x1 := hS.old z1; have x2 := hS.old z2; have x3 := hS.old z3; try go_simp))
          clear hK K
          refine flo_read _ rfl (fun K hK => ?_)
          go_simp
          first | (refine hK _ ?_) | (refine ⟨fun W hS => ?_, hK _ ?_⟩; · (have x0 := hS.old z0; have x1 := hS.old z1; have x2 := hS.old z2; have x3 := hS.old z3; try go_simp))
          clear hK K
          refine flo_read _ rfl (fun K hK => ?_)
          go_simp
          first | (refine hK _ ?_) | (refine ⟨fun W hS => ?_, hK _ ?_⟩; · (have x0 := hS.old z0; have x1 := hS.old z1; have x2 := hS.old z2; have x3 := hS.old z3; try go_simp))
          clear hK K
          refine flo_read _ rfl (fun K hK => ?_)
          go_simp
          first | (refine hK _ ?_) | (refine ⟨fun W hS => ?_, hK _ ?_⟩; · (have x0 := hS.old z0; have x1 := hS.old z1; have x2 := hS.old z2; have x3 := hS.old z3; try go_simp))
          clear hK K
          refine flo_read _ rfl (fun K hK => ?_)
          go_simp
          first | (refine hK _ ?_) | (refine ⟨fun W hS => ?_, hK _ ?_⟩; · (have x0 := hS.old z0; have x1 := hS.old z1; have x2 := hS.old z2; have x3 := hS.old z3; try go_simp))
          clear hK K
          refine flo_read _ rfl (fun K hK => ?_)
          go_simp
          first | (refine hK _ ?_) | (refine ⟨fun W hS => ?_, hK _ ?_⟩; · (have x0 := hS.old z0; have x1 := hS.old z1; have x2 := hS.old z2; have x3 := hS.old z3; try go_simp))
          clear hK K
          refine flo_read _ rfl (fun K hK => ?_)
          go_simp
          first | (refine hK _ ?_) | (refine ⟨fun W hS => ?_, hK _ ?_⟩; · (have x0 := hS.old z0; have x1 := hS.old z1; have x2 := hS.old z2; have x3 := hS.old z3; try go_simp))
          clear hK K
          refine flo_read _ rfl (fun K hK => ?_)
          go_simp
          first | (refine hK _ ?_) | (refine ⟨fun W hS => ?_, hK _ ?_⟩; · (have x0 := hS.old z0; have x1 := hS.old z1; have x2 := hS.old z2; have x3 := hS.old z3; try go_simp))
          clear hK K
          refine flo_read _ rfl (fun K hK => ?_)
          go_simp
          first | (refine hK _ ?_) | (refine ⟨fun W hS => ?_, hK _ ?_⟩; · (have x0 := hS.old z0; have x1 := hS.old z1; have x2 := hS.old z2; have x3 := hS.old z3; try go_simp))
          clear hK K
          refine flo_alone _ rfl ?_
          go_wp2_with fail
          go_at_call 41
          refine Calls.mono (Ph.out _) ?_
          rintro e w4 ⟨rfl, t4⟩
          go_wp2_with fail
          refine ⟨fun W => Turns [] w4 W, fun W h => t4.trans h, Turns.refl _ _, ?_⟩
          have T4 := Td.trans t4
          clear z0 z1 z2 z3 t4 Td
          refine flo_read _ rfl (fun K hK => ?_)
          go_simp
          first | (refine hK _ ?_) | (refine ⟨fun W hS => ?_, hK _ ?_⟩; · (skip; try go_simp))
          clear hK K
          refine flo_read _ rfl (fun K hK => ?_)
          go_simp
          first | (refine hK _ ?_) | (refine ⟨fun W hS => ?_, hK _ ?_⟩; · (skip; try go_simp))
          clear hK K
          refine flo_end ?_
          go_wp2_with fail
          go_at_call 24
          refine Calls.mono (Wh.out _) ?_
          rintro e w5 ⟨rfl, t5⟩
          go_wp2_with fail
          go_roundw
          case rel => exact ⟨k + 1, by omega, by go_num, by rw [e8h.out], T4.trans t5⟩
          case measure => simp [RowKit.intOf]; omega
    · obtain rfl : k = L.length := by omega
      have g1 : decide ((L.length : Int) < (L.length : Int)) = false := by simp
      go_wp2_with fail
      go_ret
      exact ⟨rfl, T⟩
theorem live_lt (L : List Int) (node span now : Int) : U64 (live L node span now) := liveK_lt _ _ _ _ _
theorem vnext_nil (now : Int) (w : World) : Calls Tryd.prog 18 #[.pointer none, .int .i64 now] w fun e w' => e = .returned (.int .i64 (-1)) ∧ Turns [] w w' := by
  go_enter Tryd.func18, Tryd.ntmps18
  go_wp2_with fail
  go_ret
  exact ⟨rfl, Turns.refl _ _⟩
def vnext (L : List Int) (node span now : Int) : Int := nextI (live L node span now) L.length node
set_option maxHeartbeats 1000000 in
theorem vnext_is (b : Nat) (node span : Int) (hv : Value) (L : List Int) (now : Int) (hL : L.length ≤ 64) (w : World) (hT : Tab w) (h : Got (vw b node span hv L) w) : Calls Tryd.prog 18 #[.pointer (some ⟨b, 0, none⟩), .int .i64 now] w fun e w' => e = .returned (.int .i64 (vnext L node span now)) ∧ Turns [] w w' := by
  have hb := h.sep.blk 0 rfl
  have Lh := Lib.hid (live_is b node span hv L now hL _ (h.sep.drew.got [0, 1]))
  have Nh := Lib.hid (fun w t => next_any (live L node span now) L.length node (live_lt L node span now) w t)
  obtain ⟨A, c, rfl, _⟩ := formI (h.sep.own 1 rfl)
  unfold vnext
  generalize live L node span now = s at *
  generalize nextI s L.length node = r at *
  have hTh := Lib.hid (hT.turns ((Turns.refl [] w).drew))
  have Td := (Turns.refl [] w).drew
  have c0 : World.cell? (w.drew) ⟨b, 0, none⟩ = some _ := (hb.turns Td (by simp)).cell 0
  have c2 : World.cell? (w.drew) ⟨b, 2, none⟩ = some _ := (hb.turns Td (by simp)).cell 2
  clear h hT hb
  go_enter Tryd.func18, Tryd.ntmps18
  go_wp2_with fail
  go_wp2_with fail
  refine wp_region_flo [(0, true), (1, true), (3, true), (4, true), (5, true), (6, true), (7, true), (8, true), (9, true), (10, true), (11, true), (2, false), (12, false), (13, true)] (fun W => Turns [] w.drew W) (by kernel_rfl) rfl (by kernel_rfl) (by intro c d v a w h; cases d <;> first | (simpa [Exit.then, Exit.inBlock, Act.put] using h) | exact h) (Turns.refl _ _) ?_
  generalize hw1 : w.drew = w1 at *
  clear hw1
  refine flo_read _ rfl (fun K hK => ?_)
  go_simp
  first | (refine hK _ ?_) | (refine ⟨fun W hS => ?_, hK _ ?_⟩; · (have x0 := hS.old c0; have x2 := hS.old c2; try go_simp))
  clear hK K
  refine flo_read _ rfl (fun K hK => ?_)
  go_simp
  first | (refine hK _ ?_) | (refine ⟨fun W hS => ?_, hK _ ?_⟩; · (have x0 := hS.old c0; have x2 := hS.old c2; try go_simp))
  clear hK K
  refine flo_read _ rfl (fun K hK => ?_)
  go_simp
  first | (refine hK _ ?_) | (refine ⟨fun W hS => ?_, hK _ ?_⟩; · (have x0 := hS.old c0; have x2 := hS.old c2; try go_simp))
  clear hK K
  refine flo_read _ rfl (fun K hK => ?_)
  go_simp
  first | (refine hK _ ?_) | (refine ⟨fun W hS => ?_, hK _ ?_⟩; · (have x0 := hS.old c0; have x2 := hS.old c2; try go_simp))
  clear hK K
  refine flo_read _ rfl (fun K hK => ?_)
  go_simp
  first | (refine hK _ ?_) | (refine ⟨fun W hS => ?_, hK _ ?_⟩; · (have x0 := hS.old c0; have x2 := hS.old c2; try go_simp))
  clear hK K
  refine flo_read _ rfl (fun K hK => ?_)
  go_simp
  first | (refine hK _ ?_) | (refine ⟨fun W hS => ?_, hK _ ?_⟩; · (have x0 := hS.old c0; have x2 := hS.old c2; try go_simp))
  clear hK K
  refine flo_read _ rfl (fun K hK => ?_)
  go_simp
  first | (refine hK _ ?_) | (refine ⟨fun W hS => ?_, hK _ ?_⟩; · (have x0 := hS.old c0; have x2 := hS.old c2; try go_simp))
  clear hK K
  refine flo_read _ rfl (fun K hK => ?_)
  go_simp
  first | (refine hK _ ?_) | (refine ⟨fun W hS => ?_, hK _ ?_⟩; · (have x0 := hS.old c0; have x2 := hS.old c2; try go_simp))
  clear hK K
  refine flo_read _ rfl (fun K hK => ?_)
  go_simp
  first | (refine hK _ ?_) | (refine ⟨fun W hS => ?_, hK _ ?_⟩; · (have x0 := hS.old c0; have x2 := hS.old c2; try go_simp))
  clear hK K
  refine flo_read _ rfl (fun K hK => ?_)
  go_simp
  first | (refine hK _ ?_) | (refine ⟨fun W hS => ?_, hK _ ?_⟩; · (have x0 := hS.old c0; have x2 := hS.old c2; try go_simp))
  clear hK K
  refine flo_read _ rfl (fun K hK => ?_)
  go_simp
  first | (refine hK _ ?_) | (refine ⟨fun W hS => ?_, hK _ ?_⟩; · (have x0 := hS.old c0; have x2 := hS.old c2; try go_simp))
  clear hK K
  refine flo_alone _ rfl ?_
  go_wp2_with fail
  go_at_call 16
  refine Calls.mono (Lh.out) ?_
  rintro e w2 ⟨rfl, t2⟩
  go_wp2_with fail
  refine ⟨fun W => Turns [] w2 W, fun W h => t2.trans h, Turns.refl _ _, ?_⟩
  have Tb := Lib.hid (hTh.out.turns t2)
  refine flo_alone _ rfl ?_
  go_wp2_with fail
  go_at_call 28
  refine Calls.mono (Nh.out _ Tb.out) ?_
  rintro e w3 ⟨rfl, t3⟩
  go_wp2_with fail
  refine ⟨fun W => Turns [] w3 W, fun W h => t3.trans h, Turns.refl _ _, ?_⟩
  have T3 := (Td.trans t2).trans t3
  clear c0 c2 t2 t3 Td
  refine flo_read _ rfl (fun K hK => ?_)
  go_simp
  first | (refine hK _ ?_) | (refine ⟨fun W hS => ?_, hK _ ?_⟩; · (skip; try go_simp))
  clear hK K
  refine flo_end ?_
  go_wp2_with fail
  go_ret
  exact ⟨rfl, T3⟩
theorem heard_nil (w : World) : Calls Tryd.prog 15 #[.pointer none] w fun e w' => e = .returned (.slice none 0 0) ∧ Turns [] w w' := by
  go_enter Tryd.func15, Tryd.ntmps15
  go_wp2_with fail
  go_ret
  exact ⟨rfl, Turns.refl _ _⟩
theorem heard_is (b : Nat) (node span : Int) (hv : Value) (L : List Int) (hL : L.length ≤ 64) (w : World) (h : Got (vw b node span hv L) w) : Calls Tryd.prog 15 #[.pointer (some ⟨b, 0, none⟩)] w fun e w' => ∃ u, e = .returned u ∧ OwnS 3 1 w' u (ins L) ∧ Turns [] w w' := by
  have Ch := Lib.hid (cloneI_is w hv L (h.sep.own 1 rfl).reads (by omega))
  have c2 : World.cell? (w) ⟨b, 2, none⟩ = some _ := (h.sep.blk 0 rfl).cell 2
  obtain ⟨A, c, rfl, _⟩ := formI (h.sep.own 1 rfl)
  clear h
  go_enter Tryd.func15, Tryd.ntmps15
  go_wp2_with fail
  go_at_call 40
  refine Calls.mono (Ch.out) ?_
  rintro e w1 ⟨u, rfl, o, t, _⟩
  go_wp2_with fail
  go_ret
  exact ⟨_, rfl, o, t⟩
end Go.Proofs.YtmaielpfeajelaaDoor.Yb
