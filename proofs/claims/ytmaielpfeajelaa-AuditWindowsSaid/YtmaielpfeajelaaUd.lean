/- The walks of audit's Order and Twice at alive's lists; alive; AuditWindows. -/
import Derived.Test.YtmaielpfeajelaaUc
import Derived.Test.YtmaielpfeajelaaHa
set_option linter.unusedVariables false
set_option linter.unusedSimpArgs false
set_option maxRecDepth 100000
namespace Go.Proofs.Ytmaielpfeajelaa.Ud
open Go.RowKit Go.MapKept Go.ChangeShapes Go.WideShapes Hm Hs Hf Hg Hv Hx Hy Ho Hn Ha Sm Sat Mu Ss Ua Ub Uc
/-- what falls holds -/
abbrev fst_ (b1 b2 : Nat) (first : Bool) (most : Int) : List Th := [tBlk b1 #[.bool first] 4, tBlk b2 #[.int .i64 most] 3]
theorem falls_no (w : World) (b1 b2 : Nat) (first : Bool) (most : Int) (x : Gr) (h : Got (fst_ b1 b2 first most) w) (hx : first = true ∨ x.gen ≥ most) :
    Calls Try.prog 62 #[.agg #[.int .i64 x.time, .int .i64 x.key, .int .i64 x.cost, .int .i64 x.gen], .pointer (some ⟨b1, 0, none⟩), .pointer (some ⟨b2, 0, none⟩)] w fun e w' => e = .returned (.bool false) ∧ Sep (fps (fst_ b1 b2 first most)) w (fst_ b1 b2 false x.gen) w' := by
  have H := h.sep
  generalize hFF : fps (fst_ b1 b2 first most) = FF at H ⊢
  clear h hFF
  replace H := H.alloc #[.int .i64 x.time, .int .i64 x.key, .int .i64 x.cost, .int .i64 x.gen] 62
  have c0 : World.cell? (w.alloc (.cells #[.int .i64 x.time, .int .i64 x.key, .int .i64 x.cost, .int .i64 x.gen] 62)) ⟨b1, 0, none⟩ = some _ := (H.blk 1 rfl).cell 0
  have cf0 : World.frozen? (w.alloc (.cells #[.int .i64 x.time, .int .i64 x.key, .int .i64 x.cost, .int .i64 x.gen] 62)) ⟨b1, 0, none⟩ = false := (H.blk 1 rfl).frozen 0
  have d0 : World.cell? (w.alloc (.cells #[.int .i64 x.time, .int .i64 x.key, .int .i64 x.cost, .int .i64 x.gen] 62)) ⟨b2, 0, none⟩ = some _ := (H.blk 2 rfl).cell 0
  have df0 : World.frozen? (w.alloc (.cells #[.int .i64 x.time, .int .i64 x.key, .int .i64 x.cost, .int .i64 x.gen] 62)) ⟨b2, 0, none⟩ = false := (H.blk 2 rfl).frozen 0
  have e3 : World.cell? (w.alloc (.cells #[.int .i64 x.time, .int .i64 x.key, .int .i64 x.cost, .int .i64 x.gen] 62)) ⟨w.heap.size, 3, none⟩ = some _ := (H.blk 0 rfl).cell 3
  have H2 := (H.set 2 rfl 0 (.int .i64 x.gen))
  have i0 : World.cell? ((w.alloc (.cells #[.int .i64 x.time, .int .i64 x.key, .int .i64 x.cost, .int .i64 x.gen] 62)).setCell ⟨b2, 0, none⟩ (.int .i64 x.gen)) ⟨b1, 0, none⟩ = some _ := (H2.blk 1 rfl).cell 0
  have if0 : World.frozen? ((w.alloc (.cells #[.int .i64 x.time, .int .i64 x.key, .int .i64 x.cost, .int .i64 x.gen] 62)).setCell ⟨b2, 0, none⟩ (.int .i64 x.gen)) ⟨b1, 0, none⟩ = false := (H2.blk 1 rfl).frozen 0
  have H3 := Lib.hid ((H2.set 1 rfl 0 (.bool false)).keep [1, 2])
  clear H H2
  cases first with
  | true =>
    go_enter Try.func62, Try.ntmps62
    go_wp2_with fail
    go_ret
    exact ⟨rfl, H3.out⟩
  | false =>
    have g1 : decide (x.gen ≥ most) = true := decide_eq_true (by rcases hx with h | h; cases h; exact h)
    clear hx
    go_enter Try.func62, Try.ntmps62
    go_wp2_with fail
    go_ret
    exact ⟨rfl, H3.out⟩
theorem falls_yes (w : World) (b1 b2 : Nat) (most : Int) (x : Gr) (h : Got (fst_ b1 b2 false most) w) (hx : x.gen < most) :
    Calls Try.prog 62 #[.agg #[.int .i64 x.time, .int .i64 x.key, .int .i64 x.cost, .int .i64 x.gen], .pointer (some ⟨b1, 0, none⟩), .pointer (some ⟨b2, 0, none⟩)] w fun e w' => e = .returned (.bool true) ∧ Turns [] w w' := by
  have H := h.sep
  clear h
  replace H := H.alloc #[.int .i64 x.time, .int .i64 x.key, .int .i64 x.cost, .int .i64 x.gen] 62
  have c0 : World.cell? (w.alloc (.cells #[.int .i64 x.time, .int .i64 x.key, .int .i64 x.cost, .int .i64 x.gen] 62)) ⟨b1, 0, none⟩ = some _ := (H.blk 1 rfl).cell 0
  have d0 : World.cell? (w.alloc (.cells #[.int .i64 x.time, .int .i64 x.key, .int .i64 x.cost, .int .i64 x.gen] 62)) ⟨b2, 0, none⟩ = some _ := (H.blk 2 rfl).cell 0
  have e3 : World.cell? (w.alloc (.cells #[.int .i64 x.time, .int .i64 x.key, .int .i64 x.cost, .int .i64 x.gen] 62)) ⟨w.heap.size, 3, none⟩ = some _ := (H.blk 0 rfl).cell 3
  have g1 : decide (x.gen ≥ most) = false := decide_eq_false (by omega)
  clear H hx
  go_enter Try.func62, Try.ntmps62
  go_wp2_with fail
  go_ret
  exact ⟨rfl, (Turns.refl _ _).alloc _⟩
theorem makeFalls_is (w : World) : Calls Try.prog 43 #[] w fun e w' => ∃ b1 b2, e = .returned (.func (.func 62) #[] #[.pointer (some ⟨b1, 0, none⟩), .pointer (some ⟨b2, 0, none⟩)]) ∧ Sep [] w (fst_ b1 b2 true 0) w' := by
  have H := ((Sep.start w).alloc #[.int .i64 0] 3).alloc #[.bool true] 4
  rw [World.size_alloc] at H
  have H3 := Lib.hid H
  clear H
  go_enter Try.func43, Try.ntmps43
  go_wp2_with fail
  go_ret
  exact ⟨w.heap.size + 1, w.heap.size, rfl, H3.out⟩
/-- alive's grants -/
def aG : List Gr := [⟨10, 3, 4, 5⟩, ⟨12, 3, 5, 5⟩, ⟨13, 4, 9, 4⟩]
set_option maxHeartbeats 2000000 in
theorem indexA_is (g : Nat) (cb : Array Value) (eg : ∀ args w, (callFunc g args).run Try.prog w = .ok (.enter g args) w) (b1 b2 : Nat)
    (hno : Hid (∀ W first most (x : Gr), Got (fst_ b1 b2 first most) W → (first = true ∨ x.gen ≥ most) → Calls Try.prog g (#[.agg #[.int .i64 x.time, .int .i64 x.key, .int .i64 x.cost, .int .i64 x.gen]] ++ cb) W fun e w' => e = .returned (.bool false) ∧ Sep (fps (fst_ b1 b2 first most)) W (fst_ b1 b2 false x.gen) w'))
    (hyes : Hid (∀ W most (x : Gr), Got (fst_ b1 b2 false most) W → x.gen < most → Calls Try.prog g (#[.agg #[.int .i64 x.time, .int .i64 x.key, .int .i64 x.cost, .int .i64 x.gen]] ++ cb) W fun e w' => e = .returned (.bool true) ∧ Turns [] W w'))
    (w : World) (v : Value) (hv : RdS 4 w v (aG.map Gr.cells)) (w0 : World) (h : Sep [] w0 (fst_ b1 b2 true 0) w) (hr : RdS 4 w0 v (aG.map Gr.cells)) :
    Calls Try.prog 42 #[v, .func (.func g) #[] cb] w fun e w' => e = .returned (.int .i64 2) ∧ Turns [] w0 w' := by
  have hrh := Lib.hid hr
  have H := h
  obtain ⟨A, c, rfl, _⟩ := hv.form
  rw [List.length_map, show aG.length = 3 from rfl]
  obtain ⟨X, hX⟩ : ∃ X : Ending → World → Prop, X = fun e w' => e = .returned (.int .i64 2) ∧ Turns [] w0 w' := ⟨_, rfl⟩
  rw [← hX]
  have hXh : Hid (∀ (j : Nat), j = 2 → ∀ w', Turns [] w0 w' → X (.returned (.int .i64 j)) w') := Lib.hid (fun j e w' h => by rw [hX, e]; exact ⟨rfl, h⟩)
  clear h hr hv hX
  go_enter Try.func42, Try.ntmps42
  go_wp2_with fail
  go_loopw [5, 8] (fun _ v8 wr => ∃ (j : Nat), j ≤ 2 ∧ v8 = .int .i64 j ∧ Sep [] w0 (fst_ b1 b2 (decide (j = 0)) (if j = 0 then 0 else 5)) wr) (fun _ v8 _ => 3 - (RowKit.intOf v8).toNat)
  case atStart => exact ⟨0, by omega, rfl, H⟩
  case round =>
    obtain ⟨j, hj, rfl, H1⟩ := hrel
    clear H
    have H := H1
    clear H1
    have g1 : decide ((j : Int) < 3) = true := by simp; omega
    rcases (show j = 0 ∨ j = 1 ∨ j = 2 by omega) with ek | ek | ek
    · have e := Lib.hid ek
      have H0 : Sep [] w0 (fst_ b1 b2 true 0) wr := by simpa [ek] using H
      obtain ⟨ad, c', hv, L⟩ := gcells_at (l := aG) hrh.out (j := j) (x := ⟨10, 3, 4, 5⟩) (by rw [ek]; rfl)
      injection hv with e1 e2 e3
      subst e1 e3
      obtain ⟨i0, i1, i2, i3⟩ := L.turns H0.t
      have Ch := Lib.hid (hno.out wr true 0 ⟨10, 3, 4, 5⟩ (H0.got [0, 1]) (.inl rfl))
      have hHh := Lib.hid H0
      clear H H0 L e2 ek
      go_wp2_with (first | (go_at_fn g; refine Calls.mono Ch.out ?_; rintro e' w2 ⟨rfl, h2⟩; have H : Sep [] w0 (fst_ b1 b2 false 5) w2 := (hHh.out.call [0, 1] h2).keep [0, 1]; clear h2) | go_in)
      go_roundw
      case rel => exact ⟨j + 1, by have := e.out; omega, by go_num, by simpa using H⟩
      case measure => have := e.out; simp [RowKit.intOf]; omega
    · have e := Lib.hid ek
      have H0 : Sep [] w0 (fst_ b1 b2 false 5) wr := by simpa [ek] using H
      obtain ⟨ad, c', hv, L⟩ := gcells_at (l := aG) hrh.out (j := j) (x := ⟨12, 3, 5, 5⟩) (by rw [ek]; rfl)
      injection hv with e1 e2 e3
      subst e1 e3
      obtain ⟨i0, i1, i2, i3⟩ := L.turns H0.t
      have Ch := Lib.hid (hno.out wr false 5 ⟨12, 3, 5, 5⟩ (H0.got [0, 1]) (.inr (by decide)))
      have hHh := Lib.hid H0
      clear H H0 L e2 ek
      go_wp2_with (first | (go_at_fn g; refine Calls.mono Ch.out ?_; rintro e' w2 ⟨rfl, h2⟩; have H : Sep [] w0 (fst_ b1 b2 false 5) w2 := (hHh.out.call [0, 1] h2).keep [0, 1]; clear h2) | go_in)
      go_roundw
      case rel => exact ⟨j + 1, by have := e.out; omega, by go_num, by simpa using H⟩
      case measure => have := e.out; simp [RowKit.intOf]; omega
    · have e := Lib.hid ek
      have H0 : Sep [] w0 (fst_ b1 b2 false 5) wr := by simpa [ek] using H
      obtain ⟨ad, c', hv, L⟩ := gcells_at (l := aG) hrh.out (j := j) (x := ⟨13, 4, 9, 4⟩) (by rw [ek]; rfl)
      injection hv with e1 e2 e3
      subst e1 e3
      obtain ⟨i0, i1, i2, i3⟩ := L.turns H0.t
      have Ch := Lib.hid (hyes.out wr 5 ⟨13, 4, 9, 4⟩ (H0.got [0, 1]) (by decide))
      have T := H0.t
      have hX := hXh.out j ek
      clear H H0 L e2 ek
      go_wp2_with (first | (go_at_fn g; refine Calls.mono Ch.out ?_; rintro e' w2 ⟨rfl, t2⟩; replace hX := hX w2 (T.trans t2)) | go_in)
      exact hX
theorem orderA_is (w : World) (v : Value) (hv : RdS 4 w v (aG.map Gr.cells)) : Calls Try.prog 25 #[v] w fun e w' => e = .returned (.int .i64 2) ∧ Turns [] w w' := by
  have hvh := Lib.hid hv
  obtain ⟨A, c, rfl, _⟩ := hv.form
  rw [List.length_map, show aG.length = 3 from rfl] at hvh ⊢
  clear hv
  go_enter Try.func25, Try.ntmps25
  go_wp2_with fail
  go_at_call 43
  refine Calls.mono (makeFalls_is _) ?_
  rintro e w1 ⟨b1, b2, rfl, H⟩
  have Ih := Lib.hid (indexA_is 62 #[.pointer (some ⟨b1, 0, none⟩), .pointer (some ⟨b2, 0, none⟩)] (enters_of Try.func62 (by kernel_rfl) rfl) b1 b2 (Lib.hid (fun W first most x h hx => falls_no W b1 b2 first most x h hx)) (Lib.hid (fun W most x h hx => falls_yes W b1 b2 most x h hx)) w1 _ (hvh.out.mv (fun a u => H.t.old)) w H hvh.out)
  clear H
  go_wp2_with fail
  go_at_call 42
  refine Calls.mono (Ih.out) ?_
  rintro e w2 ⟨rfl, t2⟩
  go_wp2_with fail
  go_ret
  exact ⟨rfl, t2⟩
def twL : Nat → List (Int × Value)
  | 0 => []
  | 1 => [(4, .int .i64 1)]
  | _ => [(4, .int .i64 1), (7, .int .i64 1)]
set_option maxHeartbeats 2000000 in
theorem twiceA_is (w : World) (v : Value) (hv : RdS 1 w v (ins [4, 7, 4])) : Calls Try.prog 26 #[v] w fun e w' => e = .returned (.int .i64 2) ∧ Turns [] w w' := by
  have hvh := Lib.hid hv
  obtain ⟨A, c, rfl, _⟩ := hv.form
  rw [ins_len, show [(4 : Int), 7, 4].length = 3 from rfl] at hvh ⊢
  have H := (Sep.start w).allocMap
  have hmm := @run_makeMap Try.prog
  obtain ⟨X, hX⟩ : ∃ X : Ending → World → Prop, X = fun e w' => e = .returned (.int .i64 2) ∧ Turns [] w w' := ⟨_, rfl⟩
  rw [← hX]
  have hXh : Hid (∀ (j : Nat), j = 2 → ∀ w', Turns [] w w' → X (.returned (.int .i64 j)) w') := Lib.hid (fun j e w' h => by rw [hX, e]; exact ⟨rfl, h⟩)
  clear hv hX
  go_enter Try.func26, Try.ntmps26
  go_wp2_with fail
  clear hmm
  generalize w.heap.size = m at H ⊢
  go_loopw [9] (fun v9 wr => ∃ (j : Nat), j ≤ 2 ∧ v9 = .int .i64 j ∧ Sep [] w [tMap m (twL j)] wr) (fun v9 _ => 3 - (RowKit.intOf v9).toNat)
  case atStart => exact ⟨0, by omega, rfl, H⟩
  case round =>
    obtain ⟨j, hj, rfl, H1⟩ := hrel
    clear H
    have H := H1
    clear H1
    have g1 : decide ((j : Int) < 3) = true := by simp; omega
    rcases (show j = 0 ∨ j = 1 ∨ j = 2 by omega) with ek | ek | ek
    · have e := Lib.hid ek
      rw [ek] at H
      obtain ⟨ad, c', hv, L⟩ := icell (l := [4, 7, 4]) hvh.out (j := j) (x := 4) (by rw [ek]; rfl)
      injection hv with e1 e2 e3
      subst e1 e3
      have i0 := H.t.old L
      have a1 : at_ (twL 0) 4 = none := rfl
      have a2 : put_ (twL 0) 4 (.int .i64 1) = (twL 1) := rfl
      have a3 : at_ (twL 1) 4 = some (.int .i64 1) := rfl
      have a1h := Lib.hid a1
      have a2h := Lib.hid a2
      have a3h := Lib.hid a3
      clear L e2 a1 a2 a3 ek
      go_wp2_with (first | (at_lookup; refine wp_lookup_none (H.map 0 rfl) rfl _ _ _ _ _ rfl Try.underlying81 Try.underlying3 _ (Try.zeroValue3 _) rfl _ rfl a1h.out ?_) | (at_mapUpdate; refine wp_update (H.map 0 rfl) rfl _ _ _ _ _ _ rfl Try.underlying81 Try.underlying3 rfl 4 rfl (.int .i64 1) rfl ?_; intro w3 m3 t3; rw [a2h.out] at m3; replace H := H.step 0 (T' := tMap m (twL 1)) rfl t3 m3 (fun k hk => .inl hk); clear m3 t3 i0) | (at_lookup; refine wp_lookup_some (H.map 0 rfl) rfl _ _ _ _ _ rfl Try.underlying81 Try.underlying3 _ (Try.zeroValue3 _) rfl _ rfl _ a3h.out ?_))
      go_roundw
      case rel => exact ⟨j + 1, by have := e.out; omega, by go_num, by rw [e.out]; exact H⟩
      case measure => have := e.out; simp [RowKit.intOf]; omega
    · have e := Lib.hid ek
      rw [ek] at H
      obtain ⟨ad, c', hv, L⟩ := icell (l := [4, 7, 4]) hvh.out (j := j) (x := 7) (by rw [ek]; rfl)
      injection hv with e1 e2 e3
      subst e1 e3
      have i0 := H.t.old L
      have a1 : at_ (twL 1) 7 = none := rfl
      have a2 : put_ (twL 1) 7 (.int .i64 1) = (twL 2) := rfl
      have a3 : at_ (twL 2) 7 = some (.int .i64 1) := rfl
      have a1h := Lib.hid a1
      have a2h := Lib.hid a2
      have a3h := Lib.hid a3
      clear L e2 a1 a2 a3 ek
      go_wp2_with (first | (at_lookup; refine wp_lookup_none (H.map 0 rfl) rfl _ _ _ _ _ rfl Try.underlying81 Try.underlying3 _ (Try.zeroValue3 _) rfl _ rfl a1h.out ?_) | (at_mapUpdate; refine wp_update (H.map 0 rfl) rfl _ _ _ _ _ _ rfl Try.underlying81 Try.underlying3 rfl 7 rfl (.int .i64 1) rfl ?_; intro w3 m3 t3; rw [a2h.out] at m3; replace H := H.step 0 (T' := tMap m (twL 2)) rfl t3 m3 (fun k hk => .inl hk); clear m3 t3 i0) | (at_lookup; refine wp_lookup_some (H.map 0 rfl) rfl _ _ _ _ _ rfl Try.underlying81 Try.underlying3 _ (Try.zeroValue3 _) rfl _ rfl _ a3h.out ?_))
      go_roundw
      case rel => exact ⟨j + 1, by have := e.out; omega, by go_num, by rw [e.out]; exact H⟩
      case measure => have := e.out; simp [RowKit.intOf]; omega
    · have e := Lib.hid ek
      rw [ek] at H
      obtain ⟨ad, c', hv, L⟩ := icell (l := [4, 7, 4]) hvh.out (j := j) (x := 4) (by rw [ek]; rfl)
      injection hv with e1 e2 e3
      subst e1 e3
      have i0 := H.t.old L
      have a1 : at_ (twL 2) 4 = some (.int .i64 1) := rfl
      have a2 : put_ (twL 2) 4 (.int .i64 2) = [(4, .int .i64 2), (7, .int .i64 1)] := rfl
      have a3 : at_ [(4, .int .i64 2), (7, .int .i64 1)] 4 = some (.int .i64 2) := rfl
      have a1h := Lib.hid a1
      have a2h := Lib.hid a2
      have a3h := Lib.hid a3
      have hX := hXh.out j ek
      clear L e2 a1 a2 a3 ek
      go_wp2_with (first | (at_lookup; refine wp_lookup_some (H.map 0 rfl) rfl _ _ _ _ _ rfl Try.underlying81 Try.underlying3 _ (Try.zeroValue3 _) rfl _ rfl _ a1h.out ?_) | (at_mapUpdate; refine wp_update (H.map 0 rfl) rfl _ _ _ _ _ _ rfl Try.underlying81 Try.underlying3 rfl 4 rfl (.int .i64 2) rfl ?_; intro w3 m3 t3; rw [a2h.out] at m3; replace H := H.step 0 (T' := tMap m [(4, .int .i64 2), (7, .int .i64 1)]) rfl t3 m3 (fun k hk => .inl hk); clear m3 t3 i0; replace hX := hX _ H.t) | (at_lookup; refine wp_lookup_some (H.map 0 rfl) rfl _ _ _ _ _ rfl Try.underlying81 Try.underlying3 _ (Try.zeroValue3 _) rfl _ rfl _ a3h.out ?_))
      exact hX
theorem onces_eq {l m : List Int} (hm : m.Pairwise (· < ·)) (h : ∀ x, x ∈ m ↔ x ∈ l) : onces l = m := Hj.sorted_ext (onces_sorted l) hm (fun x => by rw [onces_mem, h])
theorem aAll : onces (tms aG 3) = [10, 12] := onces_eq (by simp) (by intro x; rw [show tms aG 3 = [10, 12] from by decide +kernel])
theorem aB1 : bout aG 3 1 5 0 (onces (tms aG 3)) (onces (tms aG 3)).length 0 = some (9, 12) := by rw [aAll]; decide +kernel
theorem aB2 : bout aG 3 1 6 0 (onces (tms aG 3)) (onces (tms aG 3)).length 0 = none := by rw [aAll]; decide +kernel
set_option maxHeartbeats 2000000 in
theorem alive_is (w : World) : Calls Try.prog 7 #[] w fun e w' => e = .returned (.bool true) ∧ Turns [] w w' := by
  have T0 := (Turns.refl [] w).alloc (.cells #[.int .i64 10, .int .i64 3, .int .i64 4, .int .i64 5, .int .i64 12, .int .i64 3, .int .i64 5, .int .i64 5, .int .i64 13, .int .i64 4, .int .i64 9, .int .i64 4] 62)
  have R0 : RdS 4 _ (.slice (some ⟨w.heap.size, 0, none⟩) 3 3) (aG.map Gr.cells) := RdS.of_cells (rows := aG.map Gr.cells) (Blk.new w #[.int .i64 10, .int .i64 3, .int .i64 4, .int .i64 5, .int .i64 12, .int .i64 3, .int .i64 5, .int .i64 5, .int .i64 13, .int .i64 4, .int .i64 9, .int .i64 4] 62) rfl (by simp [aG, Gr.cells]) 3 (by simp [aG]) (by decide)
  have R0h := Lib.hid R0
  clear R0
  go_enter Try.func7, Try.ntmps7
  go_wp2_with fail
  go_at_call 8
  refine Calls.mono (budget_is _ _ aG 3 1 5 0 R0h.out (by decide) _ aB1) ?_
  rintro e w1 ⟨rfl, t1⟩
  have R1h := Lib.hid (R0h.out.mv (fun a u => t1.old))
  have T1 := T0.trans t1
  clear R0h T0 t1
  unfold budV
  go_wp2_with fail
  go_at_call 8
  refine Calls.mono (budget_is _ _ aG 3 1 6 0 R1h.out (by decide) _ aB2) ?_
  rintro e w2 ⟨rfl, t2⟩
  have R2h := Lib.hid (R1h.out.mv (fun a u => t2.old))
  have T2 := T1.trans t2
  clear R1h T1 t2
  unfold budV
  go_wp2_with fail
  go_at_call 25
  refine Calls.mono (orderA_is _ _ R2h.out) ?_
  rintro e w3 ⟨rfl, t3⟩
  have R3h := Lib.hid (R2h.out.mv (fun a u => t3.old))
  have T3 := T2.trans t3
  clear R2h T2 t3
  have s5 : spent aG 3 10 12 = 5 := by decide +kernel
  have Sp := Lib.hid (fun W h => spent_is W (.slice (some ⟨w.heap.size, 0, none⟩) 3 3) aG 3 10 12 h (by decide))
  rw [s5] at Sp
  go_wp2_with fail
  go_at_call 9
  refine Calls.mono (Sp.out _ R3h.out) ?_
  rintro e w4 ⟨rfl, t4⟩
  have T4 := T3.trans t4
  clear R3h T3 t4 Sp s5
  have Rw : RdS 1 (w4.alloc (.cells #[.int .i64 4, .int .i64 7, .int .i64 4] 3)) (.slice (some ⟨w4.heap.size, 0, none⟩) 3 3) (ins [4, 7, 4]) := RdS.of_cells (rows := ins [4, 7, 4]) (Blk.new w4 #[.int .i64 4, .int .i64 7, .int .i64 4] 3) rfl (by simp [ins]) 3 (by simp [ins]) (by decide)
  have Rwh := Lib.hid Rw
  have T5 := T4.alloc (.cells #[.int .i64 4, .int .i64 7, .int .i64 4] 3)
  clear Rw T4
  go_wp2_with fail
  go_at_call 26
  refine Calls.mono (twiceA_is _ _ Rwh.out) ?_
  rintro e w5 ⟨rfl, t5⟩
  have T6 := T5.trans t5
  clear Rwh T5 t5
  have a17 : allowed 2 3 1 5 = 17 := by decide +kernel
  have Al := Lib.hid (fun W => allowed_is 2 3 1 5 W)
  rw [a17] at Al
  go_wp2_with fail
  go_at_call 10
  refine Calls.mono (Al.out _) ?_
  rintro e w6 ⟨rfl, t6⟩
  go_wp2_with fail
  go_ret
  exact ⟨rfl, T6.trans t6⟩
end Go.Proofs.Ytmaielpfeajelaa.Ud
