/- The walk of annonalaw17.step. -/
import Derived.Test.YthnegmpdadkkcaaEp
set_option linter.unusedVariables false
set_option linter.unusedSimpArgs false
set_option maxRecDepth 100000
namespace Go.Proofs.Ythnegmpdadkkcaa.Es
open Go.RowKit Go.MapKept Hm Hs Hr Hc Hd Hf Hg Hv Rg Cn El Em En Eo Ep
theorem up_ok {e : El} {g : Int} (h : e.ok) (hg : e.P < g ∧ g ≤ 1099511627776) : (El.up e g).ok :=
  ⟨h.n, h.i, ⟨by have := h.p; show 0 ≤ g; omega, hg.2⟩, h.r, .inl rfl, h.s⟩
theorem won_ok {e : El} (h : e.ok) : e.won.ok :=
  ⟨h.n, h.i, h.p, h.r, by
    show (if e.win then 0 else e.B) = 0 ∨ (if e.win then 0 else e.B) = e.P
    split
    · exact .inl rfl
    · exact h.b, h.s⟩
theorem stand_both (e : El) (hv : e.ok) : ∃ (s : Bool) (g : Int) (t : Nat) (n : Bool) (f : Int) (e' : El), e'.ok ∧ e.P ≤ e'.P ∧
    (∀ w b, IsE 159 w b e → Calls Try.prog 45 #[.pointer (some ⟨b, 0, none⟩)] w fun x w' => x = .returned (.tuple #[resV s g t n, .int .i64 f]) ∧ IsE 159 w' b e' ∧ Turns [b] w w') ∧
    (∀ w b, IsE 75 w b e → Calls Try.prog 90 #[.pointer (some ⟨b, 0, none⟩)] w fun x w' => x = .returned (.tuple #[resV s g t n, .int .i64 f]) ∧ IsE 75 w' b e' ∧ Turns [b] w w') := by
  rcases nextE_cases hv with hx | ⟨g, hx, h1, h2, _, _⟩
  · refine ⟨_, _, _, _, _, e, hv, Int.le_refl _, fun w b h => (stand_over w b e h hv hx).mono fun x w' ⟨h1, h2⟩ => ⟨h1, Blk.turns h h2 (by simp), h2.mono (by simp)⟩, fun w b h => (dstand_over w b e h hv hx).mono fun x w' ⟨h1, h2⟩ => ⟨h1, Blk.turns h h2 (by simp), h2.mono (by simp)⟩⟩
  · exact ⟨_, _, _, _, _, _, won_ok (stand_ok hv ⟨h1, h2⟩), by show e.P ≤ g; omega, fun w b h => stand_is w b e g h hv hx ⟨h1, h2⟩, fun w b h => dstand_is w b e g h hv hx ⟨h1, h2⟩⟩
theorem take_both (e : El) (hv : e.ok) (g : Int) (t : Nat) (ht : t < 18446744073709551616) : ∃ (s : Bool) (g' : Int) (t' : Nat) (n : Bool) (e' : El), e'.ok ∧ e.P ≤ e'.P ∧
    (∀ w b, IsE 159 w b e → Calls Try.prog 46 #[.pointer (some ⟨b, 0, none⟩), .int .i64 g, .int .u64 t] w fun x w' => x = .returned (resV s g' t' n) ∧ IsE 159 w' b e' ∧ Turns [b] w w') ∧
    (∀ w b, IsE 75 w b e → Calls Try.prog 93 #[.pointer (some ⟨b, 0, none⟩), .int .i64 g, .int .u64 t] w fun x w' => x = .returned (resV s g' t' n) ∧ IsE 75 w' b e' ∧ Turns [b] w w') := by
  by_cases hg : e.P < g ∧ g ≤ 1099511627776
  · exact ⟨_, _, _, _, _, up_ok hv hg, by show e.P ≤ g; omega, fun w b h => take_raise w b e g t h hv hg ht, fun w b h => dtake_raise w b e g t h hv hg ht⟩
  · by_cases hb : g < 1 ∨ g ≠ e.B
    · exact ⟨_, _, _, _, e, hv, Int.le_refl _, fun w b h => (take_none w b e g t h hv hg hb).mono fun x w' ⟨h1, h2⟩ => ⟨h1, Blk.turns h h2 (by simp), h2.mono (by simp)⟩, fun w b h => (dtake_none w b e g t h hv hg hb).mono fun x w' ⟨h1, h2⟩ => ⟨h1, Blk.turns h h2 (by simp), h2.mono (by simp)⟩⟩
    · exact ⟨_, _, _, _, _, won_ok (more_ok hv ht), Int.le_refl _, fun w b h => take_count w b e g t h hv (by omega) (by omega) ht, fun w b h => dtake_count w b e g t h hv (by omega) (by omega) ht⟩
theorem raise_both (e : El) (hv : e.ok) (g : Int) : ∃ (r : Bool) (e' : El), e'.ok ∧ e.P ≤ e'.P ∧
    (∀ w b, IsE 159 w b e → Calls Try.prog 47 #[.pointer (some ⟨b, 0, none⟩), .int .i64 g] w fun x w' => x = .returned (.bool r) ∧ IsE 159 w' b e' ∧ Turns [b] w w') ∧
    (∀ w b, IsE 75 w b e → Calls Try.prog 92 #[.pointer (some ⟨b, 0, none⟩), .int .i64 g] w fun x w' => x = .returned (.bool r) ∧ IsE 75 w' b e' ∧ Turns [b] w w') := by
  by_cases hg : e.P < g ∧ g ≤ 1099511627776
  · exact ⟨_, _, up_ok hv hg, by show e.P ≤ g; omega, fun w b h => raise_yes w b e g h hg, fun w b h => draise_yes w b e g h hv.p.1 hg⟩
  · exact ⟨_, e, hv, Int.le_refl _, fun w b h => (raise_no w b e g h hg).mono fun x w' ⟨h1, h2⟩ => ⟨h1, Blk.turns h h2 (by simp), h2.mono (by simp)⟩, fun w b h => (draise_no w b e g h hv.p.1 hg).mono fun x w' ⟨h1, h2⟩ => ⟨h1, Blk.turns h h2 (by simp), h2.mono (by simp)⟩⟩
/-- two blocks -/
structure Bs (W : World) (b1 b2 : Nat) (c1 c2 : Array Value) (T1 T2 : TypeId) : Prop where
  p : Blk W b1 c1 T1
  q : Blk W b2 c2 T2
theorem Bs.turns {w w' : World} {b1 b2 : Nat} {c1 c2 : Array Value} {T1 T2 : TypeId} {F : List Nat} (h : Bs w b1 b2 c1 c2 T1 T2) (t : Turns F w w') (h1 : b1 ∉ F) (h2 : b2 ∉ F) : Bs w' b1 b2 c1 c2 T1 T2 := ⟨h.p.turns t h1, h.q.turns t h2⟩
/-- the election, and the document's, alike -/
structure Pair (w : World) (b1 b2 : Nat) (e : El) : Prop where
  h1 : IsE 159 w b1 e
  h2 : IsE 75 w b2 e
theorem Pair.ne {w : World} {b1 b2 : Nat} {e : El} (h : Pair w b1 b2 e) : b1 ≠ b2 := Blk.ne h.h1 h.h2 (by decide)
theorem Pair.turns {w w' : World} {b1 b2 : Nat} {e : El} (h : Pair w b1 b2 e) (t : Turns [] w w') : Pair w' b1 b2 e := ⟨Blk.turns h.h1 t (by simp), Blk.turns h.h2 t (by simp)⟩
set_option maxHeartbeats 2000000 in
theorem step_raise (w : World) (b1 b2 : Nat) (e : El) (k g : Int) (t : Nat) (h : Pair w b1 b2 e) (hv : e.ok) (hk : k.tmod 6 = 5) :
    Calls Try.prog 42 #[.pointer (some ⟨b1, 0, none⟩), .pointer (some ⟨b2, 0, none⟩), .agg #[.int .u8 k, .int .i64 g, .int .u64 t]] w
    fun x w' => x = .returned (.bool true) ∧ (∃ e', Pair w' b1 b2 e' ∧ e'.ok ∧ e.P ≤ e'.P) ∧ Turns [b1, b2] w w' := by
  obtain ⟨r, e', hv', hP, hA, hB⟩ := raise_both e hv g
  have hne := h.ne
  have T0 := (Turns.refl [b1, b2] w).alloc (.cells #[.int .u8 k, .int .i64 g, .int .u64 t] 73)
  have a0 := Blk.new w #[.int .u8 k, .int .i64 g, .int .u64 t] 73
  have h0 := h.turns ((Turns.refl [] w).alloc (.cells #[.int .u8 k, .int .i64 g, .int .u64 t] 73))
  have l1 := Blk.lt h.h1
  have l2 := Blk.lt h.h2
  have hAh : Hid _ := hA
  have hBh : Hid _ := hB
  have hPh : Hid _ := And.intro hv' hP
  clear hA hB h hv hv' hP
  go_enter Try.func42, Try.ntmps42
  go_wp2_with fail
  go_at_call 47
  refine Calls.mono (hAh.out _ _ h0.h1) ?_
  rintro e w1 ⟨rfl, h1, t1⟩
  have a1 := a0.turns t1 (by simp; omega)
  have k2 : IsE 75 w1 b2 e := Blk.turns h0.h2 t1 (by simpa using hne.symm)
  have T1 := T0.trans (t1.mono (by simp))
  have d1 : w1.cell? ⟨w.heap.size, 1, none⟩ = some (.int .i64 g) := a1.cell 1
  clear h0 a0 T0 t1 hAh
  go_wp2_with fail
  go_at_call 92
  refine Calls.mono (hBh.out _ _ k2) ?_
  rintro e w2 ⟨rfl, h2, t2⟩
  have hp : Pair w2 b1 b2 e' := ⟨Blk.turns h1 t2 (by simpa using hne), h2⟩
  have T2 := T1.trans (t2.mono (by simp))
  clear h1 k2 T1 t2 hBh a1 d1
  go_wp2_with fail
  go_ret
  exact ⟨rfl, ⟨e', hp, hPh.out.1, hPh.out.2⟩, T2⟩
set_option maxHeartbeats 2000000 in
theorem step_take (w : World) (b1 b2 : Nat) (e : El) (k g : Int) (t : Nat) (h : Pair w b1 b2 e) (hv : e.ok) (hk0 : (k.tmod 6 == 0) = false) (hk5 : (k.tmod 6 == 5) = false) (ht : t < 18446744073709551616) :
    Calls Try.prog 42 #[.pointer (some ⟨b1, 0, none⟩), .pointer (some ⟨b2, 0, none⟩), .agg #[.int .u8 k, .int .i64 g, .int .u64 t]] w
    fun x w' => x = .returned (.bool true) ∧ (∃ e', Pair w' b1 b2 e' ∧ e'.ok ∧ e.P ≤ e'.P) ∧ Turns [b1, b2] w w' := by
  obtain ⟨s, g', t', n', e', hv', hP, hA, hB⟩ := take_both e hv g t ht
  have hne := h.ne
  have T0 := (Turns.refl [b1, b2] w).alloc (.cells #[.int .u8 k, .int .i64 g, .int .u64 t] 73)
  have a0 := Blk.new w #[.int .u8 k, .int .i64 g, .int .u64 t] 73
  have h0 := h.turns ((Turns.refl [] w).alloc (.cells #[.int .u8 k, .int .i64 g, .int .u64 t] 73))
  have l1 := Blk.lt h.h1
  have l2 := Blk.lt h.h2
  have hO := of_is s g' t' n'
  unfold resV at hA hB hO
  have hOh : Hid _ := hO
  have hAh : Hid _ := hA
  have hBh : Hid _ := hB
  have hPh : Hid _ := And.intro hv' hP
  clear hA hB h hv hv' hP hO
  go_enter Try.func42, Try.ntmps42
  go_wp2_with fail
  go_at_call 46
  refine Calls.mono (hAh.out _ _ h0.h1) ?_
  rintro e w1 ⟨rfl, h1, t1⟩
  have a1 := a0.turns t1 (by simp; omega)
  have k2 : IsE 75 w1 b2 e := Blk.turns h0.h2 t1 (by simpa using hne.symm)
  have T1 := T0.trans (t1.mono (by simp))
  have c1 : (w1.alloc (.cells #[.bool s, .int .i64 g', .int .u64 t', .bool n'] 77)).drew.heap.size = w1.heap.size + 1 := by simp [World.drew]
  have qA := (Turns.refl [] w1).alloc (.cells #[.bool s, .int .i64 g', .int .u64 t', .bool n'] 77)
  have a2 := (a1.turns qA (by simp)).drew
  have r2 := (Blk.new w1 #[.bool s, .int .i64 g', .int .u64 t', .bool n'] 77).drew
  have h2 : IsE 159 (w1.alloc (.cells #[.bool s, .int .i64 g', .int .u64 t', .bool n'] 77)).drew b1 e' := Blk.drew (Blk.turns h1 qA (by simp))
  have k3 : IsE 75 (w1.alloc (.cells #[.bool s, .int .i64 g', .int .u64 t', .bool n'] 77)).drew b2 e := Blk.drew (Blk.turns k2 qA (by simp))
  have T2 := (T1.trans (qA.mono (by simp))).drew
  have hs0 : w.heap.size < w1.heap.size := a1.lt
  have hbl : b1 < w1.heap.size := Blk.lt h1
  have hbl2 : b2 < w1.heap.size := Blk.lt k2
  clear h0 a0 T0 t1 hAh h1 k2 qA
  go_wp2_with fail
  refine wp_region_flo [(0, true), (2, true), (3, true), (4, true), (5, true), (6, true), (1, false), (7, false), (8, true), (9, true)] (fun W => Bs W w.heap.size w1.heap.size #[.int .u8 k, .int .i64 g, .int .u64 t] #[.bool s, .int .i64 g', .int .u64 t', .bool n'] 73 77) (by kernel_rfl) rfl (by kernel_rfl) (by intro c d v a w h; cases d <;> first | (simpa [Exit.then, Exit.inBlock, Act.put] using h) | exact h) (⟨a2, r2⟩) ?_
  clear a1 T1
  generalize hw3 : (w1.alloc (.cells #[.bool s, .int .i64 g', .int .u64 t', .bool n'] 77)).drew = w3 at *
  have d1 : w3.cell? ⟨w.heap.size, 1, none⟩ = some (.int .i64 g) := a2.cell 1
  have d2 : w3.cell? ⟨w.heap.size, 2, none⟩ = some (.int .u64 t) := a2.cell 2
  have j0 : w3.cell? ⟨w1.heap.size, 0, none⟩ = some (.bool s) := r2.cell 0
  have j1 : w3.cell? ⟨w1.heap.size, 1, none⟩ = some (.int .i64 g') := r2.cell 1
  have j2 : w3.cell? ⟨w1.heap.size, 2, none⟩ = some (.int .u64 t') := r2.cell 2
  have j3 : w3.cell? ⟨w1.heap.size, 3, none⟩ = some (.bool n') := r2.cell 3
  refine flo_read _ rfl (fun K hK => ?_)
  go_simp
  first | (refine hK _ ?_) | (refine ⟨fun W hS => ?_, hK _ ?_⟩; · (have d1 : W.cell? ⟨w.heap.size, 1, none⟩ = some (.int .i64 g) := hS.p.cell 1; have d2 : W.cell? ⟨w.heap.size, 2, none⟩ = some (.int .u64 t) := hS.p.cell 2; have j0 : W.cell? ⟨w1.heap.size, 0, none⟩ = some (.bool s) := hS.q.cell 0; have j1 : W.cell? ⟨w1.heap.size, 1, none⟩ = some (.int .i64 g') := hS.q.cell 1; have j2 : W.cell? ⟨w1.heap.size, 2, none⟩ = some (.int .u64 t') := hS.q.cell 2; have j3 : W.cell? ⟨w1.heap.size, 3, none⟩ = some (.bool n') := hS.q.cell 3; try go_simp))
  clear hK K
  refine flo_read _ rfl (fun K hK => ?_)
  go_simp
  first | (refine hK _ ?_) | (refine ⟨fun W hS => ?_, hK _ ?_⟩; · (have d1 : W.cell? ⟨w.heap.size, 1, none⟩ = some (.int .i64 g) := hS.p.cell 1; have d2 : W.cell? ⟨w.heap.size, 2, none⟩ = some (.int .u64 t) := hS.p.cell 2; have j0 : W.cell? ⟨w1.heap.size, 0, none⟩ = some (.bool s) := hS.q.cell 0; have j1 : W.cell? ⟨w1.heap.size, 1, none⟩ = some (.int .i64 g') := hS.q.cell 1; have j2 : W.cell? ⟨w1.heap.size, 2, none⟩ = some (.int .u64 t') := hS.q.cell 2; have j3 : W.cell? ⟨w1.heap.size, 3, none⟩ = some (.bool n') := hS.q.cell 3; try go_simp))
  clear hK K
  refine flo_read _ rfl (fun K hK => ?_)
  go_simp
  first | (refine hK _ ?_) | (refine ⟨fun W hS => ?_, hK _ ?_⟩; · (have d1 : W.cell? ⟨w.heap.size, 1, none⟩ = some (.int .i64 g) := hS.p.cell 1; have d2 : W.cell? ⟨w.heap.size, 2, none⟩ = some (.int .u64 t) := hS.p.cell 2; have j0 : W.cell? ⟨w1.heap.size, 0, none⟩ = some (.bool s) := hS.q.cell 0; have j1 : W.cell? ⟨w1.heap.size, 1, none⟩ = some (.int .i64 g') := hS.q.cell 1; have j2 : W.cell? ⟨w1.heap.size, 2, none⟩ = some (.int .u64 t') := hS.q.cell 2; have j3 : W.cell? ⟨w1.heap.size, 3, none⟩ = some (.bool n') := hS.q.cell 3; try go_simp))
  clear hK K
  refine flo_read _ rfl (fun K hK => ?_)
  go_simp
  first | (refine hK _ ?_) | (refine ⟨fun W hS => ?_, hK _ ?_⟩; · (have d1 : W.cell? ⟨w.heap.size, 1, none⟩ = some (.int .i64 g) := hS.p.cell 1; have d2 : W.cell? ⟨w.heap.size, 2, none⟩ = some (.int .u64 t) := hS.p.cell 2; have j0 : W.cell? ⟨w1.heap.size, 0, none⟩ = some (.bool s) := hS.q.cell 0; have j1 : W.cell? ⟨w1.heap.size, 1, none⟩ = some (.int .i64 g') := hS.q.cell 1; have j2 : W.cell? ⟨w1.heap.size, 2, none⟩ = some (.int .u64 t') := hS.q.cell 2; have j3 : W.cell? ⟨w1.heap.size, 3, none⟩ = some (.bool n') := hS.q.cell 3; try go_simp))
  clear hK K
  refine flo_read _ rfl (fun K hK => ?_)
  go_simp
  first | (refine hK _ ?_) | (refine ⟨fun W hS => ?_, hK _ ?_⟩; · (have d1 : W.cell? ⟨w.heap.size, 1, none⟩ = some (.int .i64 g) := hS.p.cell 1; have d2 : W.cell? ⟨w.heap.size, 2, none⟩ = some (.int .u64 t) := hS.p.cell 2; have j0 : W.cell? ⟨w1.heap.size, 0, none⟩ = some (.bool s) := hS.q.cell 0; have j1 : W.cell? ⟨w1.heap.size, 1, none⟩ = some (.int .i64 g') := hS.q.cell 1; have j2 : W.cell? ⟨w1.heap.size, 2, none⟩ = some (.int .u64 t') := hS.q.cell 2; have j3 : W.cell? ⟨w1.heap.size, 3, none⟩ = some (.bool n') := hS.q.cell 3; try go_simp))
  clear hK K
  refine flo_read _ rfl (fun K hK => ?_)
  go_simp
  first | (refine hK _ ?_) | (refine ⟨fun W hS => ?_, hK _ ?_⟩; · (have d1 : W.cell? ⟨w.heap.size, 1, none⟩ = some (.int .i64 g) := hS.p.cell 1; have d2 : W.cell? ⟨w.heap.size, 2, none⟩ = some (.int .u64 t) := hS.p.cell 2; have j0 : W.cell? ⟨w1.heap.size, 0, none⟩ = some (.bool s) := hS.q.cell 0; have j1 : W.cell? ⟨w1.heap.size, 1, none⟩ = some (.int .i64 g') := hS.q.cell 1; have j2 : W.cell? ⟨w1.heap.size, 2, none⟩ = some (.int .u64 t') := hS.q.cell 2; have j3 : W.cell? ⟨w1.heap.size, 3, none⟩ = some (.bool n') := hS.q.cell 3; try go_simp))
  clear hK K
  clear d1 d2 j0 j1 j2 j3
  refine flo_alone _ rfl ?_
  go_wp2_with fail
  go_at_call 91
  refine Calls.mono (hOh.out _) ?_
  rintro e w4 ⟨rfl, t4⟩
  go_wp2_with fail
  refine ⟨fun W => Bs W w.heap.size w1.heap.size #[.int .u8 k, .int .i64 g, .int .u64 t] #[.bool s, .int .i64 g', .int .u64 t', .bool n'] 73 77, fun W h => h, (Bs.mk a2 r2).turns t4 (by simp) (by simp), ?_⟩
  have h4 : IsE 159 w4 b1 e' := Blk.turns h2 t4 (by simp)
  have k4 : IsE 75 w4 b2 e := Blk.turns k3 t4 (by simp)
  have T4 := T2.trans (t4.mono (by simp))
  have B4 := (Bs.mk a2 r2).turns t4 (by simp) (by simp)
  clear h2 k3 T2 t4 a2 r2 hw3 hOh
  refine flo_alone _ rfl ?_
  go_wp2_with fail
  go_at_call 93
  refine Calls.mono (hBh.out _ _ k4) ?_
  rintro e w5 ⟨rfl, h5, t5⟩
  go_wp2_with fail
  refine ⟨fun W => Bs W w.heap.size w1.heap.size #[.int .u8 k, .int .i64 g, .int .u64 t] #[.bool s, .int .i64 g', .int .u64 t', .bool n'] 73 77, fun W h => h, B4.turns t5 (by simp; omega) (by simp; omega), ?_⟩
  have hp : Pair w5 b1 b2 e' := ⟨Blk.turns h4 t5 (by simpa using hne), h5⟩
  have T5 := T4.trans (t5.mono (by simp))
  clear h4 k4 T4 t5 B4 h5 hBh
  refine flo_read _ rfl (fun K hK => ?_)
  go_simp
  first | (refine hK _ ?_) | (refine ⟨fun W hS => ?_, hK _ ?_⟩; · (skip; try go_simp))
  clear hK K
  refine flo_read _ rfl (fun K hK => ?_)
  go_simp
  first | (refine hK _ ?_) | (refine ⟨fun W hS => ?_, hK _ ?_⟩; · (skip; try go_simp))
  clear hK K
  refine flo_end ?_
  go_wp2_with fail
  go_ret
  exact ⟨rfl, ⟨e', hp, hPh.out.1, hPh.out.2⟩, T5⟩
set_option maxHeartbeats 4000000 in
theorem step_stand (w : World) (b1 b2 : Nat) (e : El) (k g : Int) (t : Nat) (h : Pair w b1 b2 e) (hv : e.ok) (hk : k.tmod 6 = 0) :
    Calls Try.prog 42 #[.pointer (some ⟨b1, 0, none⟩), .pointer (some ⟨b2, 0, none⟩), .agg #[.int .u8 k, .int .i64 g, .int .u64 t]] w
    fun x w' => x = .returned (.bool true) ∧ (∃ e', Pair w' b1 b2 e' ∧ e'.ok ∧ e.P ≤ e'.P) ∧ Turns [b1, b2] w w' := by
  obtain ⟨s, g', t', n', f, e', hv', hP, hA, hB⟩ := stand_both e hv
  have hne := h.ne
  have T0 := (Turns.refl [b1, b2] w).alloc (.cells #[.int .u8 k, .int .i64 g, .int .u64 t] 73)
  have h0 := h.turns ((Turns.refl [] w).alloc (.cells #[.int .u8 k, .int .i64 g, .int .u64 t] 73))
  have l1 := Blk.lt h.h1
  have l2 := Blk.lt h.h2
  have hO := of_is s g' t' n'
  unfold resV at hA hB hO
  have hOh : Hid _ := hO
  have hAh : Hid _ := hA
  have hBh : Hid _ := hB
  have hPh : Hid _ := And.intro hv' hP
  clear hA hB h hv hv' hP hO
  go_enter Try.func42, Try.ntmps42
  go_wp2_with fail
  go_at_call 45
  refine Calls.mono (hAh.out _ _ h0.h1) ?_
  rintro e w1 ⟨rfl, h1, t1⟩
  have k2 : IsE 75 w1 b2 e := Blk.turns h0.h2 t1 (by simpa using hne.symm)
  have T1 := T0.trans (t1.mono (by simp))
  have hbl : b1 < w1.heap.size := Blk.lt h1
  have hbl2 : b2 < w1.heap.size := Blk.lt k2
  have qA := (Turns.refl [] w1).alloc (.cells #[.bool s, .int .i64 g', .int .u64 t', .bool n'] 77)
  have r1 := Blk.new w1 #[.bool s, .int .i64 g', .int .u64 t', .bool n'] 77
  have h1b : IsE 159 (w1.alloc (.cells #[.bool s, .int .i64 g', .int .u64 t', .bool n'] 77)) b1 e' := Blk.turns h1 qA (by simp)
  have k2b : IsE 75 (w1.alloc (.cells #[.bool s, .int .i64 g', .int .u64 t', .bool n'] 77)) b2 e := Blk.turns k2 qA (by simp)
  have T1b := T1.trans (qA.mono (by simp))
  clear h0 T0 t1 hAh h1 k2 qA T1
  go_wp2_with fail
  go_at_call 90
  refine Calls.mono (hBh.out _ _ k2b) ?_
  rintro e w2 ⟨rfl, h2, t2⟩
  have r2 := r1.turns t2 (by simp; omega)
  have h1c : IsE 159 w2 b1 e' := Blk.turns h1b t2 (by simpa using hne)
  have T2 := T1b.trans (t2.mono (by simp))
  have hrl : w1.heap.size < w2.heap.size := r2.lt
  have hp2 : Pair w2 b1 b2 e' := ⟨h1c, h2⟩
  have qB := (Turns.refl [] w2).alloc (.cells #[.bool s, .int .i64 g', .int .u64 t', .bool n'] 160)
  have r3 := (r2.turns qB (by simp)).drew
  have s3 := (Blk.new w2 #[.bool s, .int .i64 g', .int .u64 t', .bool n'] 160).drew
  have hp3 : Pair (w2.alloc (.cells #[.bool s, .int .i64 g', .int .u64 t', .bool n'] 160)).drew b1 b2 e' := ⟨Blk.drew (hp2.turns qB).h1, Blk.drew (hp2.turns qB).h2⟩
  have T3 := (T2.trans (qB.mono (by simp))).drew
  clear h1b k2b T1b t2 hBh h2 h1c T2 r1 r2 hp2 qB
  go_wp2_with fail
  refine wp_region_flo [(0, true), (2, true), (1, false), (3, true), (4, true), (5, true), (6, true), (7, true), (8, true), (9, true)] (fun W => Bs W w1.heap.size w2.heap.size #[.bool s, .int .i64 g', .int .u64 t', .bool n'] #[.bool s, .int .i64 g', .int .u64 t', .bool n'] 77 160) (by kernel_rfl) rfl (by kernel_rfl) (by intro c d v a w h; cases d <;> first | (simpa [Exit.then, Exit.inBlock, Act.put] using h) | exact h) (⟨r3, s3⟩) ?_
  generalize hw4 : (w2.alloc (.cells #[.bool s, .int .i64 g', .int .u64 t', .bool n'] 160)).drew = w4 at *
  clear hw4
  have j0 : w4.cell? ⟨w1.heap.size, 0, none⟩ = some (.bool s) := r3.cell 0
  have j1 : w4.cell? ⟨w1.heap.size, 1, none⟩ = some (.int .i64 g') := r3.cell 1
  have j2 : w4.cell? ⟨w1.heap.size, 2, none⟩ = some (.int .u64 t') := r3.cell 2
  have j3 : w4.cell? ⟨w1.heap.size, 3, none⟩ = some (.bool n') := r3.cell 3
  have q0 : w4.cell? ⟨w2.heap.size, 0, none⟩ = some (.bool s) := s3.cell 0
  have q1 : w4.cell? ⟨w2.heap.size, 1, none⟩ = some (.int .i64 g') := s3.cell 1
  have q2 : w4.cell? ⟨w2.heap.size, 2, none⟩ = some (.int .u64 t') := s3.cell 2
  have q3 : w4.cell? ⟨w2.heap.size, 3, none⟩ = some (.bool n') := s3.cell 3
  refine flo_read _ rfl (fun K hK => ?_)
  go_simp
  first | (refine hK _ ?_) | (refine ⟨fun W hS => ?_, hK _ ?_⟩; · (have j0 : W.cell? ⟨w1.heap.size, 0, none⟩ = some (.bool s) := hS.p.cell 0; have j1 : W.cell? ⟨w1.heap.size, 1, none⟩ = some (.int .i64 g') := hS.p.cell 1; have j2 : W.cell? ⟨w1.heap.size, 2, none⟩ = some (.int .u64 t') := hS.p.cell 2; have j3 : W.cell? ⟨w1.heap.size, 3, none⟩ = some (.bool n') := hS.p.cell 3; have q0 : W.cell? ⟨w2.heap.size, 0, none⟩ = some (.bool s) := hS.q.cell 0; have q1 : W.cell? ⟨w2.heap.size, 1, none⟩ = some (.int .i64 g') := hS.q.cell 1; have q2 : W.cell? ⟨w2.heap.size, 2, none⟩ = some (.int .u64 t') := hS.q.cell 2; have q3 : W.cell? ⟨w2.heap.size, 3, none⟩ = some (.bool n') := hS.q.cell 3; try go_simp))
  clear hK K
  refine flo_read _ rfl (fun K hK => ?_)
  go_simp
  first | (refine hK _ ?_) | (refine ⟨fun W hS => ?_, hK _ ?_⟩; · (have j0 : W.cell? ⟨w1.heap.size, 0, none⟩ = some (.bool s) := hS.p.cell 0; have j1 : W.cell? ⟨w1.heap.size, 1, none⟩ = some (.int .i64 g') := hS.p.cell 1; have j2 : W.cell? ⟨w1.heap.size, 2, none⟩ = some (.int .u64 t') := hS.p.cell 2; have j3 : W.cell? ⟨w1.heap.size, 3, none⟩ = some (.bool n') := hS.p.cell 3; have q0 : W.cell? ⟨w2.heap.size, 0, none⟩ = some (.bool s) := hS.q.cell 0; have q1 : W.cell? ⟨w2.heap.size, 1, none⟩ = some (.int .i64 g') := hS.q.cell 1; have q2 : W.cell? ⟨w2.heap.size, 2, none⟩ = some (.int .u64 t') := hS.q.cell 2; have q3 : W.cell? ⟨w2.heap.size, 3, none⟩ = some (.bool n') := hS.q.cell 3; try go_simp))
  clear hK K
  clear j0 j1 j2 j3 q0 q1 q2 q3
  refine flo_alone _ rfl ?_
  go_wp2_with fail
  go_at_call 91
  refine Calls.mono (hOh.out _) ?_
  rintro e w5 ⟨rfl, t5⟩
  go_wp2_with fail
  refine ⟨fun W => Bs W w1.heap.size w2.heap.size #[.bool s, .int .i64 g', .int .u64 t', .bool n'] #[.bool s, .int .i64 g', .int .u64 t', .bool n'] 77 160, fun W h => h, (Bs.mk r3 s3).turns t5 (by simp) (by simp), ?_⟩
  have hp5 := hp3.turns t5
  have T5 := T3.trans (t5.mono (by simp))
  clear hp3 T3 t5 r3 s3 hOh
  refine flo_read _ rfl (fun K hK => ?_)
  go_simp
  first | (refine hK _ ?_) | (refine ⟨fun W hS => ?_, hK _ ?_⟩; · (skip; try go_simp))
  clear hK K
  refine flo_read _ rfl (fun K hK => ?_)
  go_simp
  first | (refine hK _ ?_) | (refine ⟨fun W hS => ?_, hK _ ?_⟩; · (skip; try go_simp))
  clear hK K
  refine flo_read _ rfl (fun K hK => ?_)
  go_simp
  first | (refine hK _ ?_) | (refine ⟨fun W hS => ?_, hK _ ?_⟩; · (skip; try go_simp))
  clear hK K
  refine flo_read _ rfl (fun K hK => ?_)
  go_simp
  first | (refine hK _ ?_) | (refine ⟨fun W hS => ?_, hK _ ?_⟩; · (skip; try go_simp))
  clear hK K
  refine flo_read _ rfl (fun K hK => ?_)
  go_simp
  first | (refine hK _ ?_) | (refine ⟨fun W hS => ?_, hK _ ?_⟩; · (skip; try go_simp))
  clear hK K
  refine flo_read _ rfl (fun K hK => ?_)
  go_simp
  first | (refine hK _ ?_) | (refine ⟨fun W hS => ?_, hK _ ?_⟩; · (skip; try go_simp))
  clear hK K
  refine flo_read _ rfl (fun K hK => ?_)
  go_simp
  first | (refine hK _ ?_) | (refine ⟨fun W hS => ?_, hK _ ?_⟩; · (skip; try go_simp))
  clear hK K
  refine flo_end ?_
  go_wp2_with fail
  go_ret
  exact ⟨rfl, ⟨e', hp5, hPh.out.1, hPh.out.2⟩, T5⟩
theorem step_is (w : World) (b1 b2 : Nat) (e : El) (k g : Int) (t : Nat) (h : Pair w b1 b2 e) (hv : e.ok) (ht : t < 18446744073709551616) :
    Calls Try.prog 42 #[.pointer (some ⟨b1, 0, none⟩), .pointer (some ⟨b2, 0, none⟩), .agg #[.int .u8 k, .int .i64 g, .int .u64 t]] w
    fun x w' => x = .returned (.bool true) ∧ (∃ e', Pair w' b1 b2 e' ∧ e'.ok ∧ e.P ≤ e'.P) ∧ Turns [b1, b2] w w' := by
  by_cases h0 : k.tmod 6 = 0
  · exact step_stand w b1 b2 e k g t h hv h0
  · by_cases h5 : k.tmod 6 = 5
    · exact step_raise w b1 b2 e k g t h hv h5
    · exact step_take w b1 b2 e k g t h hv (by simpa using h0) (by simpa using h5) ht
end Go.Proofs.Ythnegmpdadkkcaa.Es
