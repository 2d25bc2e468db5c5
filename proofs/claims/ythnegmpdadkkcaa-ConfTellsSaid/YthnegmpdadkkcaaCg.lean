/- The law ConfTells: its walk, and its arguments opened. -/
import Derived.Test.YthnegmpdadkkcaaCd
import Derived.Test.YthnegmpdadkkcaaCe
import Derived.Test.YthnegmpdadkkcaaHa
set_option linter.unusedVariables false
set_option linter.unusedSimpArgs false
set_option maxRecDepth 100000
namespace Go.Proofs.Ythnegmpdadkkcaa.Cg
open Go.RowKit Go.MapKept Go.ChangeShapes Go.WideShapes Hm Hs Hr Hb Hf Hv Ho Hn Ha Cf Cn Sm Sat Mu Ca Cb Cc Cd Ce
/-- two blocks -/
structure Bs (W : World) (g : Nat) (c1 c2 : Array Value) : Prop where
  p : Blk W g c1 52
  q : Blk W (g + 1) c2 52
theorem Bs.turns {w w' : World} {g : Nat} {c1 c2 : Array Value} (h : Bs w g c1 c2) (t : Turns [] w w') : Bs w' g c1 c2 := ⟨h.p.turns t (by simp), h.q.turns t (by simp)⟩
theorem tells_long (W : World) (a b : Cfg) (k : Int) (A B : Option Addr) (ca cb : Nat) (hA : a.rv = .slice A a.rates.length ca) (hB : b.rv = .slice B b.rates.length cb) (hl : 100 < a.rates.length ∨ 100 < b.rates.length) :
    Calls Try.prog 6 #[a.v, b.v, .int .i64 k] W fun e w' => e = .returned (.bool true) ∧ Turns [] W w' := by
  obtain ⟨a0, a1, a2, a3, a4, a5, a6, a7, rva, ra⟩ := a
  obtain ⟨b0, b1, b2, b3, b4, b5, b6, b7, rvb, rb⟩ := b
  simp only at hA hB hl
  subst hA hB
  unfold Cfg.v
  simp only
  have T0 := ((Turns.refl [] W).alloc (.cells #[.int .i64 a0, .int .i64 a1, .int .i64 a2, .int .i64 a3, .int .i64 a4, .int .i64 a5, .int .i64 a6, .int .i64 a7, .slice A ra.length ca] 52)).alloc (.cells #[.int .i64 b0, .int .i64 b1, .int .i64 b2, .int .i64 b3, .int .i64 b4, .int .i64 b5, .int .i64 b6, .int .i64 b7, .slice B rb.length cb] 52)
  by_cases h1 : 100 < ra.length
  · have g1 : decide ((ra.length : Int) > 100) = true := decide_eq_true (by omega)
    clear hl h1
    go_enter Try.func6, Try.ntmps6
    go_wp2_with fail
    go_at_call 27
    refine Calls.mono (alive_any _) ?_
    rintro e w12 ⟨rfl, t12⟩
    go_wp2_with fail
    go_ret
    exact ⟨rfl, T0.trans t12⟩
  · have g1 : decide ((ra.length : Int) > 100) = false := decide_eq_false (by omega)
    have g2 : decide ((rb.length : Int) > 100) = true := decide_eq_true (by omega)
    clear hl h1
    go_enter Try.func6, Try.ntmps6
    go_wp2_with fail
    go_at_call 27
    refine Calls.mono (alive_any _) ?_
    rintro e w12 ⟨rfl, t12⟩
    go_wp2_with fail
    go_ret
    exact ⟨rfl, T0.trans t12⟩
set_option maxHeartbeats 8000000 in
theorem tells_yes (U : World) (a b : Cfg) (k : Int) (hA : RdS 2 U a.rv (rts a.rates)) (hB : RdS 2 U b.rv (rts b.rates)) (hl : a.rates.length ≤ 100 ∧ b.rates.length ≤ 100) (hk : 0 ≤ k ∧ k < 524288) (q : Nat) (hq : k / 65536 = q) (r : Int × Int) (hi : a.rates[q]? = some r) :
    Calls Try.prog 6 #[a.v, b.v, .int .i64 k] U fun e w' => e = .returned (.bool true) ∧ Turns [] U w' := by
  obtain ⟨E, hF, hT⟩ : ∃ E : Bool, (¬ Ce.Alike a b → E = false) ∧ (Ce.Alike a b → E = true) := by
    by_cases h : Ce.Alike a b
    · exact ⟨true, fun h2 => absurd h h2, fun _ => rfl⟩
    · exact ⟨false, fun _ => rfl, fun h2 => absurd h2 h⟩
  have hSame := fun w hA hB => same_is w a b E hA hB hF hT
  have hDSame := fun w hA hB => dsame_is w a b E hA hB hF hT
  have hSelf := fun w hA => same_is w a a true hA hA (fun h => absurd ⟨rfl, rfl, rfl, rfl, rfl, rfl, rfl, rfl, rfl⟩ h) (fun _ => rfl)
  have hCh := fun w hA => check_is w a hA
  have hDCh := fun w hA => dcheck_is w a hA
  have hQu := fun w => quarantine_is w a
  have hDQu := fun w => dquarantine_is w a
  have hRi := kright_is k
  have hDRi := dright_is k
  obtain ⟨er, her⟩ : ∃ x, errR a = x := ⟨_, rfl⟩
  obtain ⟨qu, hqu⟩ : ∃ x, sum [a.valid, a.ttl, mul 4 a.skew] = x := ⟨_, rfl⟩
  obtain ⟨ri, hri⟩ : ∃ x, decide (0 ≤ k ∧ k < 524288) = x := ⟨_, rfl⟩
  rw [hri] at hRi hDRi
  simp only [her] at hCh hDCh
  simp only [hqu] at hQu hDQu
  have hql : q < a.rates.length := (List.getElem?_eq_some_iff.1 hi).1
  have hRt := fun w hA => rate_yes w a k r hA hk (by rw [hq]; exact hi)
  have hDRt := fun w A cap hA => drate_yes w a k q A cap hA hk hq hql
  clear her hqu hri hF hT
  obtain ⟨a0, a1, a2, a3, a4, a5, a6, a7, rva, ra⟩ := a
  obtain ⟨b0, b1, b2, b3, b4, b5, b6, b7, rvb, rb⟩ := b
  simp only at hA hB hl
  obtain ⟨A, ca, rfl, _⟩ := hA.form
  obtain ⟨B, cb, rfl, _⟩ := hB.form
  simp only [rts_len] at *
  unfold Cfg.v at *
  simp only [rts_len] at *
  have T0 := ((Turns.refl [] U).alloc (.cells #[.int .i64 a0, .int .i64 a1, .int .i64 a2, .int .i64 a3, .int .i64 a4, .int .i64 a5, .int .i64 a6, .int .i64 a7, .slice A ra.length ca] 52)).alloc (.cells #[.int .i64 b0, .int .i64 b1, .int .i64 b2, .int .i64 b3, .int .i64 b4, .int .i64 b5, .int .i64 b6, .int .i64 b7, .slice B rb.length cb] 52)
  have hB0 : Bs ((U.alloc (.cells #[.int .i64 a0, .int .i64 a1, .int .i64 a2, .int .i64 a3, .int .i64 a4, .int .i64 a5, .int .i64 a6, .int .i64 a7, .slice A ra.length ca] 52)).alloc (.cells #[.int .i64 b0, .int .i64 b1, .int .i64 b2, .int .i64 b3, .int .i64 b4, .int .i64 b5, .int .i64 b6, .int .i64 b7, .slice B rb.length cb] 52)) U.heap.size #[.int .i64 a0, .int .i64 a1, .int .i64 a2, .int .i64 a3, .int .i64 a4, .int .i64 a5, .int .i64 a6, .int .i64 a7, .slice A ra.length ca] #[.int .i64 b0, .int .i64 b1, .int .i64 b2, .int .i64 b3, .int .i64 b4, .int .i64 b5, .int .i64 b6, .int .i64 b7, .slice B rb.length cb] := ⟨(Blk.new U #[.int .i64 a0, .int .i64 a1, .int .i64 a2, .int .i64 a3, .int .i64 a4, .int .i64 a5, .int .i64 a6, .int .i64 a7, .slice A ra.length ca] 52).alloc _, by have := Blk.new (U.alloc (.cells #[.int .i64 a0, .int .i64 a1, .int .i64 a2, .int .i64 a3, .int .i64 a4, .int .i64 a5, .int .i64 a6, .int .i64 a7, .slice A ra.length ca] 52)) #[.int .i64 b0, .int .i64 b1, .int .i64 b2, .int .i64 b3, .int .i64 b4, .int .i64 b5, .int .i64 b6, .int .i64 b7, .slice B rb.length cb] 52; rw [World.size_alloc] at this; exact this⟩
  have g1 : decide ((ra.length : Int) > 100) = false := decide_eq_false (by omega)
  have g2 : decide ((rb.length : Int) > 100) = false := decide_eq_false (by omega)
  obtain ⟨adq, cq, hvq, _, hcq⟩ := hA.at_ (j := q) (r := [.int .i64 r.1, .int .i64 r.2]) (by unfold rts; rw [List.getElem?_map, hi]; rfl)
  injection hvq with e1 e2 e3
  subst e1 e3
  clear e2
  have iW0 := hcq 0 _ rfl
  have iW1 := hcq 1 _ rfl
  rw [Nat.add_zero] at iW0
  rw [add_field _ _ _ (by omega)] at iW1
  have hqlh : Hid (q < ra.length) := hql
  have hSameh : Hid _ := hSame
  have hDSameh : Hid _ := hDSame
  have hSelfh : Hid _ := hSelf
  have hChh : Hid _ := hCh
  have hDChh : Hid _ := hDCh
  have hQuh : Hid _ := hQu
  have hDQuh : Hid _ := hDQu
  have hRih : Hid _ := hRi
  have hDRih : Hid _ := hDRi
  have hRth : Hid _ := hRt
  have hDRth : Hid _ := hDRt
  have hAh : Hid _ := hA
  have hBh : Hid _ := hB
  clear hSame hDSame hSelf hCh hDCh hQu hDQu hRi hDRi hRt hDRt hA hB hk hi hcq hql hq
  have hRd : ∀ w', Turns [] U w' → RdS 2 w' (.slice (some adq) ra.length ca) (rts ra) := fun w' t => RdS.mv hAh.out (fun x u hu => t.old hu)
  have hRdb : ∀ w', Turns [] U w' → RdS 2 w' (.slice B rb.length cb) (rts rb) := fun w' t => RdS.mv hBh.out (fun x u hu => t.old hu)
  have hRdh : Hid _ := hRd
  have hRdbh : Hid _ := hRdb
  clear hRd hRdb hAh hBh
  go_enter Try.func6, Try.ntmps6
  go_wp2_with fail
  go_at_call 28
  refine Calls.mono (hRth.out _ (hRdh.out _ T0)) ?_
  rintro e w1 ⟨rfl, t1⟩
  have B1 := hB0.turns t1
  have T1 := T0.trans t1
  clear hB0 T0 t1 hRth
  have qz := (Turns.refl [] w1).alloc (.cells #[.int .i64 r.1, .int .i64 r.2] 54)
  have r2 := Blk.new w1 #[.int .i64 r.1, .int .i64 r.2] 54
  have B2 := B1.turns qz
  have T2 := T1.trans qz
  have x0 : (w1.alloc (.cells #[.int .i64 r.1, .int .i64 r.2] 54)).cell? ⟨U.heap.size, 0, none⟩ = some (.int .i64 a0) := B2.p.cell 0
  have x1 : (w1.alloc (.cells #[.int .i64 r.1, .int .i64 r.2] 54)).cell? ⟨U.heap.size, 1, none⟩ = some (.int .i64 a1) := B2.p.cell 1
  have x2 : (w1.alloc (.cells #[.int .i64 r.1, .int .i64 r.2] 54)).cell? ⟨U.heap.size, 2, none⟩ = some (.int .i64 a2) := B2.p.cell 2
  have x3 : (w1.alloc (.cells #[.int .i64 r.1, .int .i64 r.2] 54)).cell? ⟨U.heap.size, 3, none⟩ = some (.int .i64 a3) := B2.p.cell 3
  have x4 : (w1.alloc (.cells #[.int .i64 r.1, .int .i64 r.2] 54)).cell? ⟨U.heap.size, 4, none⟩ = some (.int .i64 a4) := B2.p.cell 4
  have x5 : (w1.alloc (.cells #[.int .i64 r.1, .int .i64 r.2] 54)).cell? ⟨U.heap.size, 5, none⟩ = some (.int .i64 a5) := B2.p.cell 5
  have x6 : (w1.alloc (.cells #[.int .i64 r.1, .int .i64 r.2] 54)).cell? ⟨U.heap.size, 6, none⟩ = some (.int .i64 a6) := B2.p.cell 6
  have x7 : (w1.alloc (.cells #[.int .i64 r.1, .int .i64 r.2] 54)).cell? ⟨U.heap.size, 7, none⟩ = some (.int .i64 a7) := B2.p.cell 7
  have x8 : (w1.alloc (.cells #[.int .i64 r.1, .int .i64 r.2] 54)).cell? ⟨U.heap.size, 8, none⟩ = some (.slice (some adq) ra.length ca) := B2.p.cell 8
  go_wp2_with fail
  go_at_call 29
  refine Calls.mono (hDRth.out _ (some adq) ca rfl) ?_
  rintro e w3 ⟨rfl, t3⟩
  have B3 := (B2.turns t3).turns ((Turns.refl [] w3).drew)
  have T3 := (T2.trans t3).drew
  have r3 := (r2.turns t3 (by simp)).drew
  clear B1 B2 T1 T2 qz r2 t3 hDRth x0 x1 x2 x3 x4 x5 x6 x7 x8
  have z0 := r3.cell 0
  have z1 := r3.cell 1
  have x8 : w3.drew.cell? ⟨U.heap.size, 8, none⟩ = some (.slice (some adq) ra.length ca) := B3.p.cell 8
  have i0 := T3.old iW0
  have i1 := T3.old iW1
  have gq : decide ((q : Int) ≥ 0) = true := decide_eq_true (by omega)
  have hql2 := hqlh.out
  clear iW0 iW1 hqlh
  go_wp2_with fail
  refine wp_region_flo [(0, true), (1, true), (2, true), (3, true), (4, true), (5, true), (6, true), (7, true), (8, true), (9, true), (10, true), (11, true), (12, true), (13, true), (14, true), (15, true), (16, true), (17, true), (18, true), (19, true), (20, true), (21, true), (22, true), (23, true), (24, true)] (fun W => W = _) (by kernel_rfl) rfl (by kernel_rfl) (by intro c d v a w h; cases d <;> first | (simpa [Exit.then, Exit.inBlock, Act.put] using h) | exact h) (rfl) ?_
  refine flo_read _ rfl (fun K hK => ?_)
  go_simp
  first | (refine hK _ ?_) | (refine ⟨fun W hS => ?_, hK _ ?_⟩; · (subst hS; try go_simp))
  clear hK K
  refine flo_read _ rfl (fun K hK => ?_)
  go_simp
  first | (refine hK _ ?_) | (refine ⟨fun W hS => ?_, hK _ ?_⟩; · (subst hS; try go_simp))
  clear hK K
  refine flo_read _ rfl (fun K hK => ?_)
  go_simp
  first | (refine hK _ ?_) | (refine ⟨fun W hS => ?_, hK _ ?_⟩; · (subst hS; try go_simp))
  clear hK K
  refine flo_read _ rfl (fun K hK => ?_)
  go_simp
  first | (refine hK _ ?_) | (refine ⟨fun W hS => ?_, hK _ ?_⟩; · (subst hS; try go_simp))
  clear hK K
  refine flo_read _ rfl (fun K hK => ?_)
  go_simp
  first | (refine hK _ ?_) | (refine ⟨fun W hS => ?_, hK _ ?_⟩; · (subst hS; try go_simp))
  clear hK K
  refine flo_read _ rfl (fun K hK => ?_)
  go_simp
  first | (refine hK _ ?_) | (refine ⟨fun W hS => ?_, hK _ ?_⟩; · (subst hS; try go_simp))
  clear hK K
  refine flo_read _ rfl (fun K hK => ?_)
  go_simp
  first | (refine hK _ ?_) | (refine ⟨fun W hS => ?_, hK _ ?_⟩; · (subst hS; try go_simp))
  clear hK K
  refine flo_read _ rfl (fun K hK => ?_)
  go_simp
  first | (refine hK _ ?_) | (refine ⟨fun W hS => ?_, hK _ ?_⟩; · (subst hS; try go_simp))
  clear hK K
  refine flo_read _ rfl (fun K hK => ?_)
  go_simp
  first | (refine hK _ ?_) | (refine ⟨fun W hS => ?_, hK _ ?_⟩; · (subst hS; try go_simp))
  clear hK K
  refine flo_read _ rfl (fun K hK => ?_)
  go_simp
  first | (refine hK _ ?_) | (refine ⟨fun W hS => ?_, hK _ ?_⟩; · (subst hS; try go_simp))
  clear hK K
  refine flo_read _ rfl (fun K hK => ?_)
  go_simp
  first | (refine hK _ ?_) | (refine ⟨fun W hS => ?_, hK _ ?_⟩; · (subst hS; try go_simp))
  clear hK K
  refine flo_read _ rfl (fun K hK => ?_)
  go_simp
  first | (refine hK _ ?_) | (refine ⟨fun W hS => ?_, hK _ ?_⟩; · (subst hS; try go_simp))
  clear hK K
  refine flo_read _ rfl (fun K hK => ?_)
  go_simp
  first | (refine hK _ ?_) | (refine ⟨fun W hS => ?_, hK _ ?_⟩; · (subst hS; try go_simp))
  clear hK K
  refine flo_read _ rfl (fun K hK => ?_)
  go_simp
  first | (refine hK _ ?_) | (refine ⟨fun W hS => ?_, hK _ ?_⟩; · (subst hS; try go_simp))
  clear hK K
  refine flo_read _ rfl (fun K hK => ?_)
  go_simp
  first | (refine hK _ ?_) | (refine ⟨fun W hS => ?_, hK _ ?_⟩; · (subst hS; try go_simp))
  clear hK K
  refine flo_read _ rfl (fun K hK => ?_)
  go_simp
  first | (refine hK _ ?_) | (refine ⟨fun W hS => ?_, hK _ ?_⟩; · (subst hS; try go_simp))
  clear hK K
  refine flo_read _ rfl (fun K hK => ?_)
  go_simp
  first | (refine hK _ ?_) | (refine ⟨fun W hS => ?_, hK _ ?_⟩; · (subst hS; try go_simp))
  clear hK K
  refine flo_read _ rfl (fun K hK => ?_)
  go_simp
  first | (refine hK _ ?_) | (refine ⟨fun W hS => ?_, hK _ ?_⟩; · (subst hS; try go_simp))
  clear hK K
  refine flo_read _ rfl (fun K hK => ?_)
  go_simp
  first | (refine hK _ ?_) | (refine ⟨fun W hS => ?_, hK _ ?_⟩; · (subst hS; try go_simp))
  clear hK K
  refine flo_read _ rfl (fun K hK => ?_)
  go_simp
  first | (refine hK _ ?_) | (refine ⟨fun W hS => ?_, hK _ ?_⟩; · (subst hS; try go_simp))
  clear hK K
  refine flo_read _ rfl (fun K hK => ?_)
  go_simp
  first | (refine hK _ ?_) | (refine ⟨fun W hS => ?_, hK _ ?_⟩; · (subst hS; try go_simp))
  clear hK K
  refine flo_read _ rfl (fun K hK => ?_)
  go_simp
  first | (refine hK _ ?_) | (refine ⟨fun W hS => ?_, hK _ ?_⟩; · (subst hS; try go_simp))
  clear hK K
  refine flo_read _ rfl (fun K hK => ?_)
  go_simp
  first | (refine hK _ ?_) | (refine ⟨fun W hS => ?_, hK _ ?_⟩; · (subst hS; try go_simp))
  clear hK K
  refine flo_read _ rfl (fun K hK => ?_)
  go_simp
  first | (refine hK _ ?_) | (refine ⟨fun W hS => ?_, hK _ ?_⟩; · (subst hS; try go_simp))
  clear hK K
  refine flo_read _ rfl (fun K hK => ?_)
  go_simp
  first | (refine hK _ ?_) | (refine ⟨fun W hS => ?_, hK _ ?_⟩; · (subst hS; try go_simp))
  clear hK K
  refine flo_end ?_
  have B4 := B3.turns ((Turns.refl [] w3.drew).drew)
  have T4 := T3.drew
  clear B3 T3 r3 z0 z1 x8 i0 i1 gq hql2
  go_wp2_with fail
  refine wp_region_flo [(0, true), (2, true), (1, false), (3, false), (4, true), (5, true), (6, true), (8, true), (7, false), (9, false), (10, true), (11, true), (12, true)] (fun Z => Blk Z U.heap.size #[.int .i64 a0, .int .i64 a1, .int .i64 a2, .int .i64 a3, .int .i64 a4, .int .i64 a5, .int .i64 a6, .int .i64 a7, .slice (some adq) ra.length ca] 52) (by kernel_rfl) rfl (by kernel_rfl) (by intro c d v a w h; cases d <;> first | (simpa [Exit.then, Exit.inBlock, Act.put] using h) | exact h) (B4.p) ?_
  generalize w3.drew.drew = w4 at *
  have x0 : w4.cell? ⟨U.heap.size, 0, none⟩ = some (.int .i64 a0) := B4.p.cell 0
  have x1 : w4.cell? ⟨U.heap.size, 1, none⟩ = some (.int .i64 a1) := B4.p.cell 1
  have x2 : w4.cell? ⟨U.heap.size, 2, none⟩ = some (.int .i64 a2) := B4.p.cell 2
  have x3 : w4.cell? ⟨U.heap.size, 3, none⟩ = some (.int .i64 a3) := B4.p.cell 3
  have x4 : w4.cell? ⟨U.heap.size, 4, none⟩ = some (.int .i64 a4) := B4.p.cell 4
  have x5 : w4.cell? ⟨U.heap.size, 5, none⟩ = some (.int .i64 a5) := B4.p.cell 5
  have x6 : w4.cell? ⟨U.heap.size, 6, none⟩ = some (.int .i64 a6) := B4.p.cell 6
  have x7 : w4.cell? ⟨U.heap.size, 7, none⟩ = some (.int .i64 a7) := B4.p.cell 7
  have x8 : w4.cell? ⟨U.heap.size, 8, none⟩ = some (.slice (some adq) ra.length ca) := B4.p.cell 8
  refine flo_read _ rfl (fun K hK => ?_)
  go_simp
  first | (refine hK _ ?_) | (refine ⟨fun W hS => ?_, hK _ ?_⟩; · (have x0 : W.cell? ⟨U.heap.size, 0, none⟩ = some (.int .i64 a0) := hS.cell 0; have x1 : W.cell? ⟨U.heap.size, 1, none⟩ = some (.int .i64 a1) := hS.cell 1; have x2 : W.cell? ⟨U.heap.size, 2, none⟩ = some (.int .i64 a2) := hS.cell 2; have x3 : W.cell? ⟨U.heap.size, 3, none⟩ = some (.int .i64 a3) := hS.cell 3; have x4 : W.cell? ⟨U.heap.size, 4, none⟩ = some (.int .i64 a4) := hS.cell 4; have x5 : W.cell? ⟨U.heap.size, 5, none⟩ = some (.int .i64 a5) := hS.cell 5; have x6 : W.cell? ⟨U.heap.size, 6, none⟩ = some (.int .i64 a6) := hS.cell 6; have x7 : W.cell? ⟨U.heap.size, 7, none⟩ = some (.int .i64 a7) := hS.cell 7; have x8 : W.cell? ⟨U.heap.size, 8, none⟩ = some (.slice (some adq) ra.length ca) := hS.cell 8; try go_simp))
  clear hK K
  refine flo_read _ rfl (fun K hK => ?_)
  go_simp
  first | (refine hK _ ?_) | (refine ⟨fun W hS => ?_, hK _ ?_⟩; · (have x0 : W.cell? ⟨U.heap.size, 0, none⟩ = some (.int .i64 a0) := hS.cell 0; have x1 : W.cell? ⟨U.heap.size, 1, none⟩ = some (.int .i64 a1) := hS.cell 1; have x2 : W.cell? ⟨U.heap.size, 2, none⟩ = some (.int .i64 a2) := hS.cell 2; have x3 : W.cell? ⟨U.heap.size, 3, none⟩ = some (.int .i64 a3) := hS.cell 3; have x4 : W.cell? ⟨U.heap.size, 4, none⟩ = some (.int .i64 a4) := hS.cell 4; have x5 : W.cell? ⟨U.heap.size, 5, none⟩ = some (.int .i64 a5) := hS.cell 5; have x6 : W.cell? ⟨U.heap.size, 6, none⟩ = some (.int .i64 a6) := hS.cell 6; have x7 : W.cell? ⟨U.heap.size, 7, none⟩ = some (.int .i64 a7) := hS.cell 7; have x8 : W.cell? ⟨U.heap.size, 8, none⟩ = some (.slice (some adq) ra.length ca) := hS.cell 8; try go_simp))
  clear hK K
  clear x0 x1 x2 x3 x4 x5 x6 x7 x8
  refine flo_alone _ rfl ?_
  go_wp2_with fail
  go_at_call 30
  refine Calls.mono (hChh.out _ (hRdh.out _ T4)) ?_
  rintro e w5 ⟨rfl, t5⟩
  go_wp2_with fail
  refine ⟨fun Z => Blk Z U.heap.size #[.int .i64 a0, .int .i64 a1, .int .i64 a2, .int .i64 a3, .int .i64 a4, .int .i64 a5, .int .i64 a6, .int .i64 a7, .slice (some adq) ra.length ca] 52, fun Z h => h, (B4.turns t5).p, ?_⟩
  have B5 := B4.turns t5
  have T5 := T4.trans t5
  clear B4 T4 t5
  refine flo_alone _ rfl ?_
  go_wp2_with fail
  go_at_call 31
  refine Calls.mono (hDChh.out _ (hRdh.out _ T5)) ?_
  rintro e w6 ⟨rfl, t6⟩
  go_wp2_with fail
  refine ⟨fun Z => Blk Z U.heap.size #[.int .i64 a0, .int .i64 a1, .int .i64 a2, .int .i64 a3, .int .i64 a4, .int .i64 a5, .int .i64 a6, .int .i64 a7, .slice (some adq) ra.length ca] 52, fun Z h => h, (B5.turns t6).p, ?_⟩
  have B6 := B5.turns t6
  have T6 := T5.trans t6
  clear B5 T5 t6
  have x0 : w6.cell? ⟨U.heap.size, 0, none⟩ = some (.int .i64 a0) := B6.p.cell 0
  have x1 : w6.cell? ⟨U.heap.size, 1, none⟩ = some (.int .i64 a1) := B6.p.cell 1
  have x2 : w6.cell? ⟨U.heap.size, 2, none⟩ = some (.int .i64 a2) := B6.p.cell 2
  have x3 : w6.cell? ⟨U.heap.size, 3, none⟩ = some (.int .i64 a3) := B6.p.cell 3
  have x4 : w6.cell? ⟨U.heap.size, 4, none⟩ = some (.int .i64 a4) := B6.p.cell 4
  have x5 : w6.cell? ⟨U.heap.size, 5, none⟩ = some (.int .i64 a5) := B6.p.cell 5
  have x6 : w6.cell? ⟨U.heap.size, 6, none⟩ = some (.int .i64 a6) := B6.p.cell 6
  have x7 : w6.cell? ⟨U.heap.size, 7, none⟩ = some (.int .i64 a7) := B6.p.cell 7
  have x8 : w6.cell? ⟨U.heap.size, 8, none⟩ = some (.slice (some adq) ra.length ca) := B6.p.cell 8
  refine flo_read _ rfl (fun K hK => ?_)
  go_simp
  first | (refine hK _ ?_) | (refine ⟨fun W hS => ?_, hK _ ?_⟩; · (have x0 : W.cell? ⟨U.heap.size, 0, none⟩ = some (.int .i64 a0) := hS.cell 0; have x1 : W.cell? ⟨U.heap.size, 1, none⟩ = some (.int .i64 a1) := hS.cell 1; have x2 : W.cell? ⟨U.heap.size, 2, none⟩ = some (.int .i64 a2) := hS.cell 2; have x3 : W.cell? ⟨U.heap.size, 3, none⟩ = some (.int .i64 a3) := hS.cell 3; have x4 : W.cell? ⟨U.heap.size, 4, none⟩ = some (.int .i64 a4) := hS.cell 4; have x5 : W.cell? ⟨U.heap.size, 5, none⟩ = some (.int .i64 a5) := hS.cell 5; have x6 : W.cell? ⟨U.heap.size, 6, none⟩ = some (.int .i64 a6) := hS.cell 6; have x7 : W.cell? ⟨U.heap.size, 7, none⟩ = some (.int .i64 a7) := hS.cell 7; have x8 : W.cell? ⟨U.heap.size, 8, none⟩ = some (.slice (some adq) ra.length ca) := hS.cell 8; try go_simp))
  clear hK K
  refine flo_read _ rfl (fun K hK => ?_)
  go_simp
  first | (refine hK _ ?_) | (refine ⟨fun W hS => ?_, hK _ ?_⟩; · (have x0 : W.cell? ⟨U.heap.size, 0, none⟩ = some (.int .i64 a0) := hS.cell 0; have x1 : W.cell? ⟨U.heap.size, 1, none⟩ = some (.int .i64 a1) := hS.cell 1; have x2 : W.cell? ⟨U.heap.size, 2, none⟩ = some (.int .i64 a2) := hS.cell 2; have x3 : W.cell? ⟨U.heap.size, 3, none⟩ = some (.int .i64 a3) := hS.cell 3; have x4 : W.cell? ⟨U.heap.size, 4, none⟩ = some (.int .i64 a4) := hS.cell 4; have x5 : W.cell? ⟨U.heap.size, 5, none⟩ = some (.int .i64 a5) := hS.cell 5; have x6 : W.cell? ⟨U.heap.size, 6, none⟩ = some (.int .i64 a6) := hS.cell 6; have x7 : W.cell? ⟨U.heap.size, 7, none⟩ = some (.int .i64 a7) := hS.cell 7; have x8 : W.cell? ⟨U.heap.size, 8, none⟩ = some (.slice (some adq) ra.length ca) := hS.cell 8; try go_simp))
  clear hK K
  refine flo_read _ rfl (fun K hK => ?_)
  go_simp
  first | (refine hK _ ?_) | (refine ⟨fun W hS => ?_, hK _ ?_⟩; · (have x0 : W.cell? ⟨U.heap.size, 0, none⟩ = some (.int .i64 a0) := hS.cell 0; have x1 : W.cell? ⟨U.heap.size, 1, none⟩ = some (.int .i64 a1) := hS.cell 1; have x2 : W.cell? ⟨U.heap.size, 2, none⟩ = some (.int .i64 a2) := hS.cell 2; have x3 : W.cell? ⟨U.heap.size, 3, none⟩ = some (.int .i64 a3) := hS.cell 3; have x4 : W.cell? ⟨U.heap.size, 4, none⟩ = some (.int .i64 a4) := hS.cell 4; have x5 : W.cell? ⟨U.heap.size, 5, none⟩ = some (.int .i64 a5) := hS.cell 5; have x6 : W.cell? ⟨U.heap.size, 6, none⟩ = some (.int .i64 a6) := hS.cell 6; have x7 : W.cell? ⟨U.heap.size, 7, none⟩ = some (.int .i64 a7) := hS.cell 7; have x8 : W.cell? ⟨U.heap.size, 8, none⟩ = some (.slice (some adq) ra.length ca) := hS.cell 8; try go_simp))
  clear hK K
  refine flo_read _ rfl (fun K hK => ?_)
  go_simp
  first | (refine hK _ ?_) | (refine ⟨fun W hS => ?_, hK _ ?_⟩; · (have x0 : W.cell? ⟨U.heap.size, 0, none⟩ = some (.int .i64 a0) := hS.cell 0; have x1 : W.cell? ⟨U.heap.size, 1, none⟩ = some (.int .i64 a1) := hS.cell 1; have x2 : W.cell? ⟨U.heap.size, 2, none⟩ = some (.int .i64 a2) := hS.cell 2; have x3 : W.cell? ⟨U.heap.size, 3, none⟩ = some (.int .i64 a3) := hS.cell 3; have x4 : W.cell? ⟨U.heap.size, 4, none⟩ = some (.int .i64 a4) := hS.cell 4; have x5 : W.cell? ⟨U.heap.size, 5, none⟩ = some (.int .i64 a5) := hS.cell 5; have x6 : W.cell? ⟨U.heap.size, 6, none⟩ = some (.int .i64 a6) := hS.cell 6; have x7 : W.cell? ⟨U.heap.size, 7, none⟩ = some (.int .i64 a7) := hS.cell 7; have x8 : W.cell? ⟨U.heap.size, 8, none⟩ = some (.slice (some adq) ra.length ca) := hS.cell 8; try go_simp))
  clear hK K
  clear x0 x1 x2 x3 x4 x5 x6 x7 x8
  refine flo_alone _ rfl ?_
  go_wp2_with fail
  go_at_call 32
  refine Calls.mono (hQuh.out _) ?_
  rintro e w7 ⟨rfl, t7⟩
  go_wp2_with fail
  refine ⟨fun Z => Blk Z U.heap.size #[.int .i64 a0, .int .i64 a1, .int .i64 a2, .int .i64 a3, .int .i64 a4, .int .i64 a5, .int .i64 a6, .int .i64 a7, .slice (some adq) ra.length ca] 52, fun Z h => h, (B6.turns t7).p, ?_⟩
  have B7 := B6.turns t7
  have T7 := T6.trans t7
  clear B6 T6 t7
  refine flo_alone _ rfl ?_
  go_wp2_with fail
  go_at_call 33
  refine Calls.mono (hDQuh.out _) ?_
  rintro e w8 ⟨rfl, t8⟩
  go_wp2_with fail
  refine ⟨fun Z => Blk Z U.heap.size #[.int .i64 a0, .int .i64 a1, .int .i64 a2, .int .i64 a3, .int .i64 a4, .int .i64 a5, .int .i64 a6, .int .i64 a7, .slice (some adq) ra.length ca] 52, fun Z h => h, (B7.turns t8).p, ?_⟩
  have B8 := B7.turns t8
  have T8 := T7.trans t8
  clear B7 T7 t8
  refine flo_read _ rfl (fun K hK => ?_)
  go_simp
  first | (refine hK _ ?_) | (refine ⟨fun W hS => ?_, hK _ ?_⟩; · (skip; try go_simp))
  clear hK K
  refine flo_read _ rfl (fun K hK => ?_)
  go_simp
  first | (refine hK _ ?_) | (refine ⟨fun W hS => ?_, hK _ ?_⟩; · (skip; try go_simp))
  clear hK K
  refine flo_read _ rfl (fun K hK => ?_)
  go_simp
  first | (refine hK _ ?_) | (refine ⟨fun W hS => ?_, hK _ ?_⟩; · (skip; try go_simp))
  clear hK K
  refine flo_end ?_
  have B9 := B8.turns ((Turns.refl [] w8).drew)
  have T9 := T8.drew
  go_wp2_with fail
  refine wp_region_flo [(0, false), (1, true), (2, true), (3, true), (4, true), (5, true), (6, true), (8, true), (9, true), (7, false), (10, false), (11, true), (12, true), (13, true), (14, true), (15, true), (16, false), (17, true), (18, true), (19, true), (21, true), (20, false), (22, false), (23, true), (24, true), (25, true)] (fun Z => Bs Z U.heap.size #[.int .i64 a0, .int .i64 a1, .int .i64 a2, .int .i64 a3, .int .i64 a4, .int .i64 a5, .int .i64 a6, .int .i64 a7, .slice (some adq) ra.length ca] #[.int .i64 b0, .int .i64 b1, .int .i64 b2, .int .i64 b3, .int .i64 b4, .int .i64 b5, .int .i64 b6, .int .i64 b7, .slice B rb.length cb]) (by kernel_rfl) rfl (by kernel_rfl) (by intro c d v a w h; cases d <;> first | (simpa [Exit.then, Exit.inBlock, Act.put] using h) | exact h) (B9) ?_
  clear B8 T8
  generalize w8.drew = w9 at *
  refine flo_alone _ rfl ?_
  go_wp2_with fail
  go_at_call 27
  refine Calls.mono (alive_any _) ?_
  rintro e w10 ⟨rfl, t10⟩
  go_wp2_with fail
  refine ⟨fun Z => Bs Z U.heap.size #[.int .i64 a0, .int .i64 a1, .int .i64 a2, .int .i64 a3, .int .i64 a4, .int .i64 a5, .int .i64 a6, .int .i64 a7, .slice (some adq) ra.length ca] #[.int .i64 b0, .int .i64 b1, .int .i64 b2, .int .i64 b3, .int .i64 b4, .int .i64 b5, .int .i64 b6, .int .i64 b7, .slice B rb.length cb], fun Z h => h, B9.turns t10, ?_⟩
  have B10 := B9.turns t10
  have T10 := T9.trans t10
  clear B9 T9 t10
  have x0 : w10.cell? ⟨U.heap.size, 0, none⟩ = some (.int .i64 a0) := B10.p.cell 0
  have x1 : w10.cell? ⟨U.heap.size, 1, none⟩ = some (.int .i64 a1) := B10.p.cell 1
  have x2 : w10.cell? ⟨U.heap.size, 2, none⟩ = some (.int .i64 a2) := B10.p.cell 2
  have x3 : w10.cell? ⟨U.heap.size, 3, none⟩ = some (.int .i64 a3) := B10.p.cell 3
  have x4 : w10.cell? ⟨U.heap.size, 4, none⟩ = some (.int .i64 a4) := B10.p.cell 4
  have x5 : w10.cell? ⟨U.heap.size, 5, none⟩ = some (.int .i64 a5) := B10.p.cell 5
  have x6 : w10.cell? ⟨U.heap.size, 6, none⟩ = some (.int .i64 a6) := B10.p.cell 6
  have x7 : w10.cell? ⟨U.heap.size, 7, none⟩ = some (.int .i64 a7) := B10.p.cell 7
  have x8 : w10.cell? ⟨U.heap.size, 8, none⟩ = some (.slice (some adq) ra.length ca) := B10.p.cell 8
  have y0 : w10.cell? ⟨U.heap.size + 1, 0, none⟩ = some (.int .i64 b0) := B10.q.cell 0
  have y1 : w10.cell? ⟨U.heap.size + 1, 1, none⟩ = some (.int .i64 b1) := B10.q.cell 1
  have y2 : w10.cell? ⟨U.heap.size + 1, 2, none⟩ = some (.int .i64 b2) := B10.q.cell 2
  have y3 : w10.cell? ⟨U.heap.size + 1, 3, none⟩ = some (.int .i64 b3) := B10.q.cell 3
  have y4 : w10.cell? ⟨U.heap.size + 1, 4, none⟩ = some (.int .i64 b4) := B10.q.cell 4
  have y5 : w10.cell? ⟨U.heap.size + 1, 5, none⟩ = some (.int .i64 b5) := B10.q.cell 5
  have y6 : w10.cell? ⟨U.heap.size + 1, 6, none⟩ = some (.int .i64 b6) := B10.q.cell 6
  have y7 : w10.cell? ⟨U.heap.size + 1, 7, none⟩ = some (.int .i64 b7) := B10.q.cell 7
  have y8 : w10.cell? ⟨U.heap.size + 1, 8, none⟩ = some (.slice B rb.length cb) := B10.q.cell 8
  refine flo_read _ rfl (fun K hK => ?_)
  go_simp
  first | (refine hK _ ?_) | (refine ⟨fun W hS => ?_, hK _ ?_⟩; · (have x0 : W.cell? ⟨U.heap.size, 0, none⟩ = some (.int .i64 a0) := hS.p.cell 0; have x1 : W.cell? ⟨U.heap.size, 1, none⟩ = some (.int .i64 a1) := hS.p.cell 1; have x2 : W.cell? ⟨U.heap.size, 2, none⟩ = some (.int .i64 a2) := hS.p.cell 2; have x3 : W.cell? ⟨U.heap.size, 3, none⟩ = some (.int .i64 a3) := hS.p.cell 3; have x4 : W.cell? ⟨U.heap.size, 4, none⟩ = some (.int .i64 a4) := hS.p.cell 4; have x5 : W.cell? ⟨U.heap.size, 5, none⟩ = some (.int .i64 a5) := hS.p.cell 5; have x6 : W.cell? ⟨U.heap.size, 6, none⟩ = some (.int .i64 a6) := hS.p.cell 6; have x7 : W.cell? ⟨U.heap.size, 7, none⟩ = some (.int .i64 a7) := hS.p.cell 7; have x8 : W.cell? ⟨U.heap.size, 8, none⟩ = some (.slice (some adq) ra.length ca) := hS.p.cell 8; have y0 : W.cell? ⟨U.heap.size + 1, 0, none⟩ = some (.int .i64 b0) := hS.q.cell 0; have y1 : W.cell? ⟨U.heap.size + 1, 1, none⟩ = some (.int .i64 b1) := hS.q.cell 1; have y2 : W.cell? ⟨U.heap.size + 1, 2, none⟩ = some (.int .i64 b2) := hS.q.cell 2; have y3 : W.cell? ⟨U.heap.size + 1, 3, none⟩ = some (.int .i64 b3) := hS.q.cell 3; have y4 : W.cell? ⟨U.heap.size + 1, 4, none⟩ = some (.int .i64 b4) := hS.q.cell 4; have y5 : W.cell? ⟨U.heap.size + 1, 5, none⟩ = some (.int .i64 b5) := hS.q.cell 5; have y6 : W.cell? ⟨U.heap.size + 1, 6, none⟩ = some (.int .i64 b6) := hS.q.cell 6; have y7 : W.cell? ⟨U.heap.size + 1, 7, none⟩ = some (.int .i64 b7) := hS.q.cell 7; have y8 : W.cell? ⟨U.heap.size + 1, 8, none⟩ = some (.slice B rb.length cb) := hS.q.cell 8; try go_simp))
  clear hK K
  refine flo_read _ rfl (fun K hK => ?_)
  go_simp
  first | (refine hK _ ?_) | (refine ⟨fun W hS => ?_, hK _ ?_⟩; · (have x0 : W.cell? ⟨U.heap.size, 0, none⟩ = some (.int .i64 a0) := hS.p.cell 0; have x1 : W.cell? ⟨U.heap.size, 1, none⟩ = some (.int .i64 a1) := hS.p.cell 1; have x2 : W.cell? ⟨U.heap.size, 2, none⟩ = some (.int .i64 a2) := hS.p.cell 2; have x3 : W.cell? ⟨U.heap.size, 3, none⟩ = some (.int .i64 a3) := hS.p.cell 3; have x4 : W.cell? ⟨U.heap.size, 4, none⟩ = some (.int .i64 a4) := hS.p.cell 4; have x5 : W.cell? ⟨U.heap.size, 5, none⟩ = some (.int .i64 a5) := hS.p.cell 5; have x6 : W.cell? ⟨U.heap.size, 6, none⟩ = some (.int .i64 a6) := hS.p.cell 6; have x7 : W.cell? ⟨U.heap.size, 7, none⟩ = some (.int .i64 a7) := hS.p.cell 7; have x8 : W.cell? ⟨U.heap.size, 8, none⟩ = some (.slice (some adq) ra.length ca) := hS.p.cell 8; have y0 : W.cell? ⟨U.heap.size + 1, 0, none⟩ = some (.int .i64 b0) := hS.q.cell 0; have y1 : W.cell? ⟨U.heap.size + 1, 1, none⟩ = some (.int .i64 b1) := hS.q.cell 1; have y2 : W.cell? ⟨U.heap.size + 1, 2, none⟩ = some (.int .i64 b2) := hS.q.cell 2; have y3 : W.cell? ⟨U.heap.size + 1, 3, none⟩ = some (.int .i64 b3) := hS.q.cell 3; have y4 : W.cell? ⟨U.heap.size + 1, 4, none⟩ = some (.int .i64 b4) := hS.q.cell 4; have y5 : W.cell? ⟨U.heap.size + 1, 5, none⟩ = some (.int .i64 b5) := hS.q.cell 5; have y6 : W.cell? ⟨U.heap.size + 1, 6, none⟩ = some (.int .i64 b6) := hS.q.cell 6; have y7 : W.cell? ⟨U.heap.size + 1, 7, none⟩ = some (.int .i64 b7) := hS.q.cell 7; have y8 : W.cell? ⟨U.heap.size + 1, 8, none⟩ = some (.slice B rb.length cb) := hS.q.cell 8; try go_simp))
  clear hK K
  refine flo_read _ rfl (fun K hK => ?_)
  go_simp
  first | (refine hK _ ?_) | (refine ⟨fun W hS => ?_, hK _ ?_⟩; · (have x0 : W.cell? ⟨U.heap.size, 0, none⟩ = some (.int .i64 a0) := hS.p.cell 0; have x1 : W.cell? ⟨U.heap.size, 1, none⟩ = some (.int .i64 a1) := hS.p.cell 1; have x2 : W.cell? ⟨U.heap.size, 2, none⟩ = some (.int .i64 a2) := hS.p.cell 2; have x3 : W.cell? ⟨U.heap.size, 3, none⟩ = some (.int .i64 a3) := hS.p.cell 3; have x4 : W.cell? ⟨U.heap.size, 4, none⟩ = some (.int .i64 a4) := hS.p.cell 4; have x5 : W.cell? ⟨U.heap.size, 5, none⟩ = some (.int .i64 a5) := hS.p.cell 5; have x6 : W.cell? ⟨U.heap.size, 6, none⟩ = some (.int .i64 a6) := hS.p.cell 6; have x7 : W.cell? ⟨U.heap.size, 7, none⟩ = some (.int .i64 a7) := hS.p.cell 7; have x8 : W.cell? ⟨U.heap.size, 8, none⟩ = some (.slice (some adq) ra.length ca) := hS.p.cell 8; have y0 : W.cell? ⟨U.heap.size + 1, 0, none⟩ = some (.int .i64 b0) := hS.q.cell 0; have y1 : W.cell? ⟨U.heap.size + 1, 1, none⟩ = some (.int .i64 b1) := hS.q.cell 1; have y2 : W.cell? ⟨U.heap.size + 1, 2, none⟩ = some (.int .i64 b2) := hS.q.cell 2; have y3 : W.cell? ⟨U.heap.size + 1, 3, none⟩ = some (.int .i64 b3) := hS.q.cell 3; have y4 : W.cell? ⟨U.heap.size + 1, 4, none⟩ = some (.int .i64 b4) := hS.q.cell 4; have y5 : W.cell? ⟨U.heap.size + 1, 5, none⟩ = some (.int .i64 b5) := hS.q.cell 5; have y6 : W.cell? ⟨U.heap.size + 1, 6, none⟩ = some (.int .i64 b6) := hS.q.cell 6; have y7 : W.cell? ⟨U.heap.size + 1, 7, none⟩ = some (.int .i64 b7) := hS.q.cell 7; have y8 : W.cell? ⟨U.heap.size + 1, 8, none⟩ = some (.slice B rb.length cb) := hS.q.cell 8; try go_simp))
  clear hK K
  refine flo_read _ rfl (fun K hK => ?_)
  go_simp
  first | (refine hK _ ?_) | (refine ⟨fun W hS => ?_, hK _ ?_⟩; · (have x0 : W.cell? ⟨U.heap.size, 0, none⟩ = some (.int .i64 a0) := hS.p.cell 0; have x1 : W.cell? ⟨U.heap.size, 1, none⟩ = some (.int .i64 a1) := hS.p.cell 1; have x2 : W.cell? ⟨U.heap.size, 2, none⟩ = some (.int .i64 a2) := hS.p.cell 2; have x3 : W.cell? ⟨U.heap.size, 3, none⟩ = some (.int .i64 a3) := hS.p.cell 3; have x4 : W.cell? ⟨U.heap.size, 4, none⟩ = some (.int .i64 a4) := hS.p.cell 4; have x5 : W.cell? ⟨U.heap.size, 5, none⟩ = some (.int .i64 a5) := hS.p.cell 5; have x6 : W.cell? ⟨U.heap.size, 6, none⟩ = some (.int .i64 a6) := hS.p.cell 6; have x7 : W.cell? ⟨U.heap.size, 7, none⟩ = some (.int .i64 a7) := hS.p.cell 7; have x8 : W.cell? ⟨U.heap.size, 8, none⟩ = some (.slice (some adq) ra.length ca) := hS.p.cell 8; have y0 : W.cell? ⟨U.heap.size + 1, 0, none⟩ = some (.int .i64 b0) := hS.q.cell 0; have y1 : W.cell? ⟨U.heap.size + 1, 1, none⟩ = some (.int .i64 b1) := hS.q.cell 1; have y2 : W.cell? ⟨U.heap.size + 1, 2, none⟩ = some (.int .i64 b2) := hS.q.cell 2; have y3 : W.cell? ⟨U.heap.size + 1, 3, none⟩ = some (.int .i64 b3) := hS.q.cell 3; have y4 : W.cell? ⟨U.heap.size + 1, 4, none⟩ = some (.int .i64 b4) := hS.q.cell 4; have y5 : W.cell? ⟨U.heap.size + 1, 5, none⟩ = some (.int .i64 b5) := hS.q.cell 5; have y6 : W.cell? ⟨U.heap.size + 1, 6, none⟩ = some (.int .i64 b6) := hS.q.cell 6; have y7 : W.cell? ⟨U.heap.size + 1, 7, none⟩ = some (.int .i64 b7) := hS.q.cell 7; have y8 : W.cell? ⟨U.heap.size + 1, 8, none⟩ = some (.slice B rb.length cb) := hS.q.cell 8; try go_simp))
  clear hK K
  refine flo_read _ rfl (fun K hK => ?_)
  go_simp
  first | (refine hK _ ?_) | (refine ⟨fun W hS => ?_, hK _ ?_⟩; · (have x0 : W.cell? ⟨U.heap.size, 0, none⟩ = some (.int .i64 a0) := hS.p.cell 0; have x1 : W.cell? ⟨U.heap.size, 1, none⟩ = some (.int .i64 a1) := hS.p.cell 1; have x2 : W.cell? ⟨U.heap.size, 2, none⟩ = some (.int .i64 a2) := hS.p.cell 2; have x3 : W.cell? ⟨U.heap.size, 3, none⟩ = some (.int .i64 a3) := hS.p.cell 3; have x4 : W.cell? ⟨U.heap.size, 4, none⟩ = some (.int .i64 a4) := hS.p.cell 4; have x5 : W.cell? ⟨U.heap.size, 5, none⟩ = some (.int .i64 a5) := hS.p.cell 5; have x6 : W.cell? ⟨U.heap.size, 6, none⟩ = some (.int .i64 a6) := hS.p.cell 6; have x7 : W.cell? ⟨U.heap.size, 7, none⟩ = some (.int .i64 a7) := hS.p.cell 7; have x8 : W.cell? ⟨U.heap.size, 8, none⟩ = some (.slice (some adq) ra.length ca) := hS.p.cell 8; have y0 : W.cell? ⟨U.heap.size + 1, 0, none⟩ = some (.int .i64 b0) := hS.q.cell 0; have y1 : W.cell? ⟨U.heap.size + 1, 1, none⟩ = some (.int .i64 b1) := hS.q.cell 1; have y2 : W.cell? ⟨U.heap.size + 1, 2, none⟩ = some (.int .i64 b2) := hS.q.cell 2; have y3 : W.cell? ⟨U.heap.size + 1, 3, none⟩ = some (.int .i64 b3) := hS.q.cell 3; have y4 : W.cell? ⟨U.heap.size + 1, 4, none⟩ = some (.int .i64 b4) := hS.q.cell 4; have y5 : W.cell? ⟨U.heap.size + 1, 5, none⟩ = some (.int .i64 b5) := hS.q.cell 5; have y6 : W.cell? ⟨U.heap.size + 1, 6, none⟩ = some (.int .i64 b6) := hS.q.cell 6; have y7 : W.cell? ⟨U.heap.size + 1, 7, none⟩ = some (.int .i64 b7) := hS.q.cell 7; have y8 : W.cell? ⟨U.heap.size + 1, 8, none⟩ = some (.slice B rb.length cb) := hS.q.cell 8; try go_simp))
  clear hK K
  refine flo_read _ rfl (fun K hK => ?_)
  go_simp
  first | (refine hK _ ?_) | (refine ⟨fun W hS => ?_, hK _ ?_⟩; · (have x0 : W.cell? ⟨U.heap.size, 0, none⟩ = some (.int .i64 a0) := hS.p.cell 0; have x1 : W.cell? ⟨U.heap.size, 1, none⟩ = some (.int .i64 a1) := hS.p.cell 1; have x2 : W.cell? ⟨U.heap.size, 2, none⟩ = some (.int .i64 a2) := hS.p.cell 2; have x3 : W.cell? ⟨U.heap.size, 3, none⟩ = some (.int .i64 a3) := hS.p.cell 3; have x4 : W.cell? ⟨U.heap.size, 4, none⟩ = some (.int .i64 a4) := hS.p.cell 4; have x5 : W.cell? ⟨U.heap.size, 5, none⟩ = some (.int .i64 a5) := hS.p.cell 5; have x6 : W.cell? ⟨U.heap.size, 6, none⟩ = some (.int .i64 a6) := hS.p.cell 6; have x7 : W.cell? ⟨U.heap.size, 7, none⟩ = some (.int .i64 a7) := hS.p.cell 7; have x8 : W.cell? ⟨U.heap.size, 8, none⟩ = some (.slice (some adq) ra.length ca) := hS.p.cell 8; have y0 : W.cell? ⟨U.heap.size + 1, 0, none⟩ = some (.int .i64 b0) := hS.q.cell 0; have y1 : W.cell? ⟨U.heap.size + 1, 1, none⟩ = some (.int .i64 b1) := hS.q.cell 1; have y2 : W.cell? ⟨U.heap.size + 1, 2, none⟩ = some (.int .i64 b2) := hS.q.cell 2; have y3 : W.cell? ⟨U.heap.size + 1, 3, none⟩ = some (.int .i64 b3) := hS.q.cell 3; have y4 : W.cell? ⟨U.heap.size + 1, 4, none⟩ = some (.int .i64 b4) := hS.q.cell 4; have y5 : W.cell? ⟨U.heap.size + 1, 5, none⟩ = some (.int .i64 b5) := hS.q.cell 5; have y6 : W.cell? ⟨U.heap.size + 1, 6, none⟩ = some (.int .i64 b6) := hS.q.cell 6; have y7 : W.cell? ⟨U.heap.size + 1, 7, none⟩ = some (.int .i64 b7) := hS.q.cell 7; have y8 : W.cell? ⟨U.heap.size + 1, 8, none⟩ = some (.slice B rb.length cb) := hS.q.cell 8; try go_simp))
  clear hK K
  refine flo_read _ rfl (fun K hK => ?_)
  go_simp
  first | (refine hK _ ?_) | (refine ⟨fun W hS => ?_, hK _ ?_⟩; · (have x0 : W.cell? ⟨U.heap.size, 0, none⟩ = some (.int .i64 a0) := hS.p.cell 0; have x1 : W.cell? ⟨U.heap.size, 1, none⟩ = some (.int .i64 a1) := hS.p.cell 1; have x2 : W.cell? ⟨U.heap.size, 2, none⟩ = some (.int .i64 a2) := hS.p.cell 2; have x3 : W.cell? ⟨U.heap.size, 3, none⟩ = some (.int .i64 a3) := hS.p.cell 3; have x4 : W.cell? ⟨U.heap.size, 4, none⟩ = some (.int .i64 a4) := hS.p.cell 4; have x5 : W.cell? ⟨U.heap.size, 5, none⟩ = some (.int .i64 a5) := hS.p.cell 5; have x6 : W.cell? ⟨U.heap.size, 6, none⟩ = some (.int .i64 a6) := hS.p.cell 6; have x7 : W.cell? ⟨U.heap.size, 7, none⟩ = some (.int .i64 a7) := hS.p.cell 7; have x8 : W.cell? ⟨U.heap.size, 8, none⟩ = some (.slice (some adq) ra.length ca) := hS.p.cell 8; have y0 : W.cell? ⟨U.heap.size + 1, 0, none⟩ = some (.int .i64 b0) := hS.q.cell 0; have y1 : W.cell? ⟨U.heap.size + 1, 1, none⟩ = some (.int .i64 b1) := hS.q.cell 1; have y2 : W.cell? ⟨U.heap.size + 1, 2, none⟩ = some (.int .i64 b2) := hS.q.cell 2; have y3 : W.cell? ⟨U.heap.size + 1, 3, none⟩ = some (.int .i64 b3) := hS.q.cell 3; have y4 : W.cell? ⟨U.heap.size + 1, 4, none⟩ = some (.int .i64 b4) := hS.q.cell 4; have y5 : W.cell? ⟨U.heap.size + 1, 5, none⟩ = some (.int .i64 b5) := hS.q.cell 5; have y6 : W.cell? ⟨U.heap.size + 1, 6, none⟩ = some (.int .i64 b6) := hS.q.cell 6; have y7 : W.cell? ⟨U.heap.size + 1, 7, none⟩ = some (.int .i64 b7) := hS.q.cell 7; have y8 : W.cell? ⟨U.heap.size + 1, 8, none⟩ = some (.slice B rb.length cb) := hS.q.cell 8; try go_simp))
  clear hK K
  refine flo_read _ rfl (fun K hK => ?_)
  go_simp
  first | (refine hK _ ?_) | (refine ⟨fun W hS => ?_, hK _ ?_⟩; · (have x0 : W.cell? ⟨U.heap.size, 0, none⟩ = some (.int .i64 a0) := hS.p.cell 0; have x1 : W.cell? ⟨U.heap.size, 1, none⟩ = some (.int .i64 a1) := hS.p.cell 1; have x2 : W.cell? ⟨U.heap.size, 2, none⟩ = some (.int .i64 a2) := hS.p.cell 2; have x3 : W.cell? ⟨U.heap.size, 3, none⟩ = some (.int .i64 a3) := hS.p.cell 3; have x4 : W.cell? ⟨U.heap.size, 4, none⟩ = some (.int .i64 a4) := hS.p.cell 4; have x5 : W.cell? ⟨U.heap.size, 5, none⟩ = some (.int .i64 a5) := hS.p.cell 5; have x6 : W.cell? ⟨U.heap.size, 6, none⟩ = some (.int .i64 a6) := hS.p.cell 6; have x7 : W.cell? ⟨U.heap.size, 7, none⟩ = some (.int .i64 a7) := hS.p.cell 7; have x8 : W.cell? ⟨U.heap.size, 8, none⟩ = some (.slice (some adq) ra.length ca) := hS.p.cell 8; have y0 : W.cell? ⟨U.heap.size + 1, 0, none⟩ = some (.int .i64 b0) := hS.q.cell 0; have y1 : W.cell? ⟨U.heap.size + 1, 1, none⟩ = some (.int .i64 b1) := hS.q.cell 1; have y2 : W.cell? ⟨U.heap.size + 1, 2, none⟩ = some (.int .i64 b2) := hS.q.cell 2; have y3 : W.cell? ⟨U.heap.size + 1, 3, none⟩ = some (.int .i64 b3) := hS.q.cell 3; have y4 : W.cell? ⟨U.heap.size + 1, 4, none⟩ = some (.int .i64 b4) := hS.q.cell 4; have y5 : W.cell? ⟨U.heap.size + 1, 5, none⟩ = some (.int .i64 b5) := hS.q.cell 5; have y6 : W.cell? ⟨U.heap.size + 1, 6, none⟩ = some (.int .i64 b6) := hS.q.cell 6; have y7 : W.cell? ⟨U.heap.size + 1, 7, none⟩ = some (.int .i64 b7) := hS.q.cell 7; have y8 : W.cell? ⟨U.heap.size + 1, 8, none⟩ = some (.slice B rb.length cb) := hS.q.cell 8; try go_simp))
  clear hK K
  clear x0 x1 x2 x3 x4 x5 x6 x7 x8 y0 y1 y2 y3 y4 y5 y6 y7 y8
  refine flo_alone _ rfl ?_
  go_wp2_with fail
  go_at_call 34
  refine Calls.mono (hSameh.out _ (hRdh.out _ T10) (hRdbh.out _ T10)) ?_
  rintro e w11 ⟨rfl, t11⟩
  go_wp2_with fail
  refine ⟨fun Z => Bs Z U.heap.size #[.int .i64 a0, .int .i64 a1, .int .i64 a2, .int .i64 a3, .int .i64 a4, .int .i64 a5, .int .i64 a6, .int .i64 a7, .slice (some adq) ra.length ca] #[.int .i64 b0, .int .i64 b1, .int .i64 b2, .int .i64 b3, .int .i64 b4, .int .i64 b5, .int .i64 b6, .int .i64 b7, .slice B rb.length cb], fun Z h => h, B10.turns t11, ?_⟩
  have B11 := B10.turns t11
  have T11 := T10.trans t11
  clear B10 T10 t11
  refine flo_alone _ rfl ?_
  go_wp2_with fail
  go_at_call 35
  refine Calls.mono (hDSameh.out _ (hRdh.out _ T11) (hRdbh.out _ T11)) ?_
  rintro e w12 ⟨rfl, t12⟩
  go_wp2_with fail
  refine ⟨fun Z => Bs Z U.heap.size #[.int .i64 a0, .int .i64 a1, .int .i64 a2, .int .i64 a3, .int .i64 a4, .int .i64 a5, .int .i64 a6, .int .i64 a7, .slice (some adq) ra.length ca] #[.int .i64 b0, .int .i64 b1, .int .i64 b2, .int .i64 b3, .int .i64 b4, .int .i64 b5, .int .i64 b6, .int .i64 b7, .slice B rb.length cb], fun Z h => h, B11.turns t12, ?_⟩
  have B12 := B11.turns t12
  have T12 := T11.trans t12
  clear B11 T11 t12
  have x0 : w12.cell? ⟨U.heap.size, 0, none⟩ = some (.int .i64 a0) := B12.p.cell 0
  have x1 : w12.cell? ⟨U.heap.size, 1, none⟩ = some (.int .i64 a1) := B12.p.cell 1
  have x2 : w12.cell? ⟨U.heap.size, 2, none⟩ = some (.int .i64 a2) := B12.p.cell 2
  have x3 : w12.cell? ⟨U.heap.size, 3, none⟩ = some (.int .i64 a3) := B12.p.cell 3
  have x4 : w12.cell? ⟨U.heap.size, 4, none⟩ = some (.int .i64 a4) := B12.p.cell 4
  have x5 : w12.cell? ⟨U.heap.size, 5, none⟩ = some (.int .i64 a5) := B12.p.cell 5
  have x6 : w12.cell? ⟨U.heap.size, 6, none⟩ = some (.int .i64 a6) := B12.p.cell 6
  have x7 : w12.cell? ⟨U.heap.size, 7, none⟩ = some (.int .i64 a7) := B12.p.cell 7
  have x8 : w12.cell? ⟨U.heap.size, 8, none⟩ = some (.slice (some adq) ra.length ca) := B12.p.cell 8
  have y0 : w12.cell? ⟨U.heap.size + 1, 0, none⟩ = some (.int .i64 b0) := B12.q.cell 0
  have y1 : w12.cell? ⟨U.heap.size + 1, 1, none⟩ = some (.int .i64 b1) := B12.q.cell 1
  have y2 : w12.cell? ⟨U.heap.size + 1, 2, none⟩ = some (.int .i64 b2) := B12.q.cell 2
  have y3 : w12.cell? ⟨U.heap.size + 1, 3, none⟩ = some (.int .i64 b3) := B12.q.cell 3
  have y4 : w12.cell? ⟨U.heap.size + 1, 4, none⟩ = some (.int .i64 b4) := B12.q.cell 4
  have y5 : w12.cell? ⟨U.heap.size + 1, 5, none⟩ = some (.int .i64 b5) := B12.q.cell 5
  have y6 : w12.cell? ⟨U.heap.size + 1, 6, none⟩ = some (.int .i64 b6) := B12.q.cell 6
  have y7 : w12.cell? ⟨U.heap.size + 1, 7, none⟩ = some (.int .i64 b7) := B12.q.cell 7
  have y8 : w12.cell? ⟨U.heap.size + 1, 8, none⟩ = some (.slice B rb.length cb) := B12.q.cell 8
  refine flo_read _ rfl (fun K hK => ?_)
  go_simp
  first | (refine hK _ ?_) | (refine ⟨fun W hS => ?_, hK _ ?_⟩; · (have x0 : W.cell? ⟨U.heap.size, 0, none⟩ = some (.int .i64 a0) := hS.p.cell 0; have x1 : W.cell? ⟨U.heap.size, 1, none⟩ = some (.int .i64 a1) := hS.p.cell 1; have x2 : W.cell? ⟨U.heap.size, 2, none⟩ = some (.int .i64 a2) := hS.p.cell 2; have x3 : W.cell? ⟨U.heap.size, 3, none⟩ = some (.int .i64 a3) := hS.p.cell 3; have x4 : W.cell? ⟨U.heap.size, 4, none⟩ = some (.int .i64 a4) := hS.p.cell 4; have x5 : W.cell? ⟨U.heap.size, 5, none⟩ = some (.int .i64 a5) := hS.p.cell 5; have x6 : W.cell? ⟨U.heap.size, 6, none⟩ = some (.int .i64 a6) := hS.p.cell 6; have x7 : W.cell? ⟨U.heap.size, 7, none⟩ = some (.int .i64 a7) := hS.p.cell 7; have x8 : W.cell? ⟨U.heap.size, 8, none⟩ = some (.slice (some adq) ra.length ca) := hS.p.cell 8; have y0 : W.cell? ⟨U.heap.size + 1, 0, none⟩ = some (.int .i64 b0) := hS.q.cell 0; have y1 : W.cell? ⟨U.heap.size + 1, 1, none⟩ = some (.int .i64 b1) := hS.q.cell 1; have y2 : W.cell? ⟨U.heap.size + 1, 2, none⟩ = some (.int .i64 b2) := hS.q.cell 2; have y3 : W.cell? ⟨U.heap.size + 1, 3, none⟩ = some (.int .i64 b3) := hS.q.cell 3; have y4 : W.cell? ⟨U.heap.size + 1, 4, none⟩ = some (.int .i64 b4) := hS.q.cell 4; have y5 : W.cell? ⟨U.heap.size + 1, 5, none⟩ = some (.int .i64 b5) := hS.q.cell 5; have y6 : W.cell? ⟨U.heap.size + 1, 6, none⟩ = some (.int .i64 b6) := hS.q.cell 6; have y7 : W.cell? ⟨U.heap.size + 1, 7, none⟩ = some (.int .i64 b7) := hS.q.cell 7; have y8 : W.cell? ⟨U.heap.size + 1, 8, none⟩ = some (.slice B rb.length cb) := hS.q.cell 8; try go_simp))
  clear hK K
  refine flo_read _ rfl (fun K hK => ?_)
  go_simp
  first | (refine hK _ ?_) | (refine ⟨fun W hS => ?_, hK _ ?_⟩; · (have x0 : W.cell? ⟨U.heap.size, 0, none⟩ = some (.int .i64 a0) := hS.p.cell 0; have x1 : W.cell? ⟨U.heap.size, 1, none⟩ = some (.int .i64 a1) := hS.p.cell 1; have x2 : W.cell? ⟨U.heap.size, 2, none⟩ = some (.int .i64 a2) := hS.p.cell 2; have x3 : W.cell? ⟨U.heap.size, 3, none⟩ = some (.int .i64 a3) := hS.p.cell 3; have x4 : W.cell? ⟨U.heap.size, 4, none⟩ = some (.int .i64 a4) := hS.p.cell 4; have x5 : W.cell? ⟨U.heap.size, 5, none⟩ = some (.int .i64 a5) := hS.p.cell 5; have x6 : W.cell? ⟨U.heap.size, 6, none⟩ = some (.int .i64 a6) := hS.p.cell 6; have x7 : W.cell? ⟨U.heap.size, 7, none⟩ = some (.int .i64 a7) := hS.p.cell 7; have x8 : W.cell? ⟨U.heap.size, 8, none⟩ = some (.slice (some adq) ra.length ca) := hS.p.cell 8; have y0 : W.cell? ⟨U.heap.size + 1, 0, none⟩ = some (.int .i64 b0) := hS.q.cell 0; have y1 : W.cell? ⟨U.heap.size + 1, 1, none⟩ = some (.int .i64 b1) := hS.q.cell 1; have y2 : W.cell? ⟨U.heap.size + 1, 2, none⟩ = some (.int .i64 b2) := hS.q.cell 2; have y3 : W.cell? ⟨U.heap.size + 1, 3, none⟩ = some (.int .i64 b3) := hS.q.cell 3; have y4 : W.cell? ⟨U.heap.size + 1, 4, none⟩ = some (.int .i64 b4) := hS.q.cell 4; have y5 : W.cell? ⟨U.heap.size + 1, 5, none⟩ = some (.int .i64 b5) := hS.q.cell 5; have y6 : W.cell? ⟨U.heap.size + 1, 6, none⟩ = some (.int .i64 b6) := hS.q.cell 6; have y7 : W.cell? ⟨U.heap.size + 1, 7, none⟩ = some (.int .i64 b7) := hS.q.cell 7; have y8 : W.cell? ⟨U.heap.size + 1, 8, none⟩ = some (.slice B rb.length cb) := hS.q.cell 8; try go_simp))
  clear hK K
  refine flo_read _ rfl (fun K hK => ?_)
  go_simp
  first | (refine hK _ ?_) | (refine ⟨fun W hS => ?_, hK _ ?_⟩; · (have x0 : W.cell? ⟨U.heap.size, 0, none⟩ = some (.int .i64 a0) := hS.p.cell 0; have x1 : W.cell? ⟨U.heap.size, 1, none⟩ = some (.int .i64 a1) := hS.p.cell 1; have x2 : W.cell? ⟨U.heap.size, 2, none⟩ = some (.int .i64 a2) := hS.p.cell 2; have x3 : W.cell? ⟨U.heap.size, 3, none⟩ = some (.int .i64 a3) := hS.p.cell 3; have x4 : W.cell? ⟨U.heap.size, 4, none⟩ = some (.int .i64 a4) := hS.p.cell 4; have x5 : W.cell? ⟨U.heap.size, 5, none⟩ = some (.int .i64 a5) := hS.p.cell 5; have x6 : W.cell? ⟨U.heap.size, 6, none⟩ = some (.int .i64 a6) := hS.p.cell 6; have x7 : W.cell? ⟨U.heap.size, 7, none⟩ = some (.int .i64 a7) := hS.p.cell 7; have x8 : W.cell? ⟨U.heap.size, 8, none⟩ = some (.slice (some adq) ra.length ca) := hS.p.cell 8; have y0 : W.cell? ⟨U.heap.size + 1, 0, none⟩ = some (.int .i64 b0) := hS.q.cell 0; have y1 : W.cell? ⟨U.heap.size + 1, 1, none⟩ = some (.int .i64 b1) := hS.q.cell 1; have y2 : W.cell? ⟨U.heap.size + 1, 2, none⟩ = some (.int .i64 b2) := hS.q.cell 2; have y3 : W.cell? ⟨U.heap.size + 1, 3, none⟩ = some (.int .i64 b3) := hS.q.cell 3; have y4 : W.cell? ⟨U.heap.size + 1, 4, none⟩ = some (.int .i64 b4) := hS.q.cell 4; have y5 : W.cell? ⟨U.heap.size + 1, 5, none⟩ = some (.int .i64 b5) := hS.q.cell 5; have y6 : W.cell? ⟨U.heap.size + 1, 6, none⟩ = some (.int .i64 b6) := hS.q.cell 6; have y7 : W.cell? ⟨U.heap.size + 1, 7, none⟩ = some (.int .i64 b7) := hS.q.cell 7; have y8 : W.cell? ⟨U.heap.size + 1, 8, none⟩ = some (.slice B rb.length cb) := hS.q.cell 8; try go_simp))
  clear hK K
  refine flo_read _ rfl (fun K hK => ?_)
  go_simp
  first | (refine hK _ ?_) | (refine ⟨fun W hS => ?_, hK _ ?_⟩; · (have x0 : W.cell? ⟨U.heap.size, 0, none⟩ = some (.int .i64 a0) := hS.p.cell 0; have x1 : W.cell? ⟨U.heap.size, 1, none⟩ = some (.int .i64 a1) := hS.p.cell 1; have x2 : W.cell? ⟨U.heap.size, 2, none⟩ = some (.int .i64 a2) := hS.p.cell 2; have x3 : W.cell? ⟨U.heap.size, 3, none⟩ = some (.int .i64 a3) := hS.p.cell 3; have x4 : W.cell? ⟨U.heap.size, 4, none⟩ = some (.int .i64 a4) := hS.p.cell 4; have x5 : W.cell? ⟨U.heap.size, 5, none⟩ = some (.int .i64 a5) := hS.p.cell 5; have x6 : W.cell? ⟨U.heap.size, 6, none⟩ = some (.int .i64 a6) := hS.p.cell 6; have x7 : W.cell? ⟨U.heap.size, 7, none⟩ = some (.int .i64 a7) := hS.p.cell 7; have x8 : W.cell? ⟨U.heap.size, 8, none⟩ = some (.slice (some adq) ra.length ca) := hS.p.cell 8; have y0 : W.cell? ⟨U.heap.size + 1, 0, none⟩ = some (.int .i64 b0) := hS.q.cell 0; have y1 : W.cell? ⟨U.heap.size + 1, 1, none⟩ = some (.int .i64 b1) := hS.q.cell 1; have y2 : W.cell? ⟨U.heap.size + 1, 2, none⟩ = some (.int .i64 b2) := hS.q.cell 2; have y3 : W.cell? ⟨U.heap.size + 1, 3, none⟩ = some (.int .i64 b3) := hS.q.cell 3; have y4 : W.cell? ⟨U.heap.size + 1, 4, none⟩ = some (.int .i64 b4) := hS.q.cell 4; have y5 : W.cell? ⟨U.heap.size + 1, 5, none⟩ = some (.int .i64 b5) := hS.q.cell 5; have y6 : W.cell? ⟨U.heap.size + 1, 6, none⟩ = some (.int .i64 b6) := hS.q.cell 6; have y7 : W.cell? ⟨U.heap.size + 1, 7, none⟩ = some (.int .i64 b7) := hS.q.cell 7; have y8 : W.cell? ⟨U.heap.size + 1, 8, none⟩ = some (.slice B rb.length cb) := hS.q.cell 8; try go_simp))
  clear hK K
  refine flo_read _ rfl (fun K hK => ?_)
  go_simp
  first | (refine hK _ ?_) | (refine ⟨fun W hS => ?_, hK _ ?_⟩; · (have x0 : W.cell? ⟨U.heap.size, 0, none⟩ = some (.int .i64 a0) := hS.p.cell 0; have x1 : W.cell? ⟨U.heap.size, 1, none⟩ = some (.int .i64 a1) := hS.p.cell 1; have x2 : W.cell? ⟨U.heap.size, 2, none⟩ = some (.int .i64 a2) := hS.p.cell 2; have x3 : W.cell? ⟨U.heap.size, 3, none⟩ = some (.int .i64 a3) := hS.p.cell 3; have x4 : W.cell? ⟨U.heap.size, 4, none⟩ = some (.int .i64 a4) := hS.p.cell 4; have x5 : W.cell? ⟨U.heap.size, 5, none⟩ = some (.int .i64 a5) := hS.p.cell 5; have x6 : W.cell? ⟨U.heap.size, 6, none⟩ = some (.int .i64 a6) := hS.p.cell 6; have x7 : W.cell? ⟨U.heap.size, 7, none⟩ = some (.int .i64 a7) := hS.p.cell 7; have x8 : W.cell? ⟨U.heap.size, 8, none⟩ = some (.slice (some adq) ra.length ca) := hS.p.cell 8; have y0 : W.cell? ⟨U.heap.size + 1, 0, none⟩ = some (.int .i64 b0) := hS.q.cell 0; have y1 : W.cell? ⟨U.heap.size + 1, 1, none⟩ = some (.int .i64 b1) := hS.q.cell 1; have y2 : W.cell? ⟨U.heap.size + 1, 2, none⟩ = some (.int .i64 b2) := hS.q.cell 2; have y3 : W.cell? ⟨U.heap.size + 1, 3, none⟩ = some (.int .i64 b3) := hS.q.cell 3; have y4 : W.cell? ⟨U.heap.size + 1, 4, none⟩ = some (.int .i64 b4) := hS.q.cell 4; have y5 : W.cell? ⟨U.heap.size + 1, 5, none⟩ = some (.int .i64 b5) := hS.q.cell 5; have y6 : W.cell? ⟨U.heap.size + 1, 6, none⟩ = some (.int .i64 b6) := hS.q.cell 6; have y7 : W.cell? ⟨U.heap.size + 1, 7, none⟩ = some (.int .i64 b7) := hS.q.cell 7; have y8 : W.cell? ⟨U.heap.size + 1, 8, none⟩ = some (.slice B rb.length cb) := hS.q.cell 8; try go_simp))
  clear hK K
  clear x0 x1 x2 x3 x4 x5 x6 x7 x8 y0 y1 y2 y3 y4 y5 y6 y7 y8
  refine flo_alone _ rfl ?_
  go_wp2_with fail
  go_at_call 34
  refine Calls.mono (hSelfh.out _ (hRdh.out _ T12)) ?_
  rintro e w13 ⟨rfl, t13⟩
  go_wp2_with fail
  refine ⟨fun Z => Bs Z U.heap.size #[.int .i64 a0, .int .i64 a1, .int .i64 a2, .int .i64 a3, .int .i64 a4, .int .i64 a5, .int .i64 a6, .int .i64 a7, .slice (some adq) ra.length ca] #[.int .i64 b0, .int .i64 b1, .int .i64 b2, .int .i64 b3, .int .i64 b4, .int .i64 b5, .int .i64 b6, .int .i64 b7, .slice B rb.length cb], fun Z h => h, B12.turns t13, ?_⟩
  have B13 := B12.turns t13
  have T13 := T12.trans t13
  clear B12 T12 t13
  refine flo_read _ rfl (fun K hK => ?_)
  go_simp
  first | (refine hK _ ?_) | (refine ⟨fun W hS => ?_, hK _ ?_⟩; · (skip; try go_simp))
  clear hK K
  refine flo_read _ rfl (fun K hK => ?_)
  go_simp
  first | (refine hK _ ?_) | (refine ⟨fun W hS => ?_, hK _ ?_⟩; · (skip; try go_simp))
  clear hK K
  refine flo_read _ rfl (fun K hK => ?_)
  go_simp
  first | (refine hK _ ?_) | (refine ⟨fun W hS => ?_, hK _ ?_⟩; · (skip; try go_simp))
  clear hK K
  refine flo_read _ rfl (fun K hK => ?_)
  go_simp
  first | (refine hK _ ?_) | (refine ⟨fun W hS => ?_, hK _ ?_⟩; · (skip; try go_simp))
  clear hK K
  refine flo_alone _ rfl ?_
  go_wp2_with fail
  go_at_call 36
  refine Calls.mono (hRih.out _) ?_
  rintro e w14 ⟨rfl, t14⟩
  go_wp2_with fail
  refine ⟨fun Z => Bs Z U.heap.size #[.int .i64 a0, .int .i64 a1, .int .i64 a2, .int .i64 a3, .int .i64 a4, .int .i64 a5, .int .i64 a6, .int .i64 a7, .slice (some adq) ra.length ca] #[.int .i64 b0, .int .i64 b1, .int .i64 b2, .int .i64 b3, .int .i64 b4, .int .i64 b5, .int .i64 b6, .int .i64 b7, .slice B rb.length cb], fun Z h => h, B13.turns t14, ?_⟩
  have B14 := B13.turns t14
  have T14 := T13.trans t14
  clear B13 T13 t14
  refine flo_alone _ rfl ?_
  go_wp2_with fail
  go_at_call 37
  refine Calls.mono (hDRih.out _) ?_
  rintro e w15 ⟨rfl, t15⟩
  go_wp2_with fail
  refine ⟨fun Z => Bs Z U.heap.size #[.int .i64 a0, .int .i64 a1, .int .i64 a2, .int .i64 a3, .int .i64 a4, .int .i64 a5, .int .i64 a6, .int .i64 a7, .slice (some adq) ra.length ca] #[.int .i64 b0, .int .i64 b1, .int .i64 b2, .int .i64 b3, .int .i64 b4, .int .i64 b5, .int .i64 b6, .int .i64 b7, .slice B rb.length cb], fun Z h => h, B14.turns t15, ?_⟩
  have B15 := B14.turns t15
  have T15 := T14.trans t15
  clear B14 T14 t15
  refine flo_read _ rfl (fun K hK => ?_)
  go_simp
  first | (refine hK _ ?_) | (refine ⟨fun W hS => ?_, hK _ ?_⟩; · (skip; try go_simp))
  clear hK K
  refine flo_read _ rfl (fun K hK => ?_)
  go_simp
  first | (refine hK _ ?_) | (refine ⟨fun W hS => ?_, hK _ ?_⟩; · (skip; try go_simp))
  clear hK K
  refine flo_read _ rfl (fun K hK => ?_)
  go_simp
  first | (refine hK _ ?_) | (refine ⟨fun W hS => ?_, hK _ ?_⟩; · (skip; try go_simp))
  clear hK K
  refine flo_end ?_
  go_wp2_with fail
  go_ret
  exact ⟨rfl, T15⟩
set_option maxHeartbeats 8000000 in
theorem tells_no (U : World) (a b : Cfg) (k : Int) (hA : RdS 2 U a.rv (rts a.rates)) (hB : RdS 2 U b.rv (rts b.rates)) (hl : a.rates.length ≤ 100 ∧ b.rates.length ≤ 100) (hk : ¬ hasRate k a.rates.length) :
    Calls Try.prog 6 #[a.v, b.v, .int .i64 k] U fun e w' => e = .returned (.bool true) ∧ Turns [] U w' := by
  obtain ⟨E, hF, hT⟩ : ∃ E : Bool, (¬ Ce.Alike a b → E = false) ∧ (Ce.Alike a b → E = true) := by
    by_cases h : Ce.Alike a b
    · exact ⟨true, fun h2 => absurd h h2, fun _ => rfl⟩
    · exact ⟨false, fun _ => rfl, fun h2 => absurd h2 h⟩
  have hSame := fun w hA hB => same_is w a b E hA hB hF hT
  have hDSame := fun w hA hB => dsame_is w a b E hA hB hF hT
  have hSelf := fun w hA => same_is w a a true hA hA (fun h => absurd ⟨rfl, rfl, rfl, rfl, rfl, rfl, rfl, rfl, rfl⟩ h) (fun _ => rfl)
  have hCh := fun w hA => check_is w a hA
  have hDCh := fun w hA => dcheck_is w a hA
  have hQu := fun w => quarantine_is w a
  have hDQu := fun w => dquarantine_is w a
  have hRi := kright_is k
  have hDRi := dright_is k
  obtain ⟨er, her⟩ : ∃ x, errR a = x := ⟨_, rfl⟩
  obtain ⟨qu, hqu⟩ : ∃ x, sum [a.valid, a.ttl, mul 4 a.skew] = x := ⟨_, rfl⟩
  obtain ⟨ri, hri⟩ : ∃ x, decide (0 ≤ k ∧ k < 524288) = x := ⟨_, rfl⟩
  rw [hri] at hRi hDRi
  simp only [her] at hCh hDCh
  simp only [hqu] at hQu hDQu
  have hRt := fun w A cap hA => rate_no w a k A cap hA hk
  have hDRt := fun w A cap hA => drate_no w a k A cap hA hk
  clear her hqu hri hF hT
  obtain ⟨a0, a1, a2, a3, a4, a5, a6, a7, rva, ra⟩ := a
  obtain ⟨b0, b1, b2, b3, b4, b5, b6, b7, rvb, rb⟩ := b
  simp only at hA hB hl
  obtain ⟨A, ca, rfl, _⟩ := hA.form
  obtain ⟨B, cb, rfl, _⟩ := hB.form
  simp only [rts_len] at *
  unfold Cfg.v at *
  simp only [rts_len] at *
  have T0 := ((Turns.refl [] U).alloc (.cells #[.int .i64 a0, .int .i64 a1, .int .i64 a2, .int .i64 a3, .int .i64 a4, .int .i64 a5, .int .i64 a6, .int .i64 a7, .slice A ra.length ca] 52)).alloc (.cells #[.int .i64 b0, .int .i64 b1, .int .i64 b2, .int .i64 b3, .int .i64 b4, .int .i64 b5, .int .i64 b6, .int .i64 b7, .slice B rb.length cb] 52)
  have hB0 : Bs ((U.alloc (.cells #[.int .i64 a0, .int .i64 a1, .int .i64 a2, .int .i64 a3, .int .i64 a4, .int .i64 a5, .int .i64 a6, .int .i64 a7, .slice A ra.length ca] 52)).alloc (.cells #[.int .i64 b0, .int .i64 b1, .int .i64 b2, .int .i64 b3, .int .i64 b4, .int .i64 b5, .int .i64 b6, .int .i64 b7, .slice B rb.length cb] 52)) U.heap.size #[.int .i64 a0, .int .i64 a1, .int .i64 a2, .int .i64 a3, .int .i64 a4, .int .i64 a5, .int .i64 a6, .int .i64 a7, .slice A ra.length ca] #[.int .i64 b0, .int .i64 b1, .int .i64 b2, .int .i64 b3, .int .i64 b4, .int .i64 b5, .int .i64 b6, .int .i64 b7, .slice B rb.length cb] := ⟨(Blk.new U #[.int .i64 a0, .int .i64 a1, .int .i64 a2, .int .i64 a3, .int .i64 a4, .int .i64 a5, .int .i64 a6, .int .i64 a7, .slice A ra.length ca] 52).alloc _, by have := Blk.new (U.alloc (.cells #[.int .i64 a0, .int .i64 a1, .int .i64 a2, .int .i64 a3, .int .i64 a4, .int .i64 a5, .int .i64 a6, .int .i64 a7, .slice A ra.length ca] 52)) #[.int .i64 b0, .int .i64 b1, .int .i64 b2, .int .i64 b3, .int .i64 b4, .int .i64 b5, .int .i64 b6, .int .i64 b7, .slice B rb.length cb] 52; rw [World.size_alloc] at this; exact this⟩
  have g1 : decide ((ra.length : Int) > 100) = false := decide_eq_false (by omega)
  have g2 : decide ((rb.length : Int) > 100) = false := decide_eq_false (by omega)
  have hSameh : Hid _ := hSame
  have hDSameh : Hid _ := hDSame
  have hSelfh : Hid _ := hSelf
  have hChh : Hid _ := hCh
  have hDChh : Hid _ := hDCh
  have hQuh : Hid _ := hQu
  have hDQuh : Hid _ := hDQu
  have hRih : Hid _ := hRi
  have hDRih : Hid _ := hDRi
  have hRth : Hid _ := hRt
  have hDRth : Hid _ := hDRt
  have hAh : Hid _ := hA
  have hBh : Hid _ := hB
  clear hSame hDSame hSelf hCh hDCh hQu hDQu hRi hDRi hRt hDRt hA hB hk
  have hRd : ∀ w', Turns [] U w' → RdS 2 w' (.slice A ra.length ca) (rts ra) := fun w' t => RdS.mv hAh.out (fun x u hu => t.old hu)
  have hRdb : ∀ w', Turns [] U w' → RdS 2 w' (.slice B rb.length cb) (rts rb) := fun w' t => RdS.mv hBh.out (fun x u hu => t.old hu)
  have hRdh : Hid _ := hRd
  have hRdbh : Hid _ := hRdb
  clear hRd hRdb hAh hBh
  go_enter Try.func6, Try.ntmps6
  go_wp2_with fail
  go_at_call 28
  refine Calls.mono (hRth.out _ A ca rfl) ?_
  rintro e w1 ⟨rfl, t1⟩
  have B1 := hB0.turns t1
  have T1 := T0.trans t1
  clear hB0 T0 t1 hRth
  have qz := (Turns.refl [] w1).alloc (.cells #[.int .i64 0, .int .i64 0] 54)
  have r2 := Blk.new w1 #[.int .i64 0, .int .i64 0] 54
  have B2 := B1.turns qz
  have T2 := T1.trans qz
  have x0 : (w1.alloc (.cells #[.int .i64 0, .int .i64 0] 54)).cell? ⟨U.heap.size, 0, none⟩ = some (.int .i64 a0) := B2.p.cell 0
  have x1 : (w1.alloc (.cells #[.int .i64 0, .int .i64 0] 54)).cell? ⟨U.heap.size, 1, none⟩ = some (.int .i64 a1) := B2.p.cell 1
  have x2 : (w1.alloc (.cells #[.int .i64 0, .int .i64 0] 54)).cell? ⟨U.heap.size, 2, none⟩ = some (.int .i64 a2) := B2.p.cell 2
  have x3 : (w1.alloc (.cells #[.int .i64 0, .int .i64 0] 54)).cell? ⟨U.heap.size, 3, none⟩ = some (.int .i64 a3) := B2.p.cell 3
  have x4 : (w1.alloc (.cells #[.int .i64 0, .int .i64 0] 54)).cell? ⟨U.heap.size, 4, none⟩ = some (.int .i64 a4) := B2.p.cell 4
  have x5 : (w1.alloc (.cells #[.int .i64 0, .int .i64 0] 54)).cell? ⟨U.heap.size, 5, none⟩ = some (.int .i64 a5) := B2.p.cell 5
  have x6 : (w1.alloc (.cells #[.int .i64 0, .int .i64 0] 54)).cell? ⟨U.heap.size, 6, none⟩ = some (.int .i64 a6) := B2.p.cell 6
  have x7 : (w1.alloc (.cells #[.int .i64 0, .int .i64 0] 54)).cell? ⟨U.heap.size, 7, none⟩ = some (.int .i64 a7) := B2.p.cell 7
  have x8 : (w1.alloc (.cells #[.int .i64 0, .int .i64 0] 54)).cell? ⟨U.heap.size, 8, none⟩ = some (.slice A ra.length ca) := B2.p.cell 8
  go_wp2_with fail
  go_at_call 29
  refine Calls.mono (hDRth.out _ A ca rfl) ?_
  rintro e w3 ⟨rfl, t3⟩
  have B3 := (B2.turns t3).turns ((Turns.refl [] w3).drew)
  have T3 := (T2.trans t3).drew
  have r3 := (r2.turns t3 (by simp)).drew
  clear B1 B2 T1 T2 qz r2 t3 hDRth x0 x1 x2 x3 x4 x5 x6 x7 x8
  have z0 := r3.cell 0
  have z1 := r3.cell 1
  have x8 : w3.drew.cell? ⟨U.heap.size, 8, none⟩ = some (.slice A ra.length ca) := B3.p.cell 8
  go_wp2_with fail
  refine wp_region_flo [(0, true), (1, true), (2, true), (3, true), (4, true), (5, true), (6, true), (7, true), (8, true), (9, true), (10, true), (11, true), (12, true), (13, true), (14, true), (15, true), (16, true), (17, true), (18, true), (19, true), (20, true), (21, true), (22, true), (23, true), (24, true)] (fun W => W = _) (by kernel_rfl) rfl (by kernel_rfl) (by intro c d v a w h; cases d <;> first | (simpa [Exit.then, Exit.inBlock, Act.put] using h) | exact h) (rfl) ?_
  refine flo_read _ rfl (fun K hK => ?_)
  go_simp
  first | (refine hK _ ?_) | (refine ⟨fun W hS => ?_, hK _ ?_⟩; · (subst hS; try go_simp))
  clear hK K
  refine flo_read _ rfl (fun K hK => ?_)
  go_simp
  first | (refine hK _ ?_) | (refine ⟨fun W hS => ?_, hK _ ?_⟩; · (subst hS; try go_simp))
  clear hK K
  refine flo_read _ rfl (fun K hK => ?_)
  go_simp
  first | (refine hK _ ?_) | (refine ⟨fun W hS => ?_, hK _ ?_⟩; · (subst hS; try go_simp))
  clear hK K
  refine flo_read _ rfl (fun K hK => ?_)
  go_simp
  first | (refine hK _ ?_) | (refine ⟨fun W hS => ?_, hK _ ?_⟩; · (subst hS; try go_simp))
  clear hK K
  refine flo_read _ rfl (fun K hK => ?_)
  go_simp
  first | (refine hK _ ?_) | (refine ⟨fun W hS => ?_, hK _ ?_⟩; · (subst hS; try go_simp))
  clear hK K
  refine flo_read _ rfl (fun K hK => ?_)
  go_simp
  first | (refine hK _ ?_) | (refine ⟨fun W hS => ?_, hK _ ?_⟩; · (subst hS; try go_simp))
  clear hK K
  refine flo_read _ rfl (fun K hK => ?_)
  go_simp
  first | (refine hK _ ?_) | (refine ⟨fun W hS => ?_, hK _ ?_⟩; · (subst hS; try go_simp))
  clear hK K
  refine flo_read _ rfl (fun K hK => ?_)
  go_simp
  first | (refine hK _ ?_) | (refine ⟨fun W hS => ?_, hK _ ?_⟩; · (subst hS; try go_simp))
  clear hK K
  refine flo_read _ rfl (fun K hK => ?_)
  go_simp
  first | (refine hK _ ?_) | (refine ⟨fun W hS => ?_, hK _ ?_⟩; · (subst hS; try go_simp))
  clear hK K
  refine flo_read _ rfl (fun K hK => ?_)
  go_simp
  first | (refine hK _ ?_) | (refine ⟨fun W hS => ?_, hK _ ?_⟩; · (subst hS; try go_simp))
  clear hK K
  refine flo_read _ rfl (fun K hK => ?_)
  go_simp
  first | (refine hK _ ?_) | (refine ⟨fun W hS => ?_, hK _ ?_⟩; · (subst hS; try go_simp))
  clear hK K
  refine flo_read _ rfl (fun K hK => ?_)
  go_simp
  first | (refine hK _ ?_) | (refine ⟨fun W hS => ?_, hK _ ?_⟩; · (subst hS; try go_simp))
  clear hK K
  refine flo_read _ rfl (fun K hK => ?_)
  go_simp
  first | (refine hK _ ?_) | (refine ⟨fun W hS => ?_, hK _ ?_⟩; · (subst hS; try go_simp))
  clear hK K
  refine flo_read _ rfl (fun K hK => ?_)
  go_simp
  first | (refine hK _ ?_) | (refine ⟨fun W hS => ?_, hK _ ?_⟩; · (subst hS; try go_simp))
  clear hK K
  refine flo_read _ rfl (fun K hK => ?_)
  go_simp
  first | (refine hK _ ?_) | (refine ⟨fun W hS => ?_, hK _ ?_⟩; · (subst hS; try go_simp))
  clear hK K
  refine flo_read _ rfl (fun K hK => ?_)
  go_simp
  first | (refine hK _ ?_) | (refine ⟨fun W hS => ?_, hK _ ?_⟩; · (subst hS; try go_simp))
  clear hK K
  refine flo_read _ rfl (fun K hK => ?_)
  go_simp
  first | (refine hK _ ?_) | (refine ⟨fun W hS => ?_, hK _ ?_⟩; · (subst hS; try go_simp))
  clear hK K
  refine flo_read _ rfl (fun K hK => ?_)
  go_simp
  first | (refine hK _ ?_) | (refine ⟨fun W hS => ?_, hK _ ?_⟩; · (subst hS; try go_simp))
  clear hK K
  refine flo_read _ rfl (fun K hK => ?_)
  go_simp
  first | (refine hK _ ?_) | (refine ⟨fun W hS => ?_, hK _ ?_⟩; · (subst hS; try go_simp))
  clear hK K
  refine flo_read _ rfl (fun K hK => ?_)
  go_simp
  first | (refine hK _ ?_) | (refine ⟨fun W hS => ?_, hK _ ?_⟩; · (subst hS; try go_simp))
  clear hK K
  refine flo_read _ rfl (fun K hK => ?_)
  go_simp
  first | (refine hK _ ?_) | (refine ⟨fun W hS => ?_, hK _ ?_⟩; · (subst hS; try go_simp))
  clear hK K
  refine flo_read _ rfl (fun K hK => ?_)
  go_simp
  first | (refine hK _ ?_) | (refine ⟨fun W hS => ?_, hK _ ?_⟩; · (subst hS; try go_simp))
  clear hK K
  refine flo_read _ rfl (fun K hK => ?_)
  go_simp
  first | (refine hK _ ?_) | (refine ⟨fun W hS => ?_, hK _ ?_⟩; · (subst hS; try go_simp))
  clear hK K
  refine flo_read _ rfl (fun K hK => ?_)
  go_simp
  first | (refine hK _ ?_) | (refine ⟨fun W hS => ?_, hK _ ?_⟩; · (subst hS; try go_simp))
  clear hK K
  refine flo_read _ rfl (fun K hK => ?_)
  go_simp
  first | (refine hK _ ?_) | (refine ⟨fun W hS => ?_, hK _ ?_⟩; · (subst hS; try go_simp))
  clear hK K
  refine flo_end ?_
  have B4 := B3.turns ((Turns.refl [] w3.drew).drew)
  have T4 := T3.drew
  clear B3 T3 r3 z0 z1 x8
  go_wp2_with fail
  refine wp_region_flo [(0, true), (2, true), (1, false), (3, false), (4, true), (5, true), (6, true), (8, true), (7, false), (9, false), (10, true), (11, true), (12, true)] (fun Z => Blk Z U.heap.size #[.int .i64 a0, .int .i64 a1, .int .i64 a2, .int .i64 a3, .int .i64 a4, .int .i64 a5, .int .i64 a6, .int .i64 a7, .slice A ra.length ca] 52) (by kernel_rfl) rfl (by kernel_rfl) (by intro c d v a w h; cases d <;> first | (simpa [Exit.then, Exit.inBlock, Act.put] using h) | exact h) (B4.p) ?_
  generalize w3.drew.drew = w4 at *
  have x0 : w4.cell? ⟨U.heap.size, 0, none⟩ = some (.int .i64 a0) := B4.p.cell 0
  have x1 : w4.cell? ⟨U.heap.size, 1, none⟩ = some (.int .i64 a1) := B4.p.cell 1
  have x2 : w4.cell? ⟨U.heap.size, 2, none⟩ = some (.int .i64 a2) := B4.p.cell 2
  have x3 : w4.cell? ⟨U.heap.size, 3, none⟩ = some (.int .i64 a3) := B4.p.cell 3
  have x4 : w4.cell? ⟨U.heap.size, 4, none⟩ = some (.int .i64 a4) := B4.p.cell 4
  have x5 : w4.cell? ⟨U.heap.size, 5, none⟩ = some (.int .i64 a5) := B4.p.cell 5
  have x6 : w4.cell? ⟨U.heap.size, 6, none⟩ = some (.int .i64 a6) := B4.p.cell 6
  have x7 : w4.cell? ⟨U.heap.size, 7, none⟩ = some (.int .i64 a7) := B4.p.cell 7
  have x8 : w4.cell? ⟨U.heap.size, 8, none⟩ = some (.slice A ra.length ca) := B4.p.cell 8
  refine flo_read _ rfl (fun K hK => ?_)
  go_simp
  first | (refine hK _ ?_) | (refine ⟨fun W hS => ?_, hK _ ?_⟩; · (have x0 : W.cell? ⟨U.heap.size, 0, none⟩ = some (.int .i64 a0) := hS.cell 0; have x1 : W.cell? ⟨U.heap.size, 1, none⟩ = some (.int .i64 a1) := hS.cell 1; have x2 : W.cell? ⟨U.heap.size, 2, none⟩ = some (.int .i64 a2) := hS.cell 2; have x3 : W.cell? ⟨U.heap.size, 3, none⟩ = some (.int .i64 a3) := hS.cell 3; have x4 : W.cell? ⟨U.heap.size, 4, none⟩ = some (.int .i64 a4) := hS.cell 4; have x5 : W.cell? ⟨U.heap.size, 5, none⟩ = some (.int .i64 a5) := hS.cell 5; have x6 : W.cell? ⟨U.heap.size, 6, none⟩ = some (.int .i64 a6) := hS.cell 6; have x7 : W.cell? ⟨U.heap.size, 7, none⟩ = some (.int .i64 a7) := hS.cell 7; have x8 : W.cell? ⟨U.heap.size, 8, none⟩ = some (.slice A ra.length ca) := hS.cell 8; try go_simp))
  clear hK K
  refine flo_read _ rfl (fun K hK => ?_)
  go_simp
  first | (refine hK _ ?_) | (refine ⟨fun W hS => ?_, hK _ ?_⟩; · (have x0 : W.cell? ⟨U.heap.size, 0, none⟩ = some (.int .i64 a0) := hS.cell 0; have x1 : W.cell? ⟨U.heap.size, 1, none⟩ = some (.int .i64 a1) := hS.cell 1; have x2 : W.cell? ⟨U.heap.size, 2, none⟩ = some (.int .i64 a2) := hS.cell 2; have x3 : W.cell? ⟨U.heap.size, 3, none⟩ = some (.int .i64 a3) := hS.cell 3; have x4 : W.cell? ⟨U.heap.size, 4, none⟩ = some (.int .i64 a4) := hS.cell 4; have x5 : W.cell? ⟨U.heap.size, 5, none⟩ = some (.int .i64 a5) := hS.cell 5; have x6 : W.cell? ⟨U.heap.size, 6, none⟩ = some (.int .i64 a6) := hS.cell 6; have x7 : W.cell? ⟨U.heap.size, 7, none⟩ = some (.int .i64 a7) := hS.cell 7; have x8 : W.cell? ⟨U.heap.size, 8, none⟩ = some (.slice A ra.length ca) := hS.cell 8; try go_simp))
  clear hK K
  clear x0 x1 x2 x3 x4 x5 x6 x7 x8
  refine flo_alone _ rfl ?_
  go_wp2_with fail
  go_at_call 30
  refine Calls.mono (hChh.out _ (hRdh.out _ T4)) ?_
  rintro e w5 ⟨rfl, t5⟩
  go_wp2_with fail
  refine ⟨fun Z => Blk Z U.heap.size #[.int .i64 a0, .int .i64 a1, .int .i64 a2, .int .i64 a3, .int .i64 a4, .int .i64 a5, .int .i64 a6, .int .i64 a7, .slice A ra.length ca] 52, fun Z h => h, (B4.turns t5).p, ?_⟩
  have B5 := B4.turns t5
  have T5 := T4.trans t5
  clear B4 T4 t5
  refine flo_alone _ rfl ?_
  go_wp2_with fail
  go_at_call 31
  refine Calls.mono (hDChh.out _ (hRdh.out _ T5)) ?_
  rintro e w6 ⟨rfl, t6⟩
  go_wp2_with fail
  refine ⟨fun Z => Blk Z U.heap.size #[.int .i64 a0, .int .i64 a1, .int .i64 a2, .int .i64 a3, .int .i64 a4, .int .i64 a5, .int .i64 a6, .int .i64 a7, .slice A ra.length ca] 52, fun Z h => h, (B5.turns t6).p, ?_⟩
  have B6 := B5.turns t6
  have T6 := T5.trans t6
  clear B5 T5 t6
  have x0 : w6.cell? ⟨U.heap.size, 0, none⟩ = some (.int .i64 a0) := B6.p.cell 0
  have x1 : w6.cell? ⟨U.heap.size, 1, none⟩ = some (.int .i64 a1) := B6.p.cell 1
  have x2 : w6.cell? ⟨U.heap.size, 2, none⟩ = some (.int .i64 a2) := B6.p.cell 2
  have x3 : w6.cell? ⟨U.heap.size, 3, none⟩ = some (.int .i64 a3) := B6.p.cell 3
  have x4 : w6.cell? ⟨U.heap.size, 4, none⟩ = some (.int .i64 a4) := B6.p.cell 4
  have x5 : w6.cell? ⟨U.heap.size, 5, none⟩ = some (.int .i64 a5) := B6.p.cell 5
  have x6 : w6.cell? ⟨U.heap.size, 6, none⟩ = some (.int .i64 a6) := B6.p.cell 6
  have x7 : w6.cell? ⟨U.heap.size, 7, none⟩ = some (.int .i64 a7) := B6.p.cell 7
  have x8 : w6.cell? ⟨U.heap.size, 8, none⟩ = some (.slice A ra.length ca) := B6.p.cell 8
  refine flo_read _ rfl (fun K hK => ?_)
  go_simp
  first | (refine hK _ ?_) | (refine ⟨fun W hS => ?_, hK _ ?_⟩; · (have x0 : W.cell? ⟨U.heap.size, 0, none⟩ = some (.int .i64 a0) := hS.cell 0; have x1 : W.cell? ⟨U.heap.size, 1, none⟩ = some (.int .i64 a1) := hS.cell 1; have x2 : W.cell? ⟨U.heap.size, 2, none⟩ = some (.int .i64 a2) := hS.cell 2; have x3 : W.cell? ⟨U.heap.size, 3, none⟩ = some (.int .i64 a3) := hS.cell 3; have x4 : W.cell? ⟨U.heap.size, 4, none⟩ = some (.int .i64 a4) := hS.cell 4; have x5 : W.cell? ⟨U.heap.size, 5, none⟩ = some (.int .i64 a5) := hS.cell 5; have x6 : W.cell? ⟨U.heap.size, 6, none⟩ = some (.int .i64 a6) := hS.cell 6; have x7 : W.cell? ⟨U.heap.size, 7, none⟩ = some (.int .i64 a7) := hS.cell 7; have x8 : W.cell? ⟨U.heap.size, 8, none⟩ = some (.slice A ra.length ca) := hS.cell 8; try go_simp))
  clear hK K
  refine flo_read _ rfl (fun K hK => ?_)
  go_simp
  first | (refine hK _ ?_) | (refine ⟨fun W hS => ?_, hK _ ?_⟩; · (have x0 : W.cell? ⟨U.heap.size, 0, none⟩ = some (.int .i64 a0) := hS.cell 0; have x1 : W.cell? ⟨U.heap.size, 1, none⟩ = some (.int .i64 a1) := hS.cell 1; have x2 : W.cell? ⟨U.heap.size, 2, none⟩ = some (.int .i64 a2) := hS.cell 2; have x3 : W.cell? ⟨U.heap.size, 3, none⟩ = some (.int .i64 a3) := hS.cell 3; have x4 : W.cell? ⟨U.heap.size, 4, none⟩ = some (.int .i64 a4) := hS.cell 4; have x5 : W.cell? ⟨U.heap.size, 5, none⟩ = some (.int .i64 a5) := hS.cell 5; have x6 : W.cell? ⟨U.heap.size, 6, none⟩ = some (.int .i64 a6) := hS.cell 6; have x7 : W.cell? ⟨U.heap.size, 7, none⟩ = some (.int .i64 a7) := hS.cell 7; have x8 : W.cell? ⟨U.heap.size, 8, none⟩ = some (.slice A ra.length ca) := hS.cell 8; try go_simp))
  clear hK K
  refine flo_read _ rfl (fun K hK => ?_)
  go_simp
  first | (refine hK _ ?_) | (refine ⟨fun W hS => ?_, hK _ ?_⟩; · (have x0 : W.cell? ⟨U.heap.size, 0, none⟩ = some (.int .i64 a0) := hS.cell 0; have x1 : W.cell? ⟨U.heap.size, 1, none⟩ = some (.int .i64 a1) := hS.cell 1; have x2 : W.cell? ⟨U.heap.size, 2, none⟩ = some (.int .i64 a2) := hS.cell 2; have x3 : W.cell? ⟨U.heap.size, 3, none⟩ = some (.int .i64 a3) := hS.cell 3; have x4 : W.cell? ⟨U.heap.size, 4, none⟩ = some (.int .i64 a4) := hS.cell 4; have x5 : W.cell? ⟨U.heap.size, 5, none⟩ = some (.int .i64 a5) := hS.cell 5; have x6 : W.cell? ⟨U.heap.size, 6, none⟩ = some (.int .i64 a6) := hS.cell 6; have x7 : W.cell? ⟨U.heap.size, 7, none⟩ = some (.int .i64 a7) := hS.cell 7; have x8 : W.cell? ⟨U.heap.size, 8, none⟩ = some (.slice A ra.length ca) := hS.cell 8; try go_simp))
  clear hK K
  refine flo_read _ rfl (fun K hK => ?_)
  go_simp
  first | (refine hK _ ?_) | (refine ⟨fun W hS => ?_, hK _ ?_⟩; · (have x0 : W.cell? ⟨U.heap.size, 0, none⟩ = some (.int .i64 a0) := hS.cell 0; have x1 : W.cell? ⟨U.heap.size, 1, none⟩ = some (.int .i64 a1) := hS.cell 1; have x2 : W.cell? ⟨U.heap.size, 2, none⟩ = some (.int .i64 a2) := hS.cell 2; have x3 : W.cell? ⟨U.heap.size, 3, none⟩ = some (.int .i64 a3) := hS.cell 3; have x4 : W.cell? ⟨U.heap.size, 4, none⟩ = some (.int .i64 a4) := hS.cell 4; have x5 : W.cell? ⟨U.heap.size, 5, none⟩ = some (.int .i64 a5) := hS.cell 5; have x6 : W.cell? ⟨U.heap.size, 6, none⟩ = some (.int .i64 a6) := hS.cell 6; have x7 : W.cell? ⟨U.heap.size, 7, none⟩ = some (.int .i64 a7) := hS.cell 7; have x8 : W.cell? ⟨U.heap.size, 8, none⟩ = some (.slice A ra.length ca) := hS.cell 8; try go_simp))
  clear hK K
  clear x0 x1 x2 x3 x4 x5 x6 x7 x8
  refine flo_alone _ rfl ?_
  go_wp2_with fail
  go_at_call 32
  refine Calls.mono (hQuh.out _) ?_
  rintro e w7 ⟨rfl, t7⟩
  go_wp2_with fail
  refine ⟨fun Z => Blk Z U.heap.size #[.int .i64 a0, .int .i64 a1, .int .i64 a2, .int .i64 a3, .int .i64 a4, .int .i64 a5, .int .i64 a6, .int .i64 a7, .slice A ra.length ca] 52, fun Z h => h, (B6.turns t7).p, ?_⟩
  have B7 := B6.turns t7
  have T7 := T6.trans t7
  clear B6 T6 t7
  refine flo_alone _ rfl ?_
  go_wp2_with fail
  go_at_call 33
  refine Calls.mono (hDQuh.out _) ?_
  rintro e w8 ⟨rfl, t8⟩
  go_wp2_with fail
  refine ⟨fun Z => Blk Z U.heap.size #[.int .i64 a0, .int .i64 a1, .int .i64 a2, .int .i64 a3, .int .i64 a4, .int .i64 a5, .int .i64 a6, .int .i64 a7, .slice A ra.length ca] 52, fun Z h => h, (B7.turns t8).p, ?_⟩
  have B8 := B7.turns t8
  have T8 := T7.trans t8
  clear B7 T7 t8
  refine flo_read _ rfl (fun K hK => ?_)
  go_simp
  first | (refine hK _ ?_) | (refine ⟨fun W hS => ?_, hK _ ?_⟩; · (skip; try go_simp))
  clear hK K
  refine flo_read _ rfl (fun K hK => ?_)
  go_simp
  first | (refine hK _ ?_) | (refine ⟨fun W hS => ?_, hK _ ?_⟩; · (skip; try go_simp))
  clear hK K
  refine flo_read _ rfl (fun K hK => ?_)
  go_simp
  first | (refine hK _ ?_) | (refine ⟨fun W hS => ?_, hK _ ?_⟩; · (skip; try go_simp))
  clear hK K
  refine flo_end ?_
  have B9 := B8.turns ((Turns.refl [] w8).drew)
  have T9 := T8.drew
  go_wp2_with fail
  refine wp_region_flo [(0, false), (1, true), (2, true), (3, true), (4, true), (5, true), (6, true), (8, true), (9, true), (7, false), (10, false), (11, true), (12, true), (13, true), (14, true), (15, true), (16, false), (17, true), (18, true), (19, true), (21, true), (20, false), (22, false), (23, true), (24, true), (25, true)] (fun Z => Bs Z U.heap.size #[.int .i64 a0, .int .i64 a1, .int .i64 a2, .int .i64 a3, .int .i64 a4, .int .i64 a5, .int .i64 a6, .int .i64 a7, .slice A ra.length ca] #[.int .i64 b0, .int .i64 b1, .int .i64 b2, .int .i64 b3, .int .i64 b4, .int .i64 b5, .int .i64 b6, .int .i64 b7, .slice B rb.length cb]) (by kernel_rfl) rfl (by kernel_rfl) (by intro c d v a w h; cases d <;> first | (simpa [Exit.then, Exit.inBlock, Act.put] using h) | exact h) (B9) ?_
  clear B8 T8
  generalize w8.drew = w9 at *
  refine flo_alone _ rfl ?_
  go_wp2_with fail
  go_at_call 27
  refine Calls.mono (alive_any _) ?_
  rintro e w10 ⟨rfl, t10⟩
  go_wp2_with fail
  refine ⟨fun Z => Bs Z U.heap.size #[.int .i64 a0, .int .i64 a1, .int .i64 a2, .int .i64 a3, .int .i64 a4, .int .i64 a5, .int .i64 a6, .int .i64 a7, .slice A ra.length ca] #[.int .i64 b0, .int .i64 b1, .int .i64 b2, .int .i64 b3, .int .i64 b4, .int .i64 b5, .int .i64 b6, .int .i64 b7, .slice B rb.length cb], fun Z h => h, B9.turns t10, ?_⟩
  have B10 := B9.turns t10
  have T10 := T9.trans t10
  clear B9 T9 t10
  have x0 : w10.cell? ⟨U.heap.size, 0, none⟩ = some (.int .i64 a0) := B10.p.cell 0
  have x1 : w10.cell? ⟨U.heap.size, 1, none⟩ = some (.int .i64 a1) := B10.p.cell 1
  have x2 : w10.cell? ⟨U.heap.size, 2, none⟩ = some (.int .i64 a2) := B10.p.cell 2
  have x3 : w10.cell? ⟨U.heap.size, 3, none⟩ = some (.int .i64 a3) := B10.p.cell 3
  have x4 : w10.cell? ⟨U.heap.size, 4, none⟩ = some (.int .i64 a4) := B10.p.cell 4
  have x5 : w10.cell? ⟨U.heap.size, 5, none⟩ = some (.int .i64 a5) := B10.p.cell 5
  have x6 : w10.cell? ⟨U.heap.size, 6, none⟩ = some (.int .i64 a6) := B10.p.cell 6
  have x7 : w10.cell? ⟨U.heap.size, 7, none⟩ = some (.int .i64 a7) := B10.p.cell 7
  have x8 : w10.cell? ⟨U.heap.size, 8, none⟩ = some (.slice A ra.length ca) := B10.p.cell 8
  have y0 : w10.cell? ⟨U.heap.size + 1, 0, none⟩ = some (.int .i64 b0) := B10.q.cell 0
  have y1 : w10.cell? ⟨U.heap.size + 1, 1, none⟩ = some (.int .i64 b1) := B10.q.cell 1
  have y2 : w10.cell? ⟨U.heap.size + 1, 2, none⟩ = some (.int .i64 b2) := B10.q.cell 2
  have y3 : w10.cell? ⟨U.heap.size + 1, 3, none⟩ = some (.int .i64 b3) := B10.q.cell 3
  have y4 : w10.cell? ⟨U.heap.size + 1, 4, none⟩ = some (.int .i64 b4) := B10.q.cell 4
  have y5 : w10.cell? ⟨U.heap.size + 1, 5, none⟩ = some (.int .i64 b5) := B10.q.cell 5
  have y6 : w10.cell? ⟨U.heap.size + 1, 6, none⟩ = some (.int .i64 b6) := B10.q.cell 6
  have y7 : w10.cell? ⟨U.heap.size + 1, 7, none⟩ = some (.int .i64 b7) := B10.q.cell 7
  have y8 : w10.cell? ⟨U.heap.size + 1, 8, none⟩ = some (.slice B rb.length cb) := B10.q.cell 8
  refine flo_read _ rfl (fun K hK => ?_)
  go_simp
  first | (refine hK _ ?_) | (refine ⟨fun W hS => ?_, hK _ ?_⟩; · (have x0 : W.cell? ⟨U.heap.size, 0, none⟩ = some (.int .i64 a0) := hS.p.cell 0; have x1 : W.cell? ⟨U.heap.size, 1, none⟩ = some (.int .i64 a1) := hS.p.cell 1; have x2 : W.cell? ⟨U.heap.size, 2, none⟩ = some (.int .i64 a2) := hS.p.cell 2; have x3 : W.cell? ⟨U.heap.size, 3, none⟩ = some (.int .i64 a3) := hS.p.cell 3; have x4 : W.cell? ⟨U.heap.size, 4, none⟩ = some (.int .i64 a4) := hS.p.cell 4; have x5 : W.cell? ⟨U.heap.size, 5, none⟩ = some (.int .i64 a5) := hS.p.cell 5; have x6 : W.cell? ⟨U.heap.size, 6, none⟩ = some (.int .i64 a6) := hS.p.cell 6; have x7 : W.cell? ⟨U.heap.size, 7, none⟩ = some (.int .i64 a7) := hS.p.cell 7; have x8 : W.cell? ⟨U.heap.size, 8, none⟩ = some (.slice A ra.length ca) := hS.p.cell 8; have y0 : W.cell? ⟨U.heap.size + 1, 0, none⟩ = some (.int .i64 b0) := hS.q.cell 0; have y1 : W.cell? ⟨U.heap.size + 1, 1, none⟩ = some (.int .i64 b1) := hS.q.cell 1; have y2 : W.cell? ⟨U.heap.size + 1, 2, none⟩ = some (.int .i64 b2) := hS.q.cell 2; have y3 : W.cell? ⟨U.heap.size + 1, 3, none⟩ = some (.int .i64 b3) := hS.q.cell 3; have y4 : W.cell? ⟨U.heap.size + 1, 4, none⟩ = some (.int .i64 b4) := hS.q.cell 4; have y5 : W.cell? ⟨U.heap.size + 1, 5, none⟩ = some (.int .i64 b5) := hS.q.cell 5; have y6 : W.cell? ⟨U.heap.size + 1, 6, none⟩ = some (.int .i64 b6) := hS.q.cell 6; have y7 : W.cell? ⟨U.heap.size + 1, 7, none⟩ = some (.int .i64 b7) := hS.q.cell 7; have y8 : W.cell? ⟨U.heap.size + 1, 8, none⟩ = some (.slice B rb.length cb) := hS.q.cell 8; try go_simp))
  clear hK K
  refine flo_read _ rfl (fun K hK => ?_)
  go_simp
  first | (refine hK _ ?_) | (refine ⟨fun W hS => ?_, hK _ ?_⟩; · (have x0 : W.cell? ⟨U.heap.size, 0, none⟩ = some (.int .i64 a0) := hS.p.cell 0; have x1 : W.cell? ⟨U.heap.size, 1, none⟩ = some (.int .i64 a1) := hS.p.cell 1; have x2 : W.cell? ⟨U.heap.size, 2, none⟩ = some (.int .i64 a2) := hS.p.cell 2; have x3 : W.cell? ⟨U.heap.size, 3, none⟩ = some (.int .i64 a3) := hS.p.cell 3; have x4 : W.cell? ⟨U.heap.size, 4, none⟩ = some (.int .i64 a4) := hS.p.cell 4; have x5 : W.cell? ⟨U.heap.size, 5, none⟩ = some (.int .i64 a5) := hS.p.cell 5; have x6 : W.cell? ⟨U.heap.size, 6, none⟩ = some (.int .i64 a6) := hS.p.cell 6; have x7 : W.cell? ⟨U.heap.size, 7, none⟩ = some (.int .i64 a7) := hS.p.cell 7; have x8 : W.cell? ⟨U.heap.size, 8, none⟩ = some (.slice A ra.length ca) := hS.p.cell 8; have y0 : W.cell? ⟨U.heap.size + 1, 0, none⟩ = some (.int .i64 b0) := hS.q.cell 0; have y1 : W.cell? ⟨U.heap.size + 1, 1, none⟩ = some (.int .i64 b1) := hS.q.cell 1; have y2 : W.cell? ⟨U.heap.size + 1, 2, none⟩ = some (.int .i64 b2) := hS.q.cell 2; have y3 : W.cell? ⟨U.heap.size + 1, 3, none⟩ = some (.int .i64 b3) := hS.q.cell 3; have y4 : W.cell? ⟨U.heap.size + 1, 4, none⟩ = some (.int .i64 b4) := hS.q.cell 4; have y5 : W.cell? ⟨U.heap.size + 1, 5, none⟩ = some (.int .i64 b5) := hS.q.cell 5; have y6 : W.cell? ⟨U.heap.size + 1, 6, none⟩ = some (.int .i64 b6) := hS.q.cell 6; have y7 : W.cell? ⟨U.heap.size + 1, 7, none⟩ = some (.int .i64 b7) := hS.q.cell 7; have y8 : W.cell? ⟨U.heap.size + 1, 8, none⟩ = some (.slice B rb.length cb) := hS.q.cell 8; try go_simp))
  clear hK K
  refine flo_read _ rfl (fun K hK => ?_)
  go_simp
  first | (refine hK _ ?_) | (refine ⟨fun W hS => ?_, hK _ ?_⟩; · (have x0 : W.cell? ⟨U.heap.size, 0, none⟩ = some (.int .i64 a0) := hS.p.cell 0; have x1 : W.cell? ⟨U.heap.size, 1, none⟩ = some (.int .i64 a1) := hS.p.cell 1; have x2 : W.cell? ⟨U.heap.size, 2, none⟩ = some (.int .i64 a2) := hS.p.cell 2; have x3 : W.cell? ⟨U.heap.size, 3, none⟩ = some (.int .i64 a3) := hS.p.cell 3; have x4 : W.cell? ⟨U.heap.size, 4, none⟩ = some (.int .i64 a4) := hS.p.cell 4; have x5 : W.cell? ⟨U.heap.size, 5, none⟩ = some (.int .i64 a5) := hS.p.cell 5; have x6 : W.cell? ⟨U.heap.size, 6, none⟩ = some (.int .i64 a6) := hS.p.cell 6; have x7 : W.cell? ⟨U.heap.size, 7, none⟩ = some (.int .i64 a7) := hS.p.cell 7; have x8 : W.cell? ⟨U.heap.size, 8, none⟩ = some (.slice A ra.length ca) := hS.p.cell 8; have y0 : W.cell? ⟨U.heap.size + 1, 0, none⟩ = some (.int .i64 b0) := hS.q.cell 0; have y1 : W.cell? ⟨U.heap.size + 1, 1, none⟩ = some (.int .i64 b1) := hS.q.cell 1; have y2 : W.cell? ⟨U.heap.size + 1, 2, none⟩ = some (.int .i64 b2) := hS.q.cell 2; have y3 : W.cell? ⟨U.heap.size + 1, 3, none⟩ = some (.int .i64 b3) := hS.q.cell 3; have y4 : W.cell? ⟨U.heap.size + 1, 4, none⟩ = some (.int .i64 b4) := hS.q.cell 4; have y5 : W.cell? ⟨U.heap.size + 1, 5, none⟩ = some (.int .i64 b5) := hS.q.cell 5; have y6 : W.cell? ⟨U.heap.size + 1, 6, none⟩ = some (.int .i64 b6) := hS.q.cell 6; have y7 : W.cell? ⟨U.heap.size + 1, 7, none⟩ = some (.int .i64 b7) := hS.q.cell 7; have y8 : W.cell? ⟨U.heap.size + 1, 8, none⟩ = some (.slice B rb.length cb) := hS.q.cell 8; try go_simp))
  clear hK K
  refine flo_read _ rfl (fun K hK => ?_)
  go_simp
  first | (refine hK _ ?_) | (refine ⟨fun W hS => ?_, hK _ ?_⟩; · (have x0 : W.cell? ⟨U.heap.size, 0, none⟩ = some (.int .i64 a0) := hS.p.cell 0; have x1 : W.cell? ⟨U.heap.size, 1, none⟩ = some (.int .i64 a1) := hS.p.cell 1; have x2 : W.cell? ⟨U.heap.size, 2, none⟩ = some (.int .i64 a2) := hS.p.cell 2; have x3 : W.cell? ⟨U.heap.size, 3, none⟩ = some (.int .i64 a3) := hS.p.cell 3; have x4 : W.cell? ⟨U.heap.size, 4, none⟩ = some (.int .i64 a4) := hS.p.cell 4; have x5 : W.cell? ⟨U.heap.size, 5, none⟩ = some (.int .i64 a5) := hS.p.cell 5; have x6 : W.cell? ⟨U.heap.size, 6, none⟩ = some (.int .i64 a6) := hS.p.cell 6; have x7 : W.cell? ⟨U.heap.size, 7, none⟩ = some (.int .i64 a7) := hS.p.cell 7; have x8 : W.cell? ⟨U.heap.size, 8, none⟩ = some (.slice A ra.length ca) := hS.p.cell 8; have y0 : W.cell? ⟨U.heap.size + 1, 0, none⟩ = some (.int .i64 b0) := hS.q.cell 0; have y1 : W.cell? ⟨U.heap.size + 1, 1, none⟩ = some (.int .i64 b1) := hS.q.cell 1; have y2 : W.cell? ⟨U.heap.size + 1, 2, none⟩ = some (.int .i64 b2) := hS.q.cell 2; have y3 : W.cell? ⟨U.heap.size + 1, 3, none⟩ = some (.int .i64 b3) := hS.q.cell 3; have y4 : W.cell? ⟨U.heap.size + 1, 4, none⟩ = some (.int .i64 b4) := hS.q.cell 4; have y5 : W.cell? ⟨U.heap.size + 1, 5, none⟩ = some (.int .i64 b5) := hS.q.cell 5; have y6 : W.cell? ⟨U.heap.size + 1, 6, none⟩ = some (.int .i64 b6) := hS.q.cell 6; have y7 : W.cell? ⟨U.heap.size + 1, 7, none⟩ = some (.int .i64 b7) := hS.q.cell 7; have y8 : W.cell? ⟨U.heap.size + 1, 8, none⟩ = some (.slice B rb.length cb) := hS.q.cell 8; try go_simp))
  clear hK K
  refine flo_read _ rfl (fun K hK => ?_)
  go_simp
  first | (refine hK _ ?_) | (refine ⟨fun W hS => ?_, hK _ ?_⟩; · (have x0 : W.cell? ⟨U.heap.size, 0, none⟩ = some (.int .i64 a0) := hS.p.cell 0; have x1 : W.cell? ⟨U.heap.size, 1, none⟩ = some (.int .i64 a1) := hS.p.cell 1; have x2 : W.cell? ⟨U.heap.size, 2, none⟩ = some (.int .i64 a2) := hS.p.cell 2; have x3 : W.cell? ⟨U.heap.size, 3, none⟩ = some (.int .i64 a3) := hS.p.cell 3; have x4 : W.cell? ⟨U.heap.size, 4, none⟩ = some (.int .i64 a4) := hS.p.cell 4; have x5 : W.cell? ⟨U.heap.size, 5, none⟩ = some (.int .i64 a5) := hS.p.cell 5; have x6 : W.cell? ⟨U.heap.size, 6, none⟩ = some (.int .i64 a6) := hS.p.cell 6; have x7 : W.cell? ⟨U.heap.size, 7, none⟩ = some (.int .i64 a7) := hS.p.cell 7; have x8 : W.cell? ⟨U.heap.size, 8, none⟩ = some (.slice A ra.length ca) := hS.p.cell 8; have y0 : W.cell? ⟨U.heap.size + 1, 0, none⟩ = some (.int .i64 b0) := hS.q.cell 0; have y1 : W.cell? ⟨U.heap.size + 1, 1, none⟩ = some (.int .i64 b1) := hS.q.cell 1; have y2 : W.cell? ⟨U.heap.size + 1, 2, none⟩ = some (.int .i64 b2) := hS.q.cell 2; have y3 : W.cell? ⟨U.heap.size + 1, 3, none⟩ = some (.int .i64 b3) := hS.q.cell 3; have y4 : W.cell? ⟨U.heap.size + 1, 4, none⟩ = some (.int .i64 b4) := hS.q.cell 4; have y5 : W.cell? ⟨U.heap.size + 1, 5, none⟩ = some (.int .i64 b5) := hS.q.cell 5; have y6 : W.cell? ⟨U.heap.size + 1, 6, none⟩ = some (.int .i64 b6) := hS.q.cell 6; have y7 : W.cell? ⟨U.heap.size + 1, 7, none⟩ = some (.int .i64 b7) := hS.q.cell 7; have y8 : W.cell? ⟨U.heap.size + 1, 8, none⟩ = some (.slice B rb.length cb) := hS.q.cell 8; try go_simp))
  clear hK K
  refine flo_read _ rfl (fun K hK => ?_)
  go_simp
  first | (refine hK _ ?_) | (refine ⟨fun W hS => ?_, hK _ ?_⟩; · (have x0 : W.cell? ⟨U.heap.size, 0, none⟩ = some (.int .i64 a0) := hS.p.cell 0; have x1 : W.cell? ⟨U.heap.size, 1, none⟩ = some (.int .i64 a1) := hS.p.cell 1; have x2 : W.cell? ⟨U.heap.size, 2, none⟩ = some (.int .i64 a2) := hS.p.cell 2; have x3 : W.cell? ⟨U.heap.size, 3, none⟩ = some (.int .i64 a3) := hS.p.cell 3; have x4 : W.cell? ⟨U.heap.size, 4, none⟩ = some (.int .i64 a4) := hS.p.cell 4; have x5 : W.cell? ⟨U.heap.size, 5, none⟩ = some (.int .i64 a5) := hS.p.cell 5; have x6 : W.cell? ⟨U.heap.size, 6, none⟩ = some (.int .i64 a6) := hS.p.cell 6; have x7 : W.cell? ⟨U.heap.size, 7, none⟩ = some (.int .i64 a7) := hS.p.cell 7; have x8 : W.cell? ⟨U.heap.size, 8, none⟩ = some (.slice A ra.length ca) := hS.p.cell 8; have y0 : W.cell? ⟨U.heap.size + 1, 0, none⟩ = some (.int .i64 b0) := hS.q.cell 0; have y1 : W.cell? ⟨U.heap.size + 1, 1, none⟩ = some (.int .i64 b1) := hS.q.cell 1; have y2 : W.cell? ⟨U.heap.size + 1, 2, none⟩ = some (.int .i64 b2) := hS.q.cell 2; have y3 : W.cell? ⟨U.heap.size + 1, 3, none⟩ = some (.int .i64 b3) := hS.q.cell 3; have y4 : W.cell? ⟨U.heap.size + 1, 4, none⟩ = some (.int .i64 b4) := hS.q.cell 4; have y5 : W.cell? ⟨U.heap.size + 1, 5, none⟩ = some (.int .i64 b5) := hS.q.cell 5; have y6 : W.cell? ⟨U.heap.size + 1, 6, none⟩ = some (.int .i64 b6) := hS.q.cell 6; have y7 : W.cell? ⟨U.heap.size + 1, 7, none⟩ = some (.int .i64 b7) := hS.q.cell 7; have y8 : W.cell? ⟨U.heap.size + 1, 8, none⟩ = some (.slice B rb.length cb) := hS.q.cell 8; try go_simp))
  clear hK K
  refine flo_read _ rfl (fun K hK => ?_)
  go_simp
  first | (refine hK _ ?_) | (refine ⟨fun W hS => ?_, hK _ ?_⟩; · (have x0 : W.cell? ⟨U.heap.size, 0, none⟩ = some (.int .i64 a0) := hS.p.cell 0; have x1 : W.cell? ⟨U.heap.size, 1, none⟩ = some (.int .i64 a1) := hS.p.cell 1; have x2 : W.cell? ⟨U.heap.size, 2, none⟩ = some (.int .i64 a2) := hS.p.cell 2; have x3 : W.cell? ⟨U.heap.size, 3, none⟩ = some (.int .i64 a3) := hS.p.cell 3; have x4 : W.cell? ⟨U.heap.size, 4, none⟩ = some (.int .i64 a4) := hS.p.cell 4; have x5 : W.cell? ⟨U.heap.size, 5, none⟩ = some (.int .i64 a5) := hS.p.cell 5; have x6 : W.cell? ⟨U.heap.size, 6, none⟩ = some (.int .i64 a6) := hS.p.cell 6; have x7 : W.cell? ⟨U.heap.size, 7, none⟩ = some (.int .i64 a7) := hS.p.cell 7; have x8 : W.cell? ⟨U.heap.size, 8, none⟩ = some (.slice A ra.length ca) := hS.p.cell 8; have y0 : W.cell? ⟨U.heap.size + 1, 0, none⟩ = some (.int .i64 b0) := hS.q.cell 0; have y1 : W.cell? ⟨U.heap.size + 1, 1, none⟩ = some (.int .i64 b1) := hS.q.cell 1; have y2 : W.cell? ⟨U.heap.size + 1, 2, none⟩ = some (.int .i64 b2) := hS.q.cell 2; have y3 : W.cell? ⟨U.heap.size + 1, 3, none⟩ = some (.int .i64 b3) := hS.q.cell 3; have y4 : W.cell? ⟨U.heap.size + 1, 4, none⟩ = some (.int .i64 b4) := hS.q.cell 4; have y5 : W.cell? ⟨U.heap.size + 1, 5, none⟩ = some (.int .i64 b5) := hS.q.cell 5; have y6 : W.cell? ⟨U.heap.size + 1, 6, none⟩ = some (.int .i64 b6) := hS.q.cell 6; have y7 : W.cell? ⟨U.heap.size + 1, 7, none⟩ = some (.int .i64 b7) := hS.q.cell 7; have y8 : W.cell? ⟨U.heap.size + 1, 8, none⟩ = some (.slice B rb.length cb) := hS.q.cell 8; try go_simp))
  clear hK K
  refine flo_read _ rfl (fun K hK => ?_)
  go_simp
  first | (refine hK _ ?_) | (refine ⟨fun W hS => ?_, hK _ ?_⟩; · (have x0 : W.cell? ⟨U.heap.size, 0, none⟩ = some (.int .i64 a0) := hS.p.cell 0; have x1 : W.cell? ⟨U.heap.size, 1, none⟩ = some (.int .i64 a1) := hS.p.cell 1; have x2 : W.cell? ⟨U.heap.size, 2, none⟩ = some (.int .i64 a2) := hS.p.cell 2; have x3 : W.cell? ⟨U.heap.size, 3, none⟩ = some (.int .i64 a3) := hS.p.cell 3; have x4 : W.cell? ⟨U.heap.size, 4, none⟩ = some (.int .i64 a4) := hS.p.cell 4; have x5 : W.cell? ⟨U.heap.size, 5, none⟩ = some (.int .i64 a5) := hS.p.cell 5; have x6 : W.cell? ⟨U.heap.size, 6, none⟩ = some (.int .i64 a6) := hS.p.cell 6; have x7 : W.cell? ⟨U.heap.size, 7, none⟩ = some (.int .i64 a7) := hS.p.cell 7; have x8 : W.cell? ⟨U.heap.size, 8, none⟩ = some (.slice A ra.length ca) := hS.p.cell 8; have y0 : W.cell? ⟨U.heap.size + 1, 0, none⟩ = some (.int .i64 b0) := hS.q.cell 0; have y1 : W.cell? ⟨U.heap.size + 1, 1, none⟩ = some (.int .i64 b1) := hS.q.cell 1; have y2 : W.cell? ⟨U.heap.size + 1, 2, none⟩ = some (.int .i64 b2) := hS.q.cell 2; have y3 : W.cell? ⟨U.heap.size + 1, 3, none⟩ = some (.int .i64 b3) := hS.q.cell 3; have y4 : W.cell? ⟨U.heap.size + 1, 4, none⟩ = some (.int .i64 b4) := hS.q.cell 4; have y5 : W.cell? ⟨U.heap.size + 1, 5, none⟩ = some (.int .i64 b5) := hS.q.cell 5; have y6 : W.cell? ⟨U.heap.size + 1, 6, none⟩ = some (.int .i64 b6) := hS.q.cell 6; have y7 : W.cell? ⟨U.heap.size + 1, 7, none⟩ = some (.int .i64 b7) := hS.q.cell 7; have y8 : W.cell? ⟨U.heap.size + 1, 8, none⟩ = some (.slice B rb.length cb) := hS.q.cell 8; try go_simp))
  clear hK K
  clear x0 x1 x2 x3 x4 x5 x6 x7 x8 y0 y1 y2 y3 y4 y5 y6 y7 y8
  refine flo_alone _ rfl ?_
  go_wp2_with fail
  go_at_call 34
  refine Calls.mono (hSameh.out _ (hRdh.out _ T10) (hRdbh.out _ T10)) ?_
  rintro e w11 ⟨rfl, t11⟩
  go_wp2_with fail
  refine ⟨fun Z => Bs Z U.heap.size #[.int .i64 a0, .int .i64 a1, .int .i64 a2, .int .i64 a3, .int .i64 a4, .int .i64 a5, .int .i64 a6, .int .i64 a7, .slice A ra.length ca] #[.int .i64 b0, .int .i64 b1, .int .i64 b2, .int .i64 b3, .int .i64 b4, .int .i64 b5, .int .i64 b6, .int .i64 b7, .slice B rb.length cb], fun Z h => h, B10.turns t11, ?_⟩
  have B11 := B10.turns t11
  have T11 := T10.trans t11
  clear B10 T10 t11
  refine flo_alone _ rfl ?_
  go_wp2_with fail
  go_at_call 35
  refine Calls.mono (hDSameh.out _ (hRdh.out _ T11) (hRdbh.out _ T11)) ?_
  rintro e w12 ⟨rfl, t12⟩
  go_wp2_with fail
  refine ⟨fun Z => Bs Z U.heap.size #[.int .i64 a0, .int .i64 a1, .int .i64 a2, .int .i64 a3, .int .i64 a4, .int .i64 a5, .int .i64 a6, .int .i64 a7, .slice A ra.length ca] #[.int .i64 b0, .int .i64 b1, .int .i64 b2, .int .i64 b3, .int .i64 b4, .int .i64 b5, .int .i64 b6, .int .i64 b7, .slice B rb.length cb], fun Z h => h, B11.turns t12, ?_⟩
  have B12 := B11.turns t12
  have T12 := T11.trans t12
  clear B11 T11 t12
  have x0 : w12.cell? ⟨U.heap.size, 0, none⟩ = some (.int .i64 a0) := B12.p.cell 0
  have x1 : w12.cell? ⟨U.heap.size, 1, none⟩ = some (.int .i64 a1) := B12.p.cell 1
  have x2 : w12.cell? ⟨U.heap.size, 2, none⟩ = some (.int .i64 a2) := B12.p.cell 2
  have x3 : w12.cell? ⟨U.heap.size, 3, none⟩ = some (.int .i64 a3) := B12.p.cell 3
  have x4 : w12.cell? ⟨U.heap.size, 4, none⟩ = some (.int .i64 a4) := B12.p.cell 4
  have x5 : w12.cell? ⟨U.heap.size, 5, none⟩ = some (.int .i64 a5) := B12.p.cell 5
  have x6 : w12.cell? ⟨U.heap.size, 6, none⟩ = some (.int .i64 a6) := B12.p.cell 6
  have x7 : w12.cell? ⟨U.heap.size, 7, none⟩ = some (.int .i64 a7) := B12.p.cell 7
  have x8 : w12.cell? ⟨U.heap.size, 8, none⟩ = some (.slice A ra.length ca) := B12.p.cell 8
  have y0 : w12.cell? ⟨U.heap.size + 1, 0, none⟩ = some (.int .i64 b0) := B12.q.cell 0
  have y1 : w12.cell? ⟨U.heap.size + 1, 1, none⟩ = some (.int .i64 b1) := B12.q.cell 1
  have y2 : w12.cell? ⟨U.heap.size + 1, 2, none⟩ = some (.int .i64 b2) := B12.q.cell 2
  have y3 : w12.cell? ⟨U.heap.size + 1, 3, none⟩ = some (.int .i64 b3) := B12.q.cell 3
  have y4 : w12.cell? ⟨U.heap.size + 1, 4, none⟩ = some (.int .i64 b4) := B12.q.cell 4
  have y5 : w12.cell? ⟨U.heap.size + 1, 5, none⟩ = some (.int .i64 b5) := B12.q.cell 5
  have y6 : w12.cell? ⟨U.heap.size + 1, 6, none⟩ = some (.int .i64 b6) := B12.q.cell 6
  have y7 : w12.cell? ⟨U.heap.size + 1, 7, none⟩ = some (.int .i64 b7) := B12.q.cell 7
  have y8 : w12.cell? ⟨U.heap.size + 1, 8, none⟩ = some (.slice B rb.length cb) := B12.q.cell 8
  refine flo_read _ rfl (fun K hK => ?_)
  go_simp
  first | (refine hK _ ?_) | (refine ⟨fun W hS => ?_, hK _ ?_⟩; · (have x0 : W.cell? ⟨U.heap.size, 0, none⟩ = some (.int .i64 a0) := hS.p.cell 0; have x1 : W.cell? ⟨U.heap.size, 1, none⟩ = some (.int .i64 a1) := hS.p.cell 1; have x2 : W.cell? ⟨U.heap.size, 2, none⟩ = some (.int .i64 a2) := hS.p.cell 2; have x3 : W.cell? ⟨U.heap.size, 3, none⟩ = some (.int .i64 a3) := hS.p.cell 3; have x4 : W.cell? ⟨U.heap.size, 4, none⟩ = some (.int .i64 a4) := hS.p.cell 4; have x5 : W.cell? ⟨U.heap.size, 5, none⟩ = some (.int .i64 a5) := hS.p.cell 5; have x6 : W.cell? ⟨U.heap.size, 6, none⟩ = some (.int .i64 a6) := hS.p.cell 6; have x7 : W.cell? ⟨U.heap.size, 7, none⟩ = some (.int .i64 a7) := hS.p.cell 7; have x8 : W.cell? ⟨U.heap.size, 8, none⟩ = some (.slice A ra.length ca) := hS.p.cell 8; have y0 : W.cell? ⟨U.heap.size + 1, 0, none⟩ = some (.int .i64 b0) := hS.q.cell 0; have y1 : W.cell? ⟨U.heap.size + 1, 1, none⟩ = some (.int .i64 b1) := hS.q.cell 1; have y2 : W.cell? ⟨U.heap.size + 1, 2, none⟩ = some (.int .i64 b2) := hS.q.cell 2; have y3 : W.cell? ⟨U.heap.size + 1, 3, none⟩ = some (.int .i64 b3) := hS.q.cell 3; have y4 : W.cell? ⟨U.heap.size + 1, 4, none⟩ = some (.int .i64 b4) := hS.q.cell 4; have y5 : W.cell? ⟨U.heap.size + 1, 5, none⟩ = some (.int .i64 b5) := hS.q.cell 5; have y6 : W.cell? ⟨U.heap.size + 1, 6, none⟩ = some (.int .i64 b6) := hS.q.cell 6; have y7 : W.cell? ⟨U.heap.size + 1, 7, none⟩ = some (.int .i64 b7) := hS.q.cell 7; have y8 : W.cell? ⟨U.heap.size + 1, 8, none⟩ = some (.slice B rb.length cb) := hS.q.cell 8; try go_simp))
  clear hK K
  refine flo_read _ rfl (fun K hK => ?_)
  go_simp
  first | (refine hK _ ?_) | (refine ⟨fun W hS => ?_, hK _ ?_⟩; · (have x0 : W.cell? ⟨U.heap.size, 0, none⟩ = some (.int .i64 a0) := hS.p.cell 0; have x1 : W.cell? ⟨U.heap.size, 1, none⟩ = some (.int .i64 a1) := hS.p.cell 1; have x2 : W.cell? ⟨U.heap.size, 2, none⟩ = some (.int .i64 a2) := hS.p.cell 2; have x3 : W.cell? ⟨U.heap.size, 3, none⟩ = some (.int .i64 a3) := hS.p.cell 3; have x4 : W.cell? ⟨U.heap.size, 4, none⟩ = some (.int .i64 a4) := hS.p.cell 4; have x5 : W.cell? ⟨U.heap.size, 5, none⟩ = some (.int .i64 a5) := hS.p.cell 5; have x6 : W.cell? ⟨U.heap.size, 6, none⟩ = some (.int .i64 a6) := hS.p.cell 6; have x7 : W.cell? ⟨U.heap.size, 7, none⟩ = some (.int .i64 a7) := hS.p.cell 7; have x8 : W.cell? ⟨U.heap.size, 8, none⟩ = some (.slice A ra.length ca) := hS.p.cell 8; have y0 : W.cell? ⟨U.heap.size + 1, 0, none⟩ = some (.int .i64 b0) := hS.q.cell 0; have y1 : W.cell? ⟨U.heap.size + 1, 1, none⟩ = some (.int .i64 b1) := hS.q.cell 1; have y2 : W.cell? ⟨U.heap.size + 1, 2, none⟩ = some (.int .i64 b2) := hS.q.cell 2; have y3 : W.cell? ⟨U.heap.size + 1, 3, none⟩ = some (.int .i64 b3) := hS.q.cell 3; have y4 : W.cell? ⟨U.heap.size + 1, 4, none⟩ = some (.int .i64 b4) := hS.q.cell 4; have y5 : W.cell? ⟨U.heap.size + 1, 5, none⟩ = some (.int .i64 b5) := hS.q.cell 5; have y6 : W.cell? ⟨U.heap.size + 1, 6, none⟩ = some (.int .i64 b6) := hS.q.cell 6; have y7 : W.cell? ⟨U.heap.size + 1, 7, none⟩ = some (.int .i64 b7) := hS.q.cell 7; have y8 : W.cell? ⟨U.heap.size + 1, 8, none⟩ = some (.slice B rb.length cb) := hS.q.cell 8; try go_simp))
  clear hK K
  refine flo_read _ rfl (fun K hK => ?_)
  go_simp
  first | (refine hK _ ?_) | (refine ⟨fun W hS => ?_, hK _ ?_⟩; · (have x0 : W.cell? ⟨U.heap.size, 0, none⟩ = some (.int .i64 a0) := hS.p.cell 0; have x1 : W.cell? ⟨U.heap.size, 1, none⟩ = some (.int .i64 a1) := hS.p.cell 1; have x2 : W.cell? ⟨U.heap.size, 2, none⟩ = some (.int .i64 a2) := hS.p.cell 2; have x3 : W.cell? ⟨U.heap.size, 3, none⟩ = some (.int .i64 a3) := hS.p.cell 3; have x4 : W.cell? ⟨U.heap.size, 4, none⟩ = some (.int .i64 a4) := hS.p.cell 4; have x5 : W.cell? ⟨U.heap.size, 5, none⟩ = some (.int .i64 a5) := hS.p.cell 5; have x6 : W.cell? ⟨U.heap.size, 6, none⟩ = some (.int .i64 a6) := hS.p.cell 6; have x7 : W.cell? ⟨U.heap.size, 7, none⟩ = some (.int .i64 a7) := hS.p.cell 7; have x8 : W.cell? ⟨U.heap.size, 8, none⟩ = some (.slice A ra.length ca) := hS.p.cell 8; have y0 : W.cell? ⟨U.heap.size + 1, 0, none⟩ = some (.int .i64 b0) := hS.q.cell 0; have y1 : W.cell? ⟨U.heap.size + 1, 1, none⟩ = some (.int .i64 b1) := hS.q.cell 1; have y2 : W.cell? ⟨U.heap.size + 1, 2, none⟩ = some (.int .i64 b2) := hS.q.cell 2; have y3 : W.cell? ⟨U.heap.size + 1, 3, none⟩ = some (.int .i64 b3) := hS.q.cell 3; have y4 : W.cell? ⟨U.heap.size + 1, 4, none⟩ = some (.int .i64 b4) := hS.q.cell 4; have y5 : W.cell? ⟨U.heap.size + 1, 5, none⟩ = some (.int .i64 b5) := hS.q.cell 5; have y6 : W.cell? ⟨U.heap.size + 1, 6, none⟩ = some (.int .i64 b6) := hS.q.cell 6; have y7 : W.cell? ⟨U.heap.size + 1, 7, none⟩ = some (.int .i64 b7) := hS.q.cell 7; have y8 : W.cell? ⟨U.heap.size + 1, 8, none⟩ = some (.slice B rb.length cb) := hS.q.cell 8; try go_simp))
  clear hK K
  refine flo_read _ rfl (fun K hK => ?_)
  go_simp
  first | (refine hK _ ?_) | (refine ⟨fun W hS => ?_, hK _ ?_⟩; · (have x0 : W.cell? ⟨U.heap.size, 0, none⟩ = some (.int .i64 a0) := hS.p.cell 0; have x1 : W.cell? ⟨U.heap.size, 1, none⟩ = some (.int .i64 a1) := hS.p.cell 1; have x2 : W.cell? ⟨U.heap.size, 2, none⟩ = some (.int .i64 a2) := hS.p.cell 2; have x3 : W.cell? ⟨U.heap.size, 3, none⟩ = some (.int .i64 a3) := hS.p.cell 3; have x4 : W.cell? ⟨U.heap.size, 4, none⟩ = some (.int .i64 a4) := hS.p.cell 4; have x5 : W.cell? ⟨U.heap.size, 5, none⟩ = some (.int .i64 a5) := hS.p.cell 5; have x6 : W.cell? ⟨U.heap.size, 6, none⟩ = some (.int .i64 a6) := hS.p.cell 6; have x7 : W.cell? ⟨U.heap.size, 7, none⟩ = some (.int .i64 a7) := hS.p.cell 7; have x8 : W.cell? ⟨U.heap.size, 8, none⟩ = some (.slice A ra.length ca) := hS.p.cell 8; have y0 : W.cell? ⟨U.heap.size + 1, 0, none⟩ = some (.int .i64 b0) := hS.q.cell 0; have y1 : W.cell? ⟨U.heap.size + 1, 1, none⟩ = some (.int .i64 b1) := hS.q.cell 1; have y2 : W.cell? ⟨U.heap.size + 1, 2, none⟩ = some (.int .i64 b2) := hS.q.cell 2; have y3 : W.cell? ⟨U.heap.size + 1, 3, none⟩ = some (.int .i64 b3) := hS.q.cell 3; have y4 : W.cell? ⟨U.heap.size + 1, 4, none⟩ = some (.int .i64 b4) := hS.q.cell 4; have y5 : W.cell? ⟨U.heap.size + 1, 5, none⟩ = some (.int .i64 b5) := hS.q.cell 5; have y6 : W.cell? ⟨U.heap.size + 1, 6, none⟩ = some (.int .i64 b6) := hS.q.cell 6; have y7 : W.cell? ⟨U.heap.size + 1, 7, none⟩ = some (.int .i64 b7) := hS.q.cell 7; have y8 : W.cell? ⟨U.heap.size + 1, 8, none⟩ = some (.slice B rb.length cb) := hS.q.cell 8; try go_simp))
  clear hK K
  refine flo_read _ rfl (fun K hK => ?_)
  go_simp
  first | (refine hK _ ?_) | (refine ⟨fun W hS => ?_, hK _ ?_⟩; · (have x0 : W.cell? ⟨U.heap.size, 0, none⟩ = some (.int .i64 a0) := hS.p.cell 0; have x1 : W.cell? ⟨U.heap.size, 1, none⟩ = some (.int .i64 a1) := hS.p.cell 1; have x2 : W.cell? ⟨U.heap.size, 2, none⟩ = some (.int .i64 a2) := hS.p.cell 2; have x3 : W.cell? ⟨U.heap.size, 3, none⟩ = some (.int .i64 a3) := hS.p.cell 3; have x4 : W.cell? ⟨U.heap.size, 4, none⟩ = some (.int .i64 a4) := hS.p.cell 4; have x5 : W.cell? ⟨U.heap.size, 5, none⟩ = some (.int .i64 a5) := hS.p.cell 5; have x6 : W.cell? ⟨U.heap.size, 6, none⟩ = some (.int .i64 a6) := hS.p.cell 6; have x7 : W.cell? ⟨U.heap.size, 7, none⟩ = some (.int .i64 a7) := hS.p.cell 7; have x8 : W.cell? ⟨U.heap.size, 8, none⟩ = some (.slice A ra.length ca) := hS.p.cell 8; have y0 : W.cell? ⟨U.heap.size + 1, 0, none⟩ = some (.int .i64 b0) := hS.q.cell 0; have y1 : W.cell? ⟨U.heap.size + 1, 1, none⟩ = some (.int .i64 b1) := hS.q.cell 1; have y2 : W.cell? ⟨U.heap.size + 1, 2, none⟩ = some (.int .i64 b2) := hS.q.cell 2; have y3 : W.cell? ⟨U.heap.size + 1, 3, none⟩ = some (.int .i64 b3) := hS.q.cell 3; have y4 : W.cell? ⟨U.heap.size + 1, 4, none⟩ = some (.int .i64 b4) := hS.q.cell 4; have y5 : W.cell? ⟨U.heap.size + 1, 5, none⟩ = some (.int .i64 b5) := hS.q.cell 5; have y6 : W.cell? ⟨U.heap.size + 1, 6, none⟩ = some (.int .i64 b6) := hS.q.cell 6; have y7 : W.cell? ⟨U.heap.size + 1, 7, none⟩ = some (.int .i64 b7) := hS.q.cell 7; have y8 : W.cell? ⟨U.heap.size + 1, 8, none⟩ = some (.slice B rb.length cb) := hS.q.cell 8; try go_simp))
  clear hK K
  clear x0 x1 x2 x3 x4 x5 x6 x7 x8 y0 y1 y2 y3 y4 y5 y6 y7 y8
  refine flo_alone _ rfl ?_
  go_wp2_with fail
  go_at_call 34
  refine Calls.mono (hSelfh.out _ (hRdh.out _ T12)) ?_
  rintro e w13 ⟨rfl, t13⟩
  go_wp2_with fail
  refine ⟨fun Z => Bs Z U.heap.size #[.int .i64 a0, .int .i64 a1, .int .i64 a2, .int .i64 a3, .int .i64 a4, .int .i64 a5, .int .i64 a6, .int .i64 a7, .slice A ra.length ca] #[.int .i64 b0, .int .i64 b1, .int .i64 b2, .int .i64 b3, .int .i64 b4, .int .i64 b5, .int .i64 b6, .int .i64 b7, .slice B rb.length cb], fun Z h => h, B12.turns t13, ?_⟩
  have B13 := B12.turns t13
  have T13 := T12.trans t13
  clear B12 T12 t13
  refine flo_read _ rfl (fun K hK => ?_)
  go_simp
  first | (refine hK _ ?_) | (refine ⟨fun W hS => ?_, hK _ ?_⟩; · (skip; try go_simp))
  clear hK K
  refine flo_read _ rfl (fun K hK => ?_)
  go_simp
  first | (refine hK _ ?_) | (refine ⟨fun W hS => ?_, hK _ ?_⟩; · (skip; try go_simp))
  clear hK K
  refine flo_read _ rfl (fun K hK => ?_)
  go_simp
  first | (refine hK _ ?_) | (refine ⟨fun W hS => ?_, hK _ ?_⟩; · (skip; try go_simp))
  clear hK K
  refine flo_read _ rfl (fun K hK => ?_)
  go_simp
  first | (refine hK _ ?_) | (refine ⟨fun W hS => ?_, hK _ ?_⟩; · (skip; try go_simp))
  clear hK K
  refine flo_alone _ rfl ?_
  go_wp2_with fail
  go_at_call 36
  refine Calls.mono (hRih.out _) ?_
  rintro e w14 ⟨rfl, t14⟩
  go_wp2_with fail
  refine ⟨fun Z => Bs Z U.heap.size #[.int .i64 a0, .int .i64 a1, .int .i64 a2, .int .i64 a3, .int .i64 a4, .int .i64 a5, .int .i64 a6, .int .i64 a7, .slice A ra.length ca] #[.int .i64 b0, .int .i64 b1, .int .i64 b2, .int .i64 b3, .int .i64 b4, .int .i64 b5, .int .i64 b6, .int .i64 b7, .slice B rb.length cb], fun Z h => h, B13.turns t14, ?_⟩
  have B14 := B13.turns t14
  have T14 := T13.trans t14
  clear B13 T13 t14
  refine flo_alone _ rfl ?_
  go_wp2_with fail
  go_at_call 37
  refine Calls.mono (hDRih.out _) ?_
  rintro e w15 ⟨rfl, t15⟩
  go_wp2_with fail
  refine ⟨fun Z => Bs Z U.heap.size #[.int .i64 a0, .int .i64 a1, .int .i64 a2, .int .i64 a3, .int .i64 a4, .int .i64 a5, .int .i64 a6, .int .i64 a7, .slice A ra.length ca] #[.int .i64 b0, .int .i64 b1, .int .i64 b2, .int .i64 b3, .int .i64 b4, .int .i64 b5, .int .i64 b6, .int .i64 b7, .slice B rb.length cb], fun Z h => h, B14.turns t15, ?_⟩
  have B15 := B14.turns t15
  have T15 := T14.trans t15
  clear B14 T14 t15
  refine flo_read _ rfl (fun K hK => ?_)
  go_simp
  first | (refine hK _ ?_) | (refine ⟨fun W hS => ?_, hK _ ?_⟩; · (skip; try go_simp))
  clear hK K
  refine flo_read _ rfl (fun K hK => ?_)
  go_simp
  first | (refine hK _ ?_) | (refine ⟨fun W hS => ?_, hK _ ?_⟩; · (skip; try go_simp))
  clear hK K
  refine flo_read _ rfl (fun K hK => ?_)
  go_simp
  first | (refine hK _ ?_) | (refine ⟨fun W hS => ?_, hK _ ?_⟩; · (skip; try go_simp))
  clear hK K
  refine flo_end ?_
  go_wp2_with fail
  go_ret
  exact ⟨rfl, T15⟩
theorem nestRate : Nest Try.prog 54 [kInt .i64, kInt .i64] :=
  nStruct Try.underlying54 (ncons rfl (nInt Try.underlying3 (by kernel_rfl)) (ncons rfl (nInt Try.underlying3 (by kernel_rfl)) nnil rfl) rfl) (by kernel_rfl)
theorem nestRates : Nest Try.prog 50 [kSlice [kInt .i64, kInt .i64]] := nSlice Try.underlying50 nestRate (by kernel_rfl)
theorem nestConf : Nest Try.prog 52 [kInt .i64, kInt .i64, kInt .i64, kInt .i64, kInt .i64, kInt .i64, kInt .i64, kInt .i64, kSlice [kInt .i64, kInt .i64]] :=
  nStruct Try.underlying52 (ncons rfl (nInt Try.underlying3 (by kernel_rfl)) (ncons rfl (nInt Try.underlying3 (by kernel_rfl)) (ncons rfl (nInt Try.underlying3 (by kernel_rfl)) (ncons rfl (nInt Try.underlying3 (by kernel_rfl)) (ncons rfl (nInt Try.underlying3 (by kernel_rfl)) (ncons rfl (nInt Try.underlying3 (by kernel_rfl)) (ncons rfl (nInt Try.underlying3 (by kernel_rfl)) (ncons rfl (nInt Try.underlying3 (by kernel_rfl)) (ncons rfl nestRates nnil rfl) rfl) rfl) rfl) rfl) rfl) rfl) rfl) rfl) (by kernel_rfl)
theorem conf_of {W : World} {cs : List Value} (h : Kds W [kInt .i64, kInt .i64, kInt .i64, kInt .i64, kInt .i64, kInt .i64, kInt .i64, kInt .i64, kSlice [kInt .i64, kInt .i64]] cs) : ∃ c : Cfg, .agg cs.toArray = c.v ∧ RdS 2 W c.rv (rts c.rates) := by
  obtain ⟨v0, r0, rfl, ⟨n0, rfl, w0⟩, k0⟩ := h.out
  obtain ⟨v1, r1, rfl, ⟨n1, rfl, w1⟩, k1⟩ := k0.out
  obtain ⟨v2, r2, rfl, ⟨n2, rfl, w2⟩, k2⟩ := k1.out
  obtain ⟨v3, r3, rfl, ⟨n3, rfl, w3⟩, k3⟩ := k2.out
  obtain ⟨v4, r4, rfl, ⟨n4, rfl, w4⟩, k4⟩ := k3.out
  obtain ⟨v5, r5, rfl, ⟨n5, rfl, w5⟩, k5⟩ := k4.out
  obtain ⟨v6, r6, rfl, ⟨n6, rfl, w6⟩, k6⟩ := k5.out
  obtain ⟨v7, r7, rfl, ⟨n7, rfl, w7⟩, k7⟩ := k6.out
  obtain ⟨v8, r8, rfl, k8, k9⟩ := k7.out
  obtain rfl := k9.none
  obtain ⟨l, hl, _⟩ := kSlice.list (f := fun r : Int × Int => [Value.int .i64 r.1, Value.int .i64 r.2]) (p := fun _ => True) k8 (fun r hr => by
    obtain ⟨u0, s0, rfl, ⟨m0, rfl, _⟩, j0⟩ := hr.out
    obtain ⟨u1, s1, rfl, ⟨m1, rfl, _⟩, j1⟩ := j0.out
    obtain rfl := j1.none
    exact ⟨(m0, m1), rfl, trivial⟩)
  exact ⟨⟨n0, n1, n2, n3, n4, n5, n6, n7, v8, l⟩, rfl, hl⟩
theorem opened {H : Type} (enc : TypeId × Value → H) (W : World) {base : Nat} {v0 v1 v2 : Value} {d0 d1 d2 : DataW H} {p0 p1 p2 : List MemPlace} (h0 : DataW.Trod enc Try.prog W 0 (fun _ => true) true 52 v0 d0 p0)
    (h1 : DataW.Trod enc Try.prog W 0 (fun _ => true) true 52 v1 d1 p1) (h2 : DataW.Trod enc Try.prog W 0 (fun _ => true) true 3 v2 d2 p2)
    (o0 : Value.okWide Try.prog W .any base 52 v0) (o1 : Value.okWide Try.prog W .any base 52 v1) (o2 : Value.okWide Try.prog W .any base 3 v2) :
    Calls Try.prog 6 #[v0, v1, v2] W fun e w' => e = .returned (.bool true) ∧ Below W.heap.size W w' := by
  obtain ⟨cs, rfl, ka⟩ := arg_struct Try.underlying52 nestConf h0 o0
  obtain ⟨ds, rfl, kb⟩ := arg_struct Try.underlying52 nestConf h1 o1
  obtain ⟨k, rfl, _⟩ := arg_int Try.underlying3 (by kernel_rfl) h2 o2
  obtain ⟨a, ea, hA⟩ := conf_of ka
  obtain ⟨b, eb, hB⟩ := conf_of kb
  rw [ea, eb]
  obtain ⟨A, ca, fa, _⟩ := hA.form
  obtain ⟨B, cb, fb, _⟩ := hB.form
  rw [rts_len] at fa fb
  have : Calls Try.prog 6 #[a.v, b.v, .int .i64 k] W fun e w' => e = .returned (.bool true) ∧ Turns [] W w' := by
    by_cases hl : a.rates.length ≤ 100 ∧ b.rates.length ≤ 100
    · by_cases hk : hasRate k a.rates.length
      · obtain ⟨hk1, hk2⟩ := hk
        obtain ⟨q, hq⟩ : ∃ q : Nat, k / 65536 = q := ⟨(k / 65536).toNat, by omega⟩
        have hql : q < a.rates.length := by omega
        exact tells_yes W a b k hA hB hl hk1 q hq _ (List.getElem?_eq_getElem hql)
      · exact tells_no W a b k hA hB hl hk
    · exact tells_long W a b k A B ca cb fa fb (by omega)
  exact this.mono fun e w' ⟨he, t⟩ => ⟨he, t.isBelow⟩
end Go.Proofs.Ythnegmpdadkkcaa.Cg
