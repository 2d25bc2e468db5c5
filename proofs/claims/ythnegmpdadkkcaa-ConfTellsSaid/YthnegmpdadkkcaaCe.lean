/- The walks of conf.Same and the document's. -/
import Derived.Test.YthnegmpdadkkcaaCc
set_option linter.unusedVariables false
set_option linter.unusedSimpArgs false
set_option maxRecDepth 100000
namespace Go.Proofs.Ythnegmpdadkkcaa.Ce
open Go.RowKit Go.MapKept Hm Hs Hr Hb Hf Hv Cf Cn Sm Sat Mu Ca Cb Cc
/-- two configurations alike -/
structure Alike (a b : Cfg) : Prop where
  r : a.rates = b.rates
  f0 : a.n = b.n
  f1 : a.skew = b.skew
  f2 : a.ttl = b.ttl
  f3 : a.valid = b.valid
  f4 : a.loss = b.loss
  f5 : a.hear = b.hear
  f6 : a.keys = b.keys
  f7 : a.queue = b.queue
theorem take_eq {ra rb : List (Int × Int)} {k : Nat} {x y : Int × Int} (h : ra.take k = rb.take k) (hx : ra[k]? = some x) (hy : rb[k]? = some y) (hxy : x = y) : ra.take (k + 1) = rb.take (k + 1) := by
  rw [List.take_add_one, List.take_add_one, h, hx, hy, hxy]
set_option maxHeartbeats 8000000 in
theorem same_is (w : World) (a b : Cfg) (E : Bool) (hA : RdS 2 w a.rv (rts a.rates)) (hB : RdS 2 w b.rv (rts b.rates)) (hF : ¬ Alike a b → E = false) (hT : Alike a b → E = true) :
    Calls Try.prog 34 #[a.v, b.v] w fun e w' => e = .returned (.bool E) ∧ Turns [] w w' := by
  obtain ⟨a0, a1, a2, a3, a4, a5, a6, a7, rva, ra⟩ := a
  obtain ⟨b0, b1, b2, b3, b4, b5, b6, b7, rvb, rb⟩ := b
  simp only at hA hB
  obtain ⟨A, ca, rfl, hca, hca2⟩ := hA.form
  obtain ⟨B, cb, rfl, hcb, hcb2⟩ := hB.form
  simp only [rts_len] at hA hB hca hcb
  unfold Cfg.v
  simp only [rts_len]
  have T0 := ((Turns.refl [] w).alloc (.cells #[.int .i64 a0, .int .i64 a1, .int .i64 a2, .int .i64 a3, .int .i64 a4, .int .i64 a5, .int .i64 a6, .int .i64 a7, .slice A ra.length ca] 52)).alloc (.cells #[.int .i64 b0, .int .i64 b1, .int .i64 b2, .int .i64 b3, .int .i64 b4, .int .i64 b5, .int .i64 b6, .int .i64 b7, .slice B rb.length cb] 52)
  have hba := (Blk.new w #[.int .i64 a0, .int .i64 a1, .int .i64 a2, .int .i64 a3, .int .i64 a4, .int .i64 a5, .int .i64 a6, .int .i64 a7, .slice A ra.length ca] 52).alloc (.cells #[.int .i64 b0, .int .i64 b1, .int .i64 b2, .int .i64 b3, .int .i64 b4, .int .i64 b5, .int .i64 b6, .int .i64 b7, .slice B rb.length cb] 52)
  have hbb := Blk.new (w.alloc (.cells #[.int .i64 a0, .int .i64 a1, .int .i64 a2, .int .i64 a3, .int .i64 a4, .int .i64 a5, .int .i64 a6, .int .i64 a7, .slice A ra.length ca] 52)) #[.int .i64 b0, .int .i64 b1, .int .i64 b2, .int .i64 b3, .int .i64 b4, .int .i64 b5, .int .i64 b6, .int .i64 b7, .slice B rb.length cb] 52
  rw [World.size_alloc] at hbb
  have n0 : a0 ≠ b0 → E = false := fun h => hF (fun q => h q.f0)
  have n1 : a1 ≠ b1 → E = false := fun h => hF (fun q => h q.f1)
  have n2 : a2 ≠ b2 → E = false := fun h => hF (fun q => h q.f2)
  have n3 : a3 ≠ b3 → E = false := fun h => hF (fun q => h q.f3)
  have n4 : a4 ≠ b4 → E = false := fun h => hF (fun q => h q.f4)
  have n5 : a5 ≠ b5 → E = false := fun h => hF (fun q => h q.f5)
  have n6 : a6 ≠ b6 → E = false := fun h => hF (fun q => h q.f6)
  have n7 : a7 ≠ b7 → E = false := fun h => hF (fun q => h q.f7)
  have nr : ra ≠ rb → E = false := fun h => hF (fun q => h q.r)
  have yes : ra = rb → a0 = b0 → a1 = b1 → a2 = b2 → a3 = b3 → a4 = b4 → a5 = b5 → a6 = b6 → a7 = b7 → E = true := fun hr h0 h1 h2 h3 h4 h5 h6 h7 => hT ⟨hr, h0, h1, h2, h3, h4, h5, h6, h7⟩
  have n0h : Hid _ := n0
  have n1h : Hid _ := n1
  have n2h : Hid _ := n2
  have n3h : Hid _ := n3
  have n4h : Hid _ := n4
  have n5h : Hid _ := n5
  have n6h : Hid _ := n6
  have n7h : Hid _ := n7
  have nrh : Hid _ := nr
  have yesh : Hid _ := yes
  have hAh : Hid _ := hA
  have hBh : Hid _ := hB
  have hbah : Hid _ := hba
  have hbbh : Hid _ := hbb
  clear hF hT hA hB nr yes n0 n1 n2 n3 n4 n5 n6 n7
  go_enter Try.func34, Try.ntmps34
  have hxa := hbah.out
  have hxb := hbbh.out
  have x8 := Blk.cell hxa 8
  clear hba hbb
  go_wp2_with fail
  generalize (w.alloc (.cells #[.int .i64 a0, .int .i64 a1, .int .i64 a2, .int .i64 a3, .int .i64 a4, .int .i64 a5, .int .i64 a6, .int .i64 a7, .slice A ra.length ca] 52)).alloc (.cells #[.int .i64 b0, .int .i64 b1, .int .i64 b2, .int .i64 b3, .int .i64 b4, .int .i64 b5, .int .i64 b6, .int .i64 b7, .slice B rb.length cb] 52) = w0 at *
  go_loopw [5, 10] (fun v5 v10 wr => ∃ (k : Nat), k ≤ ra.length ∧ k ≤ rb.length ∧ v10 = .int .i64 k ∧ ra.take k = rb.take k ∧ Turns [] w0 wr) (fun _ v10 _ => ra.length - (intOf v10).toNat)
  case atStart => exact ⟨0, Nat.zero_le _, Nat.zero_le _, rfl, rfl, Turns.refl _ _⟩
  case round =>
    obtain ⟨k, hka, hkb, rfl, htk, T⟩ := hrel
    have hxa2 := Blk.turns hbah.out T (by simp)
    have hxb2 := Blk.turns hbbh.out T (by simp)
    clear x8 hxa hxb
    by_cases hlt : k < ra.length
    · have g1 : decide ((k : Int) < (ra.length : Int)) = true := by simp; omega
      obtain ⟨x, hx⟩ : ∃ x, ra[k]? = some x := ⟨_, List.getElem?_eq_getElem hlt⟩
      obtain ⟨ada, c', hva, _, hcella⟩ := RdS.at_ hAh.out (j := k) (r := [.int .i64 x.1, .int .i64 x.2]) (by unfold rts; rw [List.getElem?_map, hx]; rfl)
      injection hva with e1 e2 e3
      subst e1 e3
      clear e2
      have i0 := T.old (T0.old (hcella 0 _ rfl))
      have i1 := T.old (T0.old (hcella 1 _ rfl))
      rw [Nat.add_zero] at i0
      rw [add_field _ _ _ (by omega)] at i1
      have qA := (T.alloc (.cells #[.int .i64 x.1, .int .i64 x.2] 54)).drew
      have tq := ((Turns.refl [] wr).alloc (.cells #[.int .i64 x.1, .int .i64 x.2] 54)).drew
      have qx := (Blk.new wr #[.int .i64 x.1, .int .i64 x.2] 54).drew
      have qb := Blk.drew (Blk.alloc hxb2 (.cells #[.int .i64 x.1, .int .i64 x.2] 54))
      have z0 := qx.cell 0
      have z1 := qx.cell 1
      have y8 : (wr.alloc (.cells #[.int .i64 x.1, .int .i64 x.2] 54)).drew.cell? ⟨w.heap.size + 1, 8, none⟩ = some (.slice B rb.length cb) := qb.cell 8
      clear qx qb hxb2 hxa2 hcella
      by_cases hltb : k < rb.length
      · have g2 : decide ((k : Int) ≥ (rb.length : Int)) = false := decide_eq_false (by omega)
        have g2' : (rb.length ≤ k) = False := eq_false (by omega)
        obtain ⟨y, hy⟩ : ∃ y, rb[k]? = some y := ⟨_, List.getElem?_eq_getElem hltb⟩
        obtain ⟨adb, c', hvb, _, hcellb⟩ := RdS.at_ hBh.out (j := k) (r := [.int .i64 y.1, .int .i64 y.2]) (by unfold rts; rw [List.getElem?_map, hy]; rfl)
        injection hvb with e1 e2 e3
        subst e1 e3
        clear e2
        have j0 := tq.old (T.old (T0.old (hcellb 0 _ rfl)))
        have j1 := tq.old (T.old (T0.old (hcellb 1 _ rfl)))
        rw [Nat.add_zero] at j0
        rw [add_field _ _ _ (by omega)] at j1
        clear hcellb tq T
        by_cases hxy : x = y
        · have htk2 := take_eq htk hx hy hxy
          have htkh : Hid _ := htk2
          subst hxy
          clear htk htk2 hx hy
          go_wp2_with fail
          refine wp_region_flo [(0, true), (1, true), (2, true), (3, true), (4, true), (5, true), (6, true), (7, true), (8, true), (9, true), (10, true), (11, true), (12, true), (13, true)] (fun W => W = _) (by kernel_rfl) rfl (by kernel_rfl) (by intro c d v a w h; cases d <;> first | (simpa [Exit.then, Exit.inBlock, Act.put] using h) | exact h) (rfl) ?_
          refine flo_read _ rfl (fun K hK => ?_)
          go_simp
          first | (refine hK _ ?_) | (refine ⟨fun W hS => ?_, hK _ ?_⟩; · (subst hS; try go_simp))
          clear hK K
          refine flo_read _ rfl (fun K hK => ?_)
          go_simp
          first | (refine hK _ ?_) | (refine ⟨fun W hS => ?_, hK _ ?_⟩; · (subst hS; try go_simp))
          clear hK K
          refine flo_read _ rfl (fun K hK => ?_)
          go_simp
          first | (refine hK _ ?_) | (refine ⟨fun W hS => ?_, hK _ ?_⟩; · (subst hS; try go_simp))
          clear hK K
          refine flo_read _ rfl (fun K hK => ?_)
          go_simp
          first | (refine hK _ ?_) | (refine ⟨fun W hS => ?_, hK _ ?_⟩; · (subst hS; try go_simp))
          clear hK K
          refine flo_read _ rfl (fun K hK => ?_)
          go_simp
          first | (refine hK _ ?_) | (refine ⟨fun W hS => ?_, hK _ ?_⟩; · (subst hS; try go_simp))
          clear hK K
          refine flo_read _ rfl (fun K hK => ?_)
          go_simp
          first | (refine hK _ ?_) | (refine ⟨fun W hS => ?_, hK _ ?_⟩; · (subst hS; try go_simp))
          clear hK K
          refine flo_read _ rfl (fun K hK => ?_)
          go_simp
          first | (refine hK _ ?_) | (refine ⟨fun W hS => ?_, hK _ ?_⟩; · (subst hS; try go_simp))
          clear hK K
          refine flo_read _ rfl (fun K hK => ?_)
          go_simp
          first | (refine hK _ ?_) | (refine ⟨fun W hS => ?_, hK _ ?_⟩; · (subst hS; try go_simp))
          clear hK K
          refine flo_read _ rfl (fun K hK => ?_)
          go_simp
          first | (refine hK _ ?_) | (refine ⟨fun W hS => ?_, hK _ ?_⟩; · (subst hS; try go_simp))
          clear hK K
          refine flo_read _ rfl (fun K hK => ?_)
          go_simp
          first | (refine hK _ ?_) | (refine ⟨fun W hS => ?_, hK _ ?_⟩; · (subst hS; try go_simp))
          clear hK K
          refine flo_read _ rfl (fun K hK => ?_)
          go_simp
          first | (refine hK _ ?_) | (refine ⟨fun W hS => ?_, hK _ ?_⟩; · (subst hS; try go_simp))
          clear hK K
          refine flo_read _ rfl (fun K hK => ?_)
          go_simp
          first | (refine hK _ ?_) | (refine ⟨fun W hS => ?_, hK _ ?_⟩; · (subst hS; try go_simp))
          clear hK K
          refine flo_read _ rfl (fun K hK => ?_)
          go_simp
          first | (refine hK _ ?_) | (refine ⟨fun W hS => ?_, hK _ ?_⟩; · (subst hS; try go_simp))
          clear hK K
          refine flo_read _ rfl (fun K hK => ?_)
          go_simp
          first | (refine hK _ ?_) | (refine ⟨fun W hS => ?_, hK _ ?_⟩; · (subst hS; try go_simp))
          clear hK K
          refine flo_end ?_
          go_wp2_with fail
          go_roundw
          case rel => exact ⟨k + 1, by omega, by omega, by go_num, htkh.out, qA⟩
          case measure => simp [intOf]; omega
        · have hE : E = false := nrh.out (fun h => hxy (by rw [h, hy] at hx; injection hx with hx; exact hx.symm))
          have hEh : Hid _ := hE
          clear hE htk hx hy
          by_cases hx1 : x.1 = y.1
          · have hx2 : x.2 ≠ y.2 := fun h => hxy (Prod.ext hx1 h)
            have q1 : (x.1 == y.1) = true := by simpa using hx1
            have q2 : (x.2 == y.2) = false := by simpa using hx2
            have q3 : (x.2 != y.2) = true := by simpa using hx2
            have q4 : decide (x.1 = y.1) = true := decide_eq_true hx1
            have q5 : decide (x.2 = y.2) = false := decide_eq_false hx2
            clear hx1 hx2 hxy
            go_wp2_with fail
            refine wp_region_flo [(0, true), (1, true), (2, true), (3, true), (4, true), (5, true), (6, true), (7, true), (8, true), (9, true), (10, true), (11, true), (12, true), (13, true)] (fun W => W = _) (by kernel_rfl) rfl (by kernel_rfl) (by intro c d v a w h; cases d <;> first | (simpa [Exit.then, Exit.inBlock, Act.put] using h) | exact h) (rfl) ?_
            refine flo_read _ rfl (fun K hK => ?_)
            go_simp
            first | (refine hK _ ?_) | (refine ⟨fun W hS => ?_, hK _ ?_⟩; · (subst hS; try go_simp))
            clear hK K
            refine flo_read _ rfl (fun K hK => ?_)
            go_simp
            first | (refine hK _ ?_) | (refine ⟨fun W hS => ?_, hK _ ?_⟩; · (subst hS; try go_simp))
            clear hK K
            refine flo_read _ rfl (fun K hK => ?_)
            go_simp
            first | (refine hK _ ?_) | (refine ⟨fun W hS => ?_, hK _ ?_⟩; · (subst hS; try go_simp))
            clear hK K
            refine flo_read _ rfl (fun K hK => ?_)
            go_simp
            first | (refine hK _ ?_) | (refine ⟨fun W hS => ?_, hK _ ?_⟩; · (subst hS; try go_simp))
            clear hK K
            refine flo_read _ rfl (fun K hK => ?_)
            go_simp
            first | (refine hK _ ?_) | (refine ⟨fun W hS => ?_, hK _ ?_⟩; · (subst hS; try go_simp))
            clear hK K
            refine flo_read _ rfl (fun K hK => ?_)
            go_simp
            first | (refine hK _ ?_) | (refine ⟨fun W hS => ?_, hK _ ?_⟩; · (subst hS; try go_simp))
            clear hK K
            refine flo_read _ rfl (fun K hK => ?_)
            go_simp
            first | (refine hK _ ?_) | (refine ⟨fun W hS => ?_, hK _ ?_⟩; · (subst hS; try go_simp))
            clear hK K
            refine flo_read _ rfl (fun K hK => ?_)
            go_simp
            first | (refine hK _ ?_) | (refine ⟨fun W hS => ?_, hK _ ?_⟩; · (subst hS; try go_simp))
            clear hK K
            refine flo_read _ rfl (fun K hK => ?_)
            go_simp
            first | (refine hK _ ?_) | (refine ⟨fun W hS => ?_, hK _ ?_⟩; · (subst hS; try go_simp))
            clear hK K
            refine flo_read _ rfl (fun K hK => ?_)
            go_simp
            first | (refine hK _ ?_) | (refine ⟨fun W hS => ?_, hK _ ?_⟩; · (subst hS; try go_simp))
            clear hK K
            refine flo_read _ rfl (fun K hK => ?_)
            go_simp
            first | (refine hK _ ?_) | (refine ⟨fun W hS => ?_, hK _ ?_⟩; · (subst hS; try go_simp))
            clear hK K
            refine flo_read _ rfl (fun K hK => ?_)
            go_simp
            first | (refine hK _ ?_) | (refine ⟨fun W hS => ?_, hK _ ?_⟩; · (subst hS; try go_simp))
            clear hK K
            refine flo_read _ rfl (fun K hK => ?_)
            go_simp
            first | (refine hK _ ?_) | (refine ⟨fun W hS => ?_, hK _ ?_⟩; · (subst hS; try go_simp))
            clear hK K
            refine flo_read _ rfl (fun K hK => ?_)
            go_simp
            first | (refine hK _ ?_) | (refine ⟨fun W hS => ?_, hK _ ?_⟩; · (subst hS; try go_simp))
            clear hK K
            refine flo_end ?_
            go_wp2_with fail
            go_ret
            exact ⟨by rw [hEh.out]; rfl, T0.trans qA⟩
          · have q1 : (x.1 == y.1) = false := by simpa using hx1
            have q3 : (x.1 != y.1) = true := by simpa using hx1
            have q4 : decide (x.1 = y.1) = false := decide_eq_false hx1
            clear hx1 hxy
            go_wp2_with fail
            refine wp_region_flo [(0, true), (1, true), (2, true), (3, true), (4, true), (5, true), (6, true), (7, true), (8, true), (9, true), (10, true), (11, true), (12, true), (13, true)] (fun W => W = _) (by kernel_rfl) rfl (by kernel_rfl) (by intro c d v a w h; cases d <;> first | (simpa [Exit.then, Exit.inBlock, Act.put] using h) | exact h) (rfl) ?_
            refine flo_read _ rfl (fun K hK => ?_)
            go_simp
            first | (refine hK _ ?_) | (refine ⟨fun W hS => ?_, hK _ ?_⟩; · (subst hS; try go_simp))
            clear hK K
            refine flo_read _ rfl (fun K hK => ?_)
            go_simp
            first | (refine hK _ ?_) | (refine ⟨fun W hS => ?_, hK _ ?_⟩; · (subst hS; try go_simp))
            clear hK K
            refine flo_read _ rfl (fun K hK => ?_)
            go_simp
            first | (refine hK _ ?_) | (refine ⟨fun W hS => ?_, hK _ ?_⟩; · (subst hS; try go_simp))
            clear hK K
            refine flo_read _ rfl (fun K hK => ?_)
            go_simp
            first | (refine hK _ ?_) | (refine ⟨fun W hS => ?_, hK _ ?_⟩; · (subst hS; try go_simp))
            clear hK K
            refine flo_read _ rfl (fun K hK => ?_)
            go_simp
            first | (refine hK _ ?_) | (refine ⟨fun W hS => ?_, hK _ ?_⟩; · (subst hS; try go_simp))
            clear hK K
            refine flo_read _ rfl (fun K hK => ?_)
            go_simp
            first | (refine hK _ ?_) | (refine ⟨fun W hS => ?_, hK _ ?_⟩; · (subst hS; try go_simp))
            clear hK K
            refine flo_read _ rfl (fun K hK => ?_)
            go_simp
            first | (refine hK _ ?_) | (refine ⟨fun W hS => ?_, hK _ ?_⟩; · (subst hS; try go_simp))
            clear hK K
            refine flo_read _ rfl (fun K hK => ?_)
            go_simp
            first | (refine hK _ ?_) | (refine ⟨fun W hS => ?_, hK _ ?_⟩; · (subst hS; try go_simp))
            clear hK K
            refine flo_read _ rfl (fun K hK => ?_)
            go_simp
            first | (refine hK _ ?_) | (refine ⟨fun W hS => ?_, hK _ ?_⟩; · (subst hS; try go_simp))
            clear hK K
            refine flo_read _ rfl (fun K hK => ?_)
            go_simp
            first | (refine hK _ ?_) | (refine ⟨fun W hS => ?_, hK _ ?_⟩; · (subst hS; try go_simp))
            clear hK K
            refine flo_read _ rfl (fun K hK => ?_)
            go_simp
            first | (refine hK _ ?_) | (refine ⟨fun W hS => ?_, hK _ ?_⟩; · (subst hS; try go_simp))
            clear hK K
            refine flo_read _ rfl (fun K hK => ?_)
            go_simp
            first | (refine hK _ ?_) | (refine ⟨fun W hS => ?_, hK _ ?_⟩; · (subst hS; try go_simp))
            clear hK K
            refine flo_read _ rfl (fun K hK => ?_)
            go_simp
            first | (refine hK _ ?_) | (refine ⟨fun W hS => ?_, hK _ ?_⟩; · (subst hS; try go_simp))
            clear hK K
            refine flo_read _ rfl (fun K hK => ?_)
            go_simp
            first | (refine hK _ ?_) | (refine ⟨fun W hS => ?_, hK _ ?_⟩; · (subst hS; try go_simp))
            clear hK K
            refine flo_end ?_
            go_wp2_with fail
            go_ret
            exact ⟨by rw [hEh.out]; rfl, T0.trans qA⟩

      · have g2 : decide ((k : Int) ≥ (rb.length : Int)) = true := decide_eq_true (by omega)
        have g2' : (rb.length ≤ k) = True := eq_true (by omega)
        have hE : E = false := nrh.out (fun h => by rw [h] at hlt; exact hltb hlt)
        have hEh : Hid _ := hE
        clear hE htk hx T
        go_wp2_with fail
        refine wp_region_flo [(0, true), (1, true), (2, true), (3, true), (4, true), (5, true), (6, true), (7, true), (8, true), (9, true), (10, true), (11, true), (12, true), (13, true)] (fun W => W = _) (by kernel_rfl) rfl (by kernel_rfl) (by intro c d v a w h; cases d <;> first | (simpa [Exit.then, Exit.inBlock, Act.put] using h) | exact h) (rfl) ?_
        refine flo_read _ rfl (fun K hK => ?_)
        go_simp
        first | (refine hK _ ?_) | (refine ⟨fun W hS => ?_, hK _ ?_⟩; · (subst hS; try go_simp))
        clear hK K
        refine flo_read _ rfl (fun K hK => ?_)
        go_simp
        first | (refine hK _ ?_) | (refine ⟨fun W hS => ?_, hK _ ?_⟩; · (subst hS; try go_simp))
        clear hK K
        refine flo_read _ rfl (fun K hK => ?_)
        go_simp
        first | (refine hK _ ?_) | (refine ⟨fun W hS => ?_, hK _ ?_⟩; · (subst hS; try go_simp))
        clear hK K
        refine flo_read _ rfl (fun K hK => ?_)
        go_simp
        first | (refine hK _ ?_) | (refine ⟨fun W hS => ?_, hK _ ?_⟩; · (subst hS; try go_simp))
        clear hK K
        refine flo_read _ rfl (fun K hK => ?_)
        go_simp
        first | (refine hK _ ?_) | (refine ⟨fun W hS => ?_, hK _ ?_⟩; · (subst hS; try go_simp))
        clear hK K
        refine flo_read _ rfl (fun K hK => ?_)
        go_simp
        first | (refine hK _ ?_) | (refine ⟨fun W hS => ?_, hK _ ?_⟩; · (subst hS; try go_simp))
        clear hK K
        refine flo_read _ rfl (fun K hK => ?_)
        go_simp
        first | (refine hK _ ?_) | (refine ⟨fun W hS => ?_, hK _ ?_⟩; · (subst hS; try go_simp))
        clear hK K
        refine flo_read _ rfl (fun K hK => ?_)
        go_simp
        first | (refine hK _ ?_) | (refine ⟨fun W hS => ?_, hK _ ?_⟩; · (subst hS; try go_simp))
        clear hK K
        refine flo_read _ rfl (fun K hK => ?_)
        go_simp
        first | (refine hK _ ?_) | (refine ⟨fun W hS => ?_, hK _ ?_⟩; · (subst hS; try go_simp))
        clear hK K
        refine flo_read _ rfl (fun K hK => ?_)
        go_simp
        first | (refine hK _ ?_) | (refine ⟨fun W hS => ?_, hK _ ?_⟩; · (subst hS; try go_simp))
        clear hK K
        refine flo_read _ rfl (fun K hK => ?_)
        go_simp
        first | (refine hK _ ?_) | (refine ⟨fun W hS => ?_, hK _ ?_⟩; · (subst hS; try go_simp))
        clear hK K
        refine flo_read _ rfl (fun K hK => ?_)
        go_simp
        first | (refine hK _ ?_) | (refine ⟨fun W hS => ?_, hK _ ?_⟩; · (subst hS; try go_simp))
        clear hK K
        refine flo_read _ rfl (fun K hK => ?_)
        go_simp
        first | (refine hK _ ?_) | (refine ⟨fun W hS => ?_, hK _ ?_⟩; · (subst hS; try go_simp))
        clear hK K
        refine flo_read _ rfl (fun K hK => ?_)
        go_simp
        first | (refine hK _ ?_) | (refine ⟨fun W hS => ?_, hK _ ?_⟩; · (subst hS; try go_simp))
        clear hK K
        refine flo_end ?_
        go_wp2_with fail
        go_ret
        exact ⟨by rw [hEh.out]; rfl, T0.trans qA⟩
    · obtain rfl : k = ra.length := by omega
      have g1 : decide ((ra.length : Int) < (ra.length : Int)) = false := by simp
      have x0 : wr.cell? ⟨w.heap.size, 0, none⟩ = some (.int .i64 a0) := hxa2.cell 0
      have y0 : wr.cell? ⟨w.heap.size + 1, 0, none⟩ = some (.int .i64 b0) := hxb2.cell 0
      have x1 : wr.cell? ⟨w.heap.size, 1, none⟩ = some (.int .i64 a1) := hxa2.cell 1
      have y1 : wr.cell? ⟨w.heap.size + 1, 1, none⟩ = some (.int .i64 b1) := hxb2.cell 1
      have x2 : wr.cell? ⟨w.heap.size, 2, none⟩ = some (.int .i64 a2) := hxa2.cell 2
      have y2 : wr.cell? ⟨w.heap.size + 1, 2, none⟩ = some (.int .i64 b2) := hxb2.cell 2
      have x3 : wr.cell? ⟨w.heap.size, 3, none⟩ = some (.int .i64 a3) := hxa2.cell 3
      have y3 : wr.cell? ⟨w.heap.size + 1, 3, none⟩ = some (.int .i64 b3) := hxb2.cell 3
      have x4 : wr.cell? ⟨w.heap.size, 4, none⟩ = some (.int .i64 a4) := hxa2.cell 4
      have y4 : wr.cell? ⟨w.heap.size + 1, 4, none⟩ = some (.int .i64 b4) := hxb2.cell 4
      have x5 : wr.cell? ⟨w.heap.size, 5, none⟩ = some (.int .i64 a5) := hxa2.cell 5
      have y5 : wr.cell? ⟨w.heap.size + 1, 5, none⟩ = some (.int .i64 b5) := hxb2.cell 5
      have x6 : wr.cell? ⟨w.heap.size, 6, none⟩ = some (.int .i64 a6) := hxa2.cell 6
      have y6 : wr.cell? ⟨w.heap.size + 1, 6, none⟩ = some (.int .i64 b6) := hxb2.cell 6
      have x7 : wr.cell? ⟨w.heap.size, 7, none⟩ = some (.int .i64 a7) := hxa2.cell 7
      have y7 : wr.cell? ⟨w.heap.size + 1, 7, none⟩ = some (.int .i64 b7) := hxb2.cell 7
      have x8 : wr.cell? ⟨w.heap.size, 8, none⟩ = some (.slice A ra.length ca) := hxa2.cell 8
      have y8 : wr.cell? ⟨w.heap.size + 1, 8, none⟩ = some (.slice B rb.length cb) := hxb2.cell 8
      clear hxa2 hxb2
      by_cases hl : ra.length = rb.length
      · have hlh : Hid (ra = rb) := by show ra = rb; rw [List.take_length, hl, List.take_length] at htk; exact htk
        have ge : ((ra.length : Int) == (rb.length : Int)) = true := by simp [hl]
        have ge2 : (ra.length == rb.length) = true := by simp [hl]
        clear htk hl
        by_cases h0 : a0 = b0
        · have g0e : (a0 == b0) = true := by simpa using h0
          have g0n : (a0 != b0) = false := by simpa using h0
          by_cases h1 : a1 = b1
          · have g1e : (a1 == b1) = true := by simpa using h1
            have g1n : (a1 != b1) = false := by simpa using h1
            by_cases h2 : a2 = b2
            · have g2e : (a2 == b2) = true := by simpa using h2
              have g2n : (a2 != b2) = false := by simpa using h2
              by_cases h3 : a3 = b3
              · have g3e : (a3 == b3) = true := by simpa using h3
                have g3n : (a3 != b3) = false := by simpa using h3
                by_cases h4 : a4 = b4
                · have g4e : (a4 == b4) = true := by simpa using h4
                  have g4n : (a4 != b4) = false := by simpa using h4
                  by_cases h5 : a5 = b5
                  · have g5e : (a5 == b5) = true := by simpa using h5
                    have g5n : (a5 != b5) = false := by simpa using h5
                    by_cases h6 : a6 = b6
                    · have g6e : (a6 == b6) = true := by simpa using h6
                      have g6n : (a6 != b6) = false := by simpa using h6
                      by_cases h7 : a7 = b7
                      · have g7e : (a7 == b7) = true := by simpa using h7
                        have g7n : (a7 != b7) = false := by simpa using h7
                        have hE := yesh.out hlh.out h0 h1 h2 h3 h4 h5 h6 h7
                        have hEh : Hid _ := hE
                        clear hE h0 h1 h2 h3 h4 h5 h6 h7 yesh n0h n1h n2h n3h n4h n5h n6h n7h nrh
                        go_wp2_with fail
                        go_ret
                        exact ⟨by rw [hEh.out]; rfl, T0.trans T⟩
                      · have hE : E = false := n7h.out h7
                        have g7e : (a7 == b7) = false := by simpa using h7
                        have g7n : (a7 != b7) = true := by simpa using h7
                        have hEh : Hid _ := hE
                        clear hE h0 h1 h2 h3 h4 h5 h6 h7 yesh n0h n1h n2h n3h n4h n5h n6h n7h nrh
                        go_wp2_with fail
                        go_ret
                        exact ⟨by rw [hEh.out]; rfl, T0.trans T⟩
                    · have hE : E = false := n6h.out h6
                      have g6e : (a6 == b6) = false := by simpa using h6
                      have g6n : (a6 != b6) = true := by simpa using h6
                      have hEh : Hid _ := hE
                      clear hE h0 h1 h2 h3 h4 h5 h6 yesh n0h n1h n2h n3h n4h n5h n6h n7h nrh
                      go_wp2_with fail
                      go_ret
                      exact ⟨by rw [hEh.out]; rfl, T0.trans T⟩
                  · have hE : E = false := n5h.out h5
                    have g5e : (a5 == b5) = false := by simpa using h5
                    have g5n : (a5 != b5) = true := by simpa using h5
                    have hEh : Hid _ := hE
                    clear hE h0 h1 h2 h3 h4 h5 yesh n0h n1h n2h n3h n4h n5h n6h n7h nrh
                    go_wp2_with fail
                    go_ret
                    exact ⟨by rw [hEh.out]; rfl, T0.trans T⟩
                · have hE : E = false := n4h.out h4
                  have g4e : (a4 == b4) = false := by simpa using h4
                  have g4n : (a4 != b4) = true := by simpa using h4
                  have hEh : Hid _ := hE
                  clear hE h0 h1 h2 h3 h4 yesh n0h n1h n2h n3h n4h n5h n6h n7h nrh
                  go_wp2_with fail
                  go_ret
                  exact ⟨by rw [hEh.out]; rfl, T0.trans T⟩
              · have hE : E = false := n3h.out h3
                have g3e : (a3 == b3) = false := by simpa using h3
                have g3n : (a3 != b3) = true := by simpa using h3
                have hEh : Hid _ := hE
                clear hE h0 h1 h2 h3 yesh n0h n1h n2h n3h n4h n5h n6h n7h nrh
                go_wp2_with fail
                go_ret
                exact ⟨by rw [hEh.out]; rfl, T0.trans T⟩
            · have hE : E = false := n2h.out h2
              have g2e : (a2 == b2) = false := by simpa using h2
              have g2n : (a2 != b2) = true := by simpa using h2
              have hEh : Hid _ := hE
              clear hE h0 h1 h2 yesh n0h n1h n2h n3h n4h n5h n6h n7h nrh
              go_wp2_with fail
              go_ret
              exact ⟨by rw [hEh.out]; rfl, T0.trans T⟩
          · have hE : E = false := n1h.out h1
            have g1e : (a1 == b1) = false := by simpa using h1
            have g1n : (a1 != b1) = true := by simpa using h1
            have hEh : Hid _ := hE
            clear hE h0 h1 yesh n0h n1h n2h n3h n4h n5h n6h n7h nrh
            go_wp2_with fail
            go_ret
            exact ⟨by rw [hEh.out]; rfl, T0.trans T⟩
        · have hE : E = false := n0h.out h0
          have g0e : (a0 == b0) = false := by simpa using h0
          have g0n : (a0 != b0) = true := by simpa using h0
          have hEh : Hid _ := hE
          clear hE h0 yesh n0h n1h n2h n3h n4h n5h n6h n7h nrh
          go_wp2_with fail
          go_ret
          exact ⟨by rw [hEh.out]; rfl, T0.trans T⟩
      · have hE : E = false := nrh.out (fun h => hl (by rw [h]))
        have ge : ((ra.length : Int) == (rb.length : Int)) = false := by simp; omega
        have ge2 : (ra.length == rb.length) = false := by simpa using hl
        have hEh : Hid _ := hE
        clear hE htk hl yesh n0h n1h n2h n3h n4h n5h n6h n7h nrh
        go_wp2_with fail
        go_ret
        exact ⟨by rw [hEh.out]; rfl, T0.trans T⟩
set_option maxHeartbeats 8000000 in
theorem dsame_is (w : World) (a b : Cfg) (E : Bool) (hA : RdS 2 w a.rv (rts a.rates)) (hB : RdS 2 w b.rv (rts b.rates)) (hF : ¬ Alike a b → E = false) (hT : Alike a b → E = true) :
    Calls Try.prog 35 #[a.v, b.v] w fun e w' => e = .returned (.bool E) ∧ Turns [] w w' := by
  obtain ⟨a0, a1, a2, a3, a4, a5, a6, a7, rva, ra⟩ := a
  obtain ⟨b0, b1, b2, b3, b4, b5, b6, b7, rvb, rb⟩ := b
  simp only at hA hB
  obtain ⟨A, ca, rfl, hca, hca2⟩ := hA.form
  obtain ⟨B, cb, rfl, hcb, hcb2⟩ := hB.form
  simp only [rts_len] at hA hB hca hcb
  unfold Cfg.v
  simp only [rts_len]
  have T0 := ((Turns.refl [] w).alloc (.cells #[.int .i64 a0, .int .i64 a1, .int .i64 a2, .int .i64 a3, .int .i64 a4, .int .i64 a5, .int .i64 a6, .int .i64 a7, .slice A ra.length ca] 52)).alloc (.cells #[.int .i64 b0, .int .i64 b1, .int .i64 b2, .int .i64 b3, .int .i64 b4, .int .i64 b5, .int .i64 b6, .int .i64 b7, .slice B rb.length cb] 52)
  have hba := (Blk.new w #[.int .i64 a0, .int .i64 a1, .int .i64 a2, .int .i64 a3, .int .i64 a4, .int .i64 a5, .int .i64 a6, .int .i64 a7, .slice A ra.length ca] 52).alloc (.cells #[.int .i64 b0, .int .i64 b1, .int .i64 b2, .int .i64 b3, .int .i64 b4, .int .i64 b5, .int .i64 b6, .int .i64 b7, .slice B rb.length cb] 52)
  have hbb := Blk.new (w.alloc (.cells #[.int .i64 a0, .int .i64 a1, .int .i64 a2, .int .i64 a3, .int .i64 a4, .int .i64 a5, .int .i64 a6, .int .i64 a7, .slice A ra.length ca] 52)) #[.int .i64 b0, .int .i64 b1, .int .i64 b2, .int .i64 b3, .int .i64 b4, .int .i64 b5, .int .i64 b6, .int .i64 b7, .slice B rb.length cb] 52
  rw [World.size_alloc] at hbb
  have n0 : a0 ≠ b0 → E = false := fun h => hF (fun q => h q.f0)
  have n1 : a1 ≠ b1 → E = false := fun h => hF (fun q => h q.f1)
  have n2 : a2 ≠ b2 → E = false := fun h => hF (fun q => h q.f2)
  have n3 : a3 ≠ b3 → E = false := fun h => hF (fun q => h q.f3)
  have n4 : a4 ≠ b4 → E = false := fun h => hF (fun q => h q.f4)
  have n5 : a5 ≠ b5 → E = false := fun h => hF (fun q => h q.f5)
  have n6 : a6 ≠ b6 → E = false := fun h => hF (fun q => h q.f6)
  have n7 : a7 ≠ b7 → E = false := fun h => hF (fun q => h q.f7)
  have nr : ra ≠ rb → E = false := fun h => hF (fun q => h q.r)
  have yes : ra = rb → a0 = b0 → a1 = b1 → a2 = b2 → a3 = b3 → a4 = b4 → a5 = b5 → a6 = b6 → a7 = b7 → E = true := fun hr h0 h1 h2 h3 h4 h5 h6 h7 => hT ⟨hr, h0, h1, h2, h3, h4, h5, h6, h7⟩
  have n0h : Hid _ := n0
  have n1h : Hid _ := n1
  have n2h : Hid _ := n2
  have n3h : Hid _ := n3
  have n4h : Hid _ := n4
  have n5h : Hid _ := n5
  have n6h : Hid _ := n6
  have n7h : Hid _ := n7
  have nrh : Hid _ := nr
  have yesh : Hid _ := yes
  have hAh : Hid _ := hA
  have hBh : Hid _ := hB
  have hbah : Hid _ := hba
  have hbbh : Hid _ := hbb
  clear hF hT hA hB nr yes n0 n1 n2 n3 n4 n5 n6 n7
  have x0 : ((w.alloc (.cells #[.int .i64 a0, .int .i64 a1, .int .i64 a2, .int .i64 a3, .int .i64 a4, .int .i64 a5, .int .i64 a6, .int .i64 a7, .slice A ra.length ca] 52)).alloc (.cells #[.int .i64 b0, .int .i64 b1, .int .i64 b2, .int .i64 b3, .int .i64 b4, .int .i64 b5, .int .i64 b6, .int .i64 b7, .slice B rb.length cb] 52)).cell? ⟨w.heap.size, 0, none⟩ = some (.int .i64 a0) := hba.cell 0
  have y0 : ((w.alloc (.cells #[.int .i64 a0, .int .i64 a1, .int .i64 a2, .int .i64 a3, .int .i64 a4, .int .i64 a5, .int .i64 a6, .int .i64 a7, .slice A ra.length ca] 52)).alloc (.cells #[.int .i64 b0, .int .i64 b1, .int .i64 b2, .int .i64 b3, .int .i64 b4, .int .i64 b5, .int .i64 b6, .int .i64 b7, .slice B rb.length cb] 52)).cell? ⟨w.heap.size + 1, 0, none⟩ = some (.int .i64 b0) := hbb.cell 0
  have x1 : ((w.alloc (.cells #[.int .i64 a0, .int .i64 a1, .int .i64 a2, .int .i64 a3, .int .i64 a4, .int .i64 a5, .int .i64 a6, .int .i64 a7, .slice A ra.length ca] 52)).alloc (.cells #[.int .i64 b0, .int .i64 b1, .int .i64 b2, .int .i64 b3, .int .i64 b4, .int .i64 b5, .int .i64 b6, .int .i64 b7, .slice B rb.length cb] 52)).cell? ⟨w.heap.size, 1, none⟩ = some (.int .i64 a1) := hba.cell 1
  have y1 : ((w.alloc (.cells #[.int .i64 a0, .int .i64 a1, .int .i64 a2, .int .i64 a3, .int .i64 a4, .int .i64 a5, .int .i64 a6, .int .i64 a7, .slice A ra.length ca] 52)).alloc (.cells #[.int .i64 b0, .int .i64 b1, .int .i64 b2, .int .i64 b3, .int .i64 b4, .int .i64 b5, .int .i64 b6, .int .i64 b7, .slice B rb.length cb] 52)).cell? ⟨w.heap.size + 1, 1, none⟩ = some (.int .i64 b1) := hbb.cell 1
  have x2 : ((w.alloc (.cells #[.int .i64 a0, .int .i64 a1, .int .i64 a2, .int .i64 a3, .int .i64 a4, .int .i64 a5, .int .i64 a6, .int .i64 a7, .slice A ra.length ca] 52)).alloc (.cells #[.int .i64 b0, .int .i64 b1, .int .i64 b2, .int .i64 b3, .int .i64 b4, .int .i64 b5, .int .i64 b6, .int .i64 b7, .slice B rb.length cb] 52)).cell? ⟨w.heap.size, 2, none⟩ = some (.int .i64 a2) := hba.cell 2
  have y2 : ((w.alloc (.cells #[.int .i64 a0, .int .i64 a1, .int .i64 a2, .int .i64 a3, .int .i64 a4, .int .i64 a5, .int .i64 a6, .int .i64 a7, .slice A ra.length ca] 52)).alloc (.cells #[.int .i64 b0, .int .i64 b1, .int .i64 b2, .int .i64 b3, .int .i64 b4, .int .i64 b5, .int .i64 b6, .int .i64 b7, .slice B rb.length cb] 52)).cell? ⟨w.heap.size + 1, 2, none⟩ = some (.int .i64 b2) := hbb.cell 2
  have x3 : ((w.alloc (.cells #[.int .i64 a0, .int .i64 a1, .int .i64 a2, .int .i64 a3, .int .i64 a4, .int .i64 a5, .int .i64 a6, .int .i64 a7, .slice A ra.length ca] 52)).alloc (.cells #[.int .i64 b0, .int .i64 b1, .int .i64 b2, .int .i64 b3, .int .i64 b4, .int .i64 b5, .int .i64 b6, .int .i64 b7, .slice B rb.length cb] 52)).cell? ⟨w.heap.size, 3, none⟩ = some (.int .i64 a3) := hba.cell 3
  have y3 : ((w.alloc (.cells #[.int .i64 a0, .int .i64 a1, .int .i64 a2, .int .i64 a3, .int .i64 a4, .int .i64 a5, .int .i64 a6, .int .i64 a7, .slice A ra.length ca] 52)).alloc (.cells #[.int .i64 b0, .int .i64 b1, .int .i64 b2, .int .i64 b3, .int .i64 b4, .int .i64 b5, .int .i64 b6, .int .i64 b7, .slice B rb.length cb] 52)).cell? ⟨w.heap.size + 1, 3, none⟩ = some (.int .i64 b3) := hbb.cell 3
  have x4 : ((w.alloc (.cells #[.int .i64 a0, .int .i64 a1, .int .i64 a2, .int .i64 a3, .int .i64 a4, .int .i64 a5, .int .i64 a6, .int .i64 a7, .slice A ra.length ca] 52)).alloc (.cells #[.int .i64 b0, .int .i64 b1, .int .i64 b2, .int .i64 b3, .int .i64 b4, .int .i64 b5, .int .i64 b6, .int .i64 b7, .slice B rb.length cb] 52)).cell? ⟨w.heap.size, 4, none⟩ = some (.int .i64 a4) := hba.cell 4
  have y4 : ((w.alloc (.cells #[.int .i64 a0, .int .i64 a1, .int .i64 a2, .int .i64 a3, .int .i64 a4, .int .i64 a5, .int .i64 a6, .int .i64 a7, .slice A ra.length ca] 52)).alloc (.cells #[.int .i64 b0, .int .i64 b1, .int .i64 b2, .int .i64 b3, .int .i64 b4, .int .i64 b5, .int .i64 b6, .int .i64 b7, .slice B rb.length cb] 52)).cell? ⟨w.heap.size + 1, 4, none⟩ = some (.int .i64 b4) := hbb.cell 4
  have x5 : ((w.alloc (.cells #[.int .i64 a0, .int .i64 a1, .int .i64 a2, .int .i64 a3, .int .i64 a4, .int .i64 a5, .int .i64 a6, .int .i64 a7, .slice A ra.length ca] 52)).alloc (.cells #[.int .i64 b0, .int .i64 b1, .int .i64 b2, .int .i64 b3, .int .i64 b4, .int .i64 b5, .int .i64 b6, .int .i64 b7, .slice B rb.length cb] 52)).cell? ⟨w.heap.size, 5, none⟩ = some (.int .i64 a5) := hba.cell 5
  have y5 : ((w.alloc (.cells #[.int .i64 a0, .int .i64 a1, .int .i64 a2, .int .i64 a3, .int .i64 a4, .int .i64 a5, .int .i64 a6, .int .i64 a7, .slice A ra.length ca] 52)).alloc (.cells #[.int .i64 b0, .int .i64 b1, .int .i64 b2, .int .i64 b3, .int .i64 b4, .int .i64 b5, .int .i64 b6, .int .i64 b7, .slice B rb.length cb] 52)).cell? ⟨w.heap.size + 1, 5, none⟩ = some (.int .i64 b5) := hbb.cell 5
  have x6 : ((w.alloc (.cells #[.int .i64 a0, .int .i64 a1, .int .i64 a2, .int .i64 a3, .int .i64 a4, .int .i64 a5, .int .i64 a6, .int .i64 a7, .slice A ra.length ca] 52)).alloc (.cells #[.int .i64 b0, .int .i64 b1, .int .i64 b2, .int .i64 b3, .int .i64 b4, .int .i64 b5, .int .i64 b6, .int .i64 b7, .slice B rb.length cb] 52)).cell? ⟨w.heap.size, 6, none⟩ = some (.int .i64 a6) := hba.cell 6
  have y6 : ((w.alloc (.cells #[.int .i64 a0, .int .i64 a1, .int .i64 a2, .int .i64 a3, .int .i64 a4, .int .i64 a5, .int .i64 a6, .int .i64 a7, .slice A ra.length ca] 52)).alloc (.cells #[.int .i64 b0, .int .i64 b1, .int .i64 b2, .int .i64 b3, .int .i64 b4, .int .i64 b5, .int .i64 b6, .int .i64 b7, .slice B rb.length cb] 52)).cell? ⟨w.heap.size + 1, 6, none⟩ = some (.int .i64 b6) := hbb.cell 6
  have x7 : ((w.alloc (.cells #[.int .i64 a0, .int .i64 a1, .int .i64 a2, .int .i64 a3, .int .i64 a4, .int .i64 a5, .int .i64 a6, .int .i64 a7, .slice A ra.length ca] 52)).alloc (.cells #[.int .i64 b0, .int .i64 b1, .int .i64 b2, .int .i64 b3, .int .i64 b4, .int .i64 b5, .int .i64 b6, .int .i64 b7, .slice B rb.length cb] 52)).cell? ⟨w.heap.size, 7, none⟩ = some (.int .i64 a7) := hba.cell 7
  have y7 : ((w.alloc (.cells #[.int .i64 a0, .int .i64 a1, .int .i64 a2, .int .i64 a3, .int .i64 a4, .int .i64 a5, .int .i64 a6, .int .i64 a7, .slice A ra.length ca] 52)).alloc (.cells #[.int .i64 b0, .int .i64 b1, .int .i64 b2, .int .i64 b3, .int .i64 b4, .int .i64 b5, .int .i64 b6, .int .i64 b7, .slice B rb.length cb] 52)).cell? ⟨w.heap.size + 1, 7, none⟩ = some (.int .i64 b7) := hbb.cell 7
  have x8 : ((w.alloc (.cells #[.int .i64 a0, .int .i64 a1, .int .i64 a2, .int .i64 a3, .int .i64 a4, .int .i64 a5, .int .i64 a6, .int .i64 a7, .slice A ra.length ca] 52)).alloc (.cells #[.int .i64 b0, .int .i64 b1, .int .i64 b2, .int .i64 b3, .int .i64 b4, .int .i64 b5, .int .i64 b6, .int .i64 b7, .slice B rb.length cb] 52)).cell? ⟨w.heap.size, 8, none⟩ = some (.slice A ra.length ca) := hba.cell 8
  have y8 : ((w.alloc (.cells #[.int .i64 a0, .int .i64 a1, .int .i64 a2, .int .i64 a3, .int .i64 a4, .int .i64 a5, .int .i64 a6, .int .i64 a7, .slice A ra.length ca] 52)).alloc (.cells #[.int .i64 b0, .int .i64 b1, .int .i64 b2, .int .i64 b3, .int .i64 b4, .int .i64 b5, .int .i64 b6, .int .i64 b7, .slice B rb.length cb] 52)).cell? ⟨w.heap.size + 1, 8, none⟩ = some (.slice B rb.length cb) := hbb.cell 8
  clear hba hbb
  go_enter Try.func35, Try.ntmps35
  by_cases h0 : a0 = b0
  · have g0e : (a0 == b0) = true := by simpa using h0
    have g0n : (a0 != b0) = false := by simpa using h0
    by_cases h1 : a1 = b1
    · have g1e : (a1 == b1) = true := by simpa using h1
      have g1n : (a1 != b1) = false := by simpa using h1
      by_cases h2 : a2 = b2
      · have g2e : (a2 == b2) = true := by simpa using h2
        have g2n : (a2 != b2) = false := by simpa using h2
        by_cases h3 : a3 = b3
        · have g3e : (a3 == b3) = true := by simpa using h3
          have g3n : (a3 != b3) = false := by simpa using h3
          by_cases h4 : a4 = b4
          · have g4e : (a4 == b4) = true := by simpa using h4
            have g4n : (a4 != b4) = false := by simpa using h4
            by_cases h5 : a5 = b5
            · have g5e : (a5 == b5) = true := by simpa using h5
              have g5n : (a5 != b5) = false := by simpa using h5
              by_cases h6 : a6 = b6
              · have g6e : (a6 == b6) = true := by simpa using h6
                have g6n : (a6 != b6) = false := by simpa using h6
                by_cases h7 : a7 = b7
                · have g7e : (a7 == b7) = true := by simpa using h7
                  have g7n : (a7 != b7) = false := by simpa using h7
                  by_cases hl : ra.length = rb.length
                  · have ge : ((ra.length : Int) != (rb.length : Int)) = false := by simp [hl]
                    have ge2 : (ra.length != rb.length) = false := by simp [hl]
                    have hlh : Hid (ra.length = rb.length) := hl
                    clear hl
                    have h0h : Hid _ := h0
                    have h1h : Hid _ := h1
                    have h2h : Hid _ := h2
                    have h3h : Hid _ := h3
                    have h4h : Hid _ := h4
                    have h5h : Hid _ := h5
                    have h6h : Hid _ := h6
                    have h7h : Hid _ := h7
                    clear h0 h1 h2 h3 h4 h5 h6 h7
                    go_wp2_with fail
                    clear x0 y0 x1 y1 x2 y2 x3 y3 x4 y4 x5 y5 x6 y6 x7 y7 x8 y8
                    generalize (w.alloc (.cells #[.int .i64 a0, .int .i64 a1, .int .i64 a2, .int .i64 a3, .int .i64 a4, .int .i64 a5, .int .i64 a6, .int .i64 a7, .slice A ra.length ca] 52)).alloc (.cells #[.int .i64 b0, .int .i64 b1, .int .i64 b2, .int .i64 b3, .int .i64 b4, .int .i64 b5, .int .i64 b6, .int .i64 b7, .slice B rb.length cb] 52) = w0 at *
                    go_loopw [5] (fun v5 wr => ∃ (k : Nat), k ≤ ra.length ∧ v5 = .int .i64 k ∧ ra.take k = rb.take k ∧ Turns [] w0 wr) (fun v5 _ => ra.length - (intOf v5).toNat)
                    case atStart => exact ⟨0, Nat.zero_le _, rfl, rfl, Turns.refl _ _⟩
                    case round =>
                      obtain ⟨k, hka, rfl, htk, T⟩ := hrel
                      have hxa2 := Blk.turns hbah.out T (by simp)
                      have hxb2 := Blk.turns hbbh.out T (by simp)
                      have x8 : wr.cell? ⟨w.heap.size, 8, none⟩ = some (.slice A ra.length ca) := hxa2.cell 8
                      have xd8 : wr.drew.cell? ⟨w.heap.size, 8, none⟩ = some (.slice A ra.length ca) := hxa2.cell 8
                      have yd8 : wr.drew.cell? ⟨w.heap.size + 1, 8, none⟩ = some (.slice B rb.length cb) := hxb2.cell 8
                      clear hxa2 hxb2
                      by_cases hlt : k < ra.length
                      · have g1 : decide ((k : Int) < (ra.length : Int)) = true := by simp; omega
                        have gB : k < rb.length := by have := hlh.out; omega
                        obtain ⟨x, hx⟩ : ∃ x, ra[k]? = some x := ⟨_, List.getElem?_eq_getElem hlt⟩
                        obtain ⟨ada, c', hva, _, hcella⟩ := RdS.at_ hAh.out (j := k) (r := [.int .i64 x.1, .int .i64 x.2]) (by unfold rts; rw [List.getElem?_map, hx]; rfl)
                        injection hva with e1 e2 e3
                        subst e1 e3
                        clear e2
                        have i0 : wr.drew.cell? _ = _ := T.old (T0.old (hcella 0 _ rfl))
                        have i1 : wr.drew.cell? _ = _ := T.old (T0.old (hcella 1 _ rfl))
                        rw [Nat.add_zero] at i0
                        rw [add_field _ _ _ (by omega)] at i1
                        obtain ⟨y, hy⟩ : ∃ y, rb[k]? = some y := ⟨_, List.getElem?_eq_getElem gB⟩
                        obtain ⟨adb, c', hvb, _, hcellb⟩ := RdS.at_ hBh.out (j := k) (r := [.int .i64 y.1, .int .i64 y.2]) (by unfold rts; rw [List.getElem?_map, hy]; rfl)
                        injection hvb with e1 e2 e3
                        subst e1 e3
                        clear e2
                        have j0 : wr.drew.cell? _ = _ := T.old (T0.old (hcellb 0 _ rfl))
                        have j1 : wr.drew.cell? _ = _ := T.old (T0.old (hcellb 1 _ rfl))
                        rw [Nat.add_zero] at j0
                        rw [add_field _ _ _ (by omega)] at j1
                        clear hcella hcellb
                        have qA := T.drew
                        clear T
                        by_cases hxy : x = y
                        · have htk2 := take_eq htk hx hy hxy
                          have htkh : Hid _ := htk2
                          subst hxy
                          clear htk htk2 hx hy
                          go_wp2_with fail
                          refine wp_region_flo [(0, true), (1, true), (2, true), (3, true), (4, true), (5, true), (6, true), (7, true), (8, true), (9, true), (10, true)] (fun W => W = _) (by kernel_rfl) rfl (by kernel_rfl) (by intro c d v a w h; cases d <;> first | (simpa [Exit.then, Exit.inBlock, Act.put] using h) | exact h) (rfl) ?_
                          refine flo_read _ rfl (fun K hK => ?_)
                          go_simp
                          first | (refine hK _ ?_) | (refine ⟨fun W hS => ?_, hK _ ?_⟩; · (subst hS; try go_simp))
                          clear hK K
                          refine flo_read _ rfl (fun K hK => ?_)
                          go_simp
                          first | (refine hK _ ?_) | (refine ⟨fun W hS => ?_, hK _ ?_⟩; · (subst hS; try go_simp))
                          clear hK K
                          refine flo_read _ rfl (fun K hK => ?_)
                          go_simp
                          first | (refine hK _ ?_) | (refine ⟨fun W hS => ?_, hK _ ?_⟩; · (subst hS; try go_simp))
                          clear hK K
                          refine flo_read _ rfl (fun K hK => ?_)
                          go_simp
                          first | (refine hK _ ?_) | (refine ⟨fun W hS => ?_, hK _ ?_⟩; · (subst hS; try go_simp))
                          clear hK K
                          refine flo_read _ rfl (fun K hK => ?_)
                          go_simp
                          first | (refine hK _ ?_) | (refine ⟨fun W hS => ?_, hK _ ?_⟩; · (subst hS; try go_simp))
                          clear hK K
                          refine flo_read _ rfl (fun K hK => ?_)
                          go_simp
                          first | (refine hK _ ?_) | (refine ⟨fun W hS => ?_, hK _ ?_⟩; · (subst hS; try go_simp))
                          clear hK K
                          refine flo_read _ rfl (fun K hK => ?_)
                          go_simp
                          first | (refine hK _ ?_) | (refine ⟨fun W hS => ?_, hK _ ?_⟩; · (subst hS; try go_simp))
                          clear hK K
                          refine flo_read _ rfl (fun K hK => ?_)
                          go_simp
                          first | (refine hK _ ?_) | (refine ⟨fun W hS => ?_, hK _ ?_⟩; · (subst hS; try go_simp))
                          clear hK K
                          refine flo_read _ rfl (fun K hK => ?_)
                          go_simp
                          first | (refine hK _ ?_) | (refine ⟨fun W hS => ?_, hK _ ?_⟩; · (subst hS; try go_simp))
                          clear hK K
                          refine flo_read _ rfl (fun K hK => ?_)
                          go_simp
                          first | (refine hK _ ?_) | (refine ⟨fun W hS => ?_, hK _ ?_⟩; · (subst hS; try go_simp))
                          clear hK K
                          refine flo_read _ rfl (fun K hK => ?_)
                          go_simp
                          first | (refine hK _ ?_) | (refine ⟨fun W hS => ?_, hK _ ?_⟩; · (subst hS; try go_simp))
                          clear hK K
                          refine flo_end ?_
                          go_wp2_with fail
                          go_roundw
                          case rel => exact ⟨k + 1, by omega, by go_num, htkh.out, qA⟩
                          case measure => simp [intOf]; omega
                        · have hE : E = false := nrh.out (fun h => hxy (by rw [h, hy] at hx; injection hx with hx; exact hx.symm))
                          have hEh : Hid _ := hE
                          clear hE htk hx hy
                          by_cases hx1 : x.1 = y.1
                          · have hx2 : x.2 ≠ y.2 := fun h => hxy (Prod.ext hx1 h)
                            have q1 : (x.1 == y.1) = true := by simpa using hx1
                            have q2 : (x.2 == y.2) = false := by simpa using hx2
                            have q3 : (x.2 != y.2) = true := by simpa using hx2
                            have q4 : decide (x.1 = y.1) = true := decide_eq_true hx1
                            have q5 : decide (x.2 = y.2) = false := decide_eq_false hx2
                            clear hx1 hx2 hxy
                            go_wp2_with fail
                            refine wp_region_flo [(0, true), (1, true), (2, true), (3, true), (4, true), (5, true), (6, true), (7, true), (8, true), (9, true), (10, true)] (fun W => W = _) (by kernel_rfl) rfl (by kernel_rfl) (by intro c d v a w h; cases d <;> first | (simpa [Exit.then, Exit.inBlock, Act.put] using h) | exact h) (rfl) ?_
                            refine flo_read _ rfl (fun K hK => ?_)
                            go_simp
                            first | (refine hK _ ?_) | (refine ⟨fun W hS => ?_, hK _ ?_⟩; · (subst hS; try go_simp))
                            clear hK K
                            refine flo_read _ rfl (fun K hK => ?_)
                            go_simp
                            first | (refine hK _ ?_) | (refine ⟨fun W hS => ?_, hK _ ?_⟩; · (subst hS; try go_simp))
                            clear hK K
                            refine flo_read _ rfl (fun K hK => ?_)
                            go_simp
                            first | (refine hK _ ?_) | (refine ⟨fun W hS => ?_, hK _ ?_⟩; · (subst hS; try go_simp))
                            clear hK K
                            refine flo_read _ rfl (fun K hK => ?_)
                            go_simp
                            first | (refine hK _ ?_) | (refine ⟨fun W hS => ?_, hK _ ?_⟩; · (subst hS; try go_simp))
                            clear hK K
                            refine flo_read _ rfl (fun K hK => ?_)
                            go_simp
                            first | (refine hK _ ?_) | (refine ⟨fun W hS => ?_, hK _ ?_⟩; · (subst hS; try go_simp))
                            clear hK K
                            refine flo_read _ rfl (fun K hK => ?_)
                            go_simp
                            first | (refine hK _ ?_) | (refine ⟨fun W hS => ?_, hK _ ?_⟩; · (subst hS; try go_simp))
                            clear hK K
                            refine flo_read _ rfl (fun K hK => ?_)
                            go_simp
                            first | (refine hK _ ?_) | (refine ⟨fun W hS => ?_, hK _ ?_⟩; · (subst hS; try go_simp))
                            clear hK K
                            refine flo_read _ rfl (fun K hK => ?_)
                            go_simp
                            first | (refine hK _ ?_) | (refine ⟨fun W hS => ?_, hK _ ?_⟩; · (subst hS; try go_simp))
                            clear hK K
                            refine flo_read _ rfl (fun K hK => ?_)
                            go_simp
                            first | (refine hK _ ?_) | (refine ⟨fun W hS => ?_, hK _ ?_⟩; · (subst hS; try go_simp))
                            clear hK K
                            refine flo_read _ rfl (fun K hK => ?_)
                            go_simp
                            first | (refine hK _ ?_) | (refine ⟨fun W hS => ?_, hK _ ?_⟩; · (subst hS; try go_simp))
                            clear hK K
                            refine flo_read _ rfl (fun K hK => ?_)
                            go_simp
                            first | (refine hK _ ?_) | (refine ⟨fun W hS => ?_, hK _ ?_⟩; · (subst hS; try go_simp))
                            clear hK K
                            refine flo_end ?_
                            go_wp2_with fail
                            go_ret
                            exact ⟨by rw [hEh.out]; rfl, T0.trans qA⟩
                          · have q1 : (x.1 == y.1) = false := by simpa using hx1
                            have q3 : (x.1 != y.1) = true := by simpa using hx1
                            have q4 : decide (x.1 = y.1) = false := decide_eq_false hx1
                            clear hx1 hxy
                            go_wp2_with fail
                            refine wp_region_flo [(0, true), (1, true), (2, true), (3, true), (4, true), (5, true), (6, true), (7, true), (8, true), (9, true), (10, true)] (fun W => W = _) (by kernel_rfl) rfl (by kernel_rfl) (by intro c d v a w h; cases d <;> first | (simpa [Exit.then, Exit.inBlock, Act.put] using h) | exact h) (rfl) ?_
                            refine flo_read _ rfl (fun K hK => ?_)
                            go_simp
                            first | (refine hK _ ?_) | (refine ⟨fun W hS => ?_, hK _ ?_⟩; · (subst hS; try go_simp))
                            clear hK K
                            refine flo_read _ rfl (fun K hK => ?_)
                            go_simp
                            first | (refine hK _ ?_) | (refine ⟨fun W hS => ?_, hK _ ?_⟩; · (subst hS; try go_simp))
                            clear hK K
                            refine flo_read _ rfl (fun K hK => ?_)
                            go_simp
                            first | (refine hK _ ?_) | (refine ⟨fun W hS => ?_, hK _ ?_⟩; · (subst hS; try go_simp))
                            clear hK K
                            refine flo_read _ rfl (fun K hK => ?_)
                            go_simp
                            first | (refine hK _ ?_) | (refine ⟨fun W hS => ?_, hK _ ?_⟩; · (subst hS; try go_simp))
                            clear hK K
                            refine flo_read _ rfl (fun K hK => ?_)
                            go_simp
                            first | (refine hK _ ?_) | (refine ⟨fun W hS => ?_, hK _ ?_⟩; · (subst hS; try go_simp))
                            clear hK K
                            refine flo_read _ rfl (fun K hK => ?_)
                            go_simp
                            first | (refine hK _ ?_) | (refine ⟨fun W hS => ?_, hK _ ?_⟩; · (subst hS; try go_simp))
                            clear hK K
                            refine flo_read _ rfl (fun K hK => ?_)
                            go_simp
                            first | (refine hK _ ?_) | (refine ⟨fun W hS => ?_, hK _ ?_⟩; · (subst hS; try go_simp))
                            clear hK K
                            refine flo_read _ rfl (fun K hK => ?_)
                            go_simp
                            first | (refine hK _ ?_) | (refine ⟨fun W hS => ?_, hK _ ?_⟩; · (subst hS; try go_simp))
                            clear hK K
                            refine flo_read _ rfl (fun K hK => ?_)
                            go_simp
                            first | (refine hK _ ?_) | (refine ⟨fun W hS => ?_, hK _ ?_⟩; · (subst hS; try go_simp))
                            clear hK K
                            refine flo_read _ rfl (fun K hK => ?_)
                            go_simp
                            first | (refine hK _ ?_) | (refine ⟨fun W hS => ?_, hK _ ?_⟩; · (subst hS; try go_simp))
                            clear hK K
                            refine flo_read _ rfl (fun K hK => ?_)
                            go_simp
                            first | (refine hK _ ?_) | (refine ⟨fun W hS => ?_, hK _ ?_⟩; · (subst hS; try go_simp))
                            clear hK K
                            refine flo_end ?_
                            go_wp2_with fail
                            go_ret
                            exact ⟨by rw [hEh.out]; rfl, T0.trans qA⟩

                      · obtain rfl : k = ra.length := by omega
                        have g1 : decide ((ra.length : Int) < (ra.length : Int)) = false := by simp
                        have hE := yesh.out (by rw [List.take_length, hlh.out, List.take_length] at htk; exact htk) h0h.out h1h.out h2h.out h3h.out h4h.out h5h.out h6h.out h7h.out
                        have hEh : Hid _ := hE
                        clear hE htk yesh n0h n1h n2h n3h n4h n5h n6h n7h nrh
                        go_wp2_with fail
                        go_ret
                        exact ⟨by rw [hEh.out]; rfl, T0.trans T⟩
                  · have hE : E = false := nrh.out (fun h => hl (by rw [h]))
                    have ge : ((ra.length : Int) != (rb.length : Int)) = true := by simp; omega
                    have ge2 : (ra.length != rb.length) = true := by simpa using hl
                    have hEh : Hid _ := hE
                    clear hE hl yesh n0h n1h n2h n3h n4h n5h n6h n7h nrh h0 h1 h2 h3 h4 h5 h6 h7
                    go_wp2_with fail
                    go_ret
                    exact ⟨by rw [hEh.out]; rfl, T0⟩
                · have hE : E = false := n7h.out h7
                  have g7e : (a7 == b7) = false := by simpa using h7
                  have g7n : (a7 != b7) = true := by simpa using h7
                  have hEh : Hid _ := hE
                  clear hE h0 h1 h2 h3 h4 h5 h6 h7 yesh n0h n1h n2h n3h n4h n5h n6h n7h nrh
                  go_wp2_with fail
                  go_ret
                  exact ⟨by rw [hEh.out]; rfl, T0⟩
              · have hE : E = false := n6h.out h6
                have g6e : (a6 == b6) = false := by simpa using h6
                have g6n : (a6 != b6) = true := by simpa using h6
                have hEh : Hid _ := hE
                clear hE h0 h1 h2 h3 h4 h5 h6 yesh n0h n1h n2h n3h n4h n5h n6h n7h nrh
                go_wp2_with fail
                go_ret
                exact ⟨by rw [hEh.out]; rfl, T0⟩
            · have hE : E = false := n5h.out h5
              have g5e : (a5 == b5) = false := by simpa using h5
              have g5n : (a5 != b5) = true := by simpa using h5
              have hEh : Hid _ := hE
              clear hE h0 h1 h2 h3 h4 h5 yesh n0h n1h n2h n3h n4h n5h n6h n7h nrh
              go_wp2_with fail
              go_ret
              exact ⟨by rw [hEh.out]; rfl, T0⟩
          · have hE : E = false := n4h.out h4
            have g4e : (a4 == b4) = false := by simpa using h4
            have g4n : (a4 != b4) = true := by simpa using h4
            have hEh : Hid _ := hE
            clear hE h0 h1 h2 h3 h4 yesh n0h n1h n2h n3h n4h n5h n6h n7h nrh
            go_wp2_with fail
            go_ret
            exact ⟨by rw [hEh.out]; rfl, T0⟩
        · have hE : E = false := n3h.out h3
          have g3e : (a3 == b3) = false := by simpa using h3
          have g3n : (a3 != b3) = true := by simpa using h3
          have hEh : Hid _ := hE
          clear hE h0 h1 h2 h3 yesh n0h n1h n2h n3h n4h n5h n6h n7h nrh
          go_wp2_with fail
          go_ret
          exact ⟨by rw [hEh.out]; rfl, T0⟩
      · have hE : E = false := n2h.out h2
        have g2e : (a2 == b2) = false := by simpa using h2
        have g2n : (a2 != b2) = true := by simpa using h2
        have hEh : Hid _ := hE
        clear hE h0 h1 h2 yesh n0h n1h n2h n3h n4h n5h n6h n7h nrh
        go_wp2_with fail
        go_ret
        exact ⟨by rw [hEh.out]; rfl, T0⟩
    · have hE : E = false := n1h.out h1
      have g1e : (a1 == b1) = false := by simpa using h1
      have g1n : (a1 != b1) = true := by simpa using h1
      have hEh : Hid _ := hE
      clear hE h0 h1 yesh n0h n1h n2h n3h n4h n5h n6h n7h nrh
      go_wp2_with fail
      go_ret
      exact ⟨by rw [hEh.out]; rfl, T0⟩
  · have hE : E = false := n0h.out h0
    have g0e : (a0 == b0) = false := by simpa using h0
    have g0n : (a0 != b0) = true := by simpa using h0
    have hEh : Hid _ := hE
    clear hE h0 yesh n0h n1h n2h n3h n4h n5h n6h n7h nrh
    go_wp2_with fail
    go_ret
    exact ⟨by rw [hEh.out]; rfl, T0⟩
end Go.Proofs.Ythnegmpdadkkcaa.Ce
