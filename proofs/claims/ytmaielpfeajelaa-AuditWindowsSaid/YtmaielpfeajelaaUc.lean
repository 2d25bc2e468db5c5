/- The walk of audit.Budget. -/
import Derived.Test.YtmaielpfeajelaaUb
set_option linter.unusedVariables false
set_option linter.unusedSimpArgs false
set_option maxRecDepth 100000
namespace Go.Proofs.Ytmaielpfeajelaa.Uc
open Go.RowKit Go.MapKept Hm Hs Hf Hg Hv Hx Hy Sm Sat Mu Ss Ua Ub
/-- what Budget tells -/
def budV (o : Option (Int × Int)) : Value := match o with
  | some (a, u) => .tuple #[.int .i64 a, .int .i64 u, .bool false]
  | none => .tuple #[.int .i64 0, .int .i64 0, .bool true]
theorem icell {w : World} {v : Value} {l : List Int} {j : Nat} {x : Int} (h : RdS 1 w v (ins l)) (hj : l[j]? = some x) : ∃ ad c, v = .slice (some ad) l.length c ∧ w.cell? (ad.add j) = some (.int .i64 x) := by
  obtain ⟨ad, c, hv, _, hc⟩ := h.at_ (j := j) (r := [.int .i64 x]) (by unfold ins; rw [List.getElem?_map, hj]; rfl)
  rw [ins_len] at hv
  have := hc 0 _ rfl
  rw [Nat.mul_one, Nat.add_zero] at this
  exact ⟨ad, c, hv, this⟩
theorem getD_of {l : List Int} {j : Nat} {x : Int} (h : l[j]? = some x) : l.getD j 0 = x := by rw [List.getD_eq_getElem?_getD, h]; rfl
set_option maxHeartbeats 2000000 in
theorem budget_is (w : World) (v : Value) (l : List Gr) (key R B skew : Int) (h : RdS 4 w v (l.map Gr.cells)) (hn : l.length ≤ 100000) (r : Option (Int × Int)) (hr : bout l key R B skew (onces (tms l key)) (onces (tms l key)).length 0 = r) :
    Calls Try.prog 8 #[v, .int .i64 key, .agg #[.int .i64 R, .int .i64 B], .int .i64 skew] w fun e w' => e = .returned (budV r) ∧ Turns [] w w' := by
  have hh := Lib.hid h
  have T0 := (Turns.refl [] w).alloc (.cells #[.int .i64 R, .int .i64 B] 24)
  have b0 := Blk.new w #[.int .i64 R, .int .i64 B] 24
  have Th := Lib.hid (times_is _ v l key (h.mv (fun a u => T0.old)) hn)
  obtain ⟨A, c, rfl, _⟩ := h.form
  have hlen := onces_len (tms l key)
  have hlen2 := tms_len l key
  have hbnd : ∀ x ∈ onces (tms l key), 0 ≤ x ∧ x ≤ 4611686018427387904 := fun x hx => by
    have h1 := (onces_mem _ x).1 hx
    unfold tms at h1
    obtain ⟨g, _, rfl⟩ := List.mem_map.1 h1
    exact fit_bd _
  rw [List.length_map] at Th ⊢
  generalize onces (tms l key) = all at *
  have hbh := Lib.hid hbnd
  have hrh := Lib.hid hr
  obtain ⟨X, hX⟩ : ∃ X : Ending → World → Prop, X = fun e w' => e = .returned (budV r) ∧ Turns [] w w' := ⟨_, rfl⟩
  rw [← hX]
  have hXs : Hid (∀ w' a u, r = some (a, u) → Turns [] w w' → X (.returned (.tuple #[.int .i64 a, .int .i64 u, .bool false])) w') := Lib.hid (fun w' a u e t => by rw [hX, e]; exact ⟨rfl, t⟩)
  have hXn : Hid (∀ w', r = none → Turns [] w w' → X (.returned (.tuple #[.int .i64 0, .int .i64 0, .bool true])) w') := Lib.hid (fun w' e t => by rw [hX, e]; exact ⟨rfl, t⟩)
  clear h hX hr hbnd
  go_enter Try.func8, Try.ntmps8
  go_wp2_with fail
  go_at_call 27
  refine Calls.mono (Th.out) ?_
  rintro e w1 ⟨u, rfl, o1, t1⟩
  have T1 := T0.trans t1
  have b1 := b0.turns t1 (by simp)
  have ord := Lib.hid o1.reads
  obtain ⟨A2, c2, rfl, _⟩ := formI o1
  clear o1 t1 T0 b0 Th
  go_wp2_with fail
  go_loopw [21] (fun v21 wr => ∃ (i : Nat), i ≤ all.length ∧ v21 = .int .i64 i ∧ bout l key R B skew all (all.length - i) i = r ∧ Turns [] w1 wr) (fun v21 _ => all.length - (RowKit.intOf v21).toNat)
  case atStart => exact ⟨0, by omega, rfl, hrh.out, Turns.refl _ _⟩
  case round =>
    obtain ⟨i, hi, rfl, hbo, T⟩ := hrel
    by_cases hlt : i < all.length
    · have g1 : decide ((i : Int) < (all.length : Int)) = true := by simp; omega
      obtain ⟨x, hx⟩ : ∃ x, all[i]? = some x := ⟨_, List.getElem?_eq_getElem hlt⟩
      obtain ⟨ad, c', hv, L⟩ := icell ord.out hx
      injection hv with e1 e2 e3
      subst e1 e3
      have i0 := T.old L
      obtain ⟨m, hm⟩ : ∃ m, all.length - i = m + 1 := ⟨all.length - i - 1, by omega⟩
      rw [hm] at hbo
      unfold bout at hbo
      have hm2 : all.length - (i + 1) = m := by omega
      rw [← hm2] at hbo
      have hxd := Lib.hid (getD_of hx)
      have hxb := Lib.hid (hbh.out x (List.mem_of_getElem? hx))
      have hbo2 := Lib.hid hbo
      clear hx L e2 hm hm2 hbo
      go_wp2_with fail
      go_loopw [14] (fun v14 wr => ∃ (n : Nat), n ≤ i + 1 ∧ v14 = .int .i64 ((n : Int) - 1) ∧ (match bin l key R B skew all i n with | some r' => some r' | none => bout l key R B skew all (all.length - (i + 1)) (i + 1)) = r ∧ Turns [] w1 wr) (fun v14 _ => (RowKit.intOf v14 + 1).toNat)
      case atStart => exact ⟨i + 1, by omega, by simp, hbo2.out, T⟩
      case round =>
        clear T i0
        obtain ⟨n, hn2, rfl, hbi, T⟩ := hrel
        cases n with
        | zero =>
          have g2 : decide (((0 : Nat) : Int) - 1 ≥ 0) = false := by simp
          unfold bin at hbi
          have hbih := Lib.hid hbi
          clear hbi
          go_wp2_with fail
          go_roundw
          case rel => exact ⟨i + 1, by omega, by go_num, hbih.out, T⟩
          case measure => simp [RowKit.intOf]; omega
        | succ k =>
          have g2 : decide ((((k + 1 : Nat) : Int) - 1) ≥ 0) = true := by simp
          have e9 : (((k + 1 : Nat) : Int) - 1) = (k : Int) := by omega
          rw [e9] at g2 ⊢
          obtain ⟨y, hy⟩ : ∃ y, all[k]? = some y := ⟨_, List.getElem?_eq_getElem (by omega)⟩
          obtain ⟨ad2, c2', hv2, L2⟩ := icell ord.out hy
          injection hv2 with e1 e2 e3
          injection e1 with e1
          subst e1 e3
          have i1 := T.old L2
          have hyb := hbh.out y (List.mem_of_getElem? hy)
          have hxb2 := hxb.out
          have hw1 : IntKind.i64.wrap (y - 1) = y - 1 := IntWalk.i64_in _ (by omega)
          have hw2 : IntKind.i64.wrap (x - (y - 1)) = x - (y - 1) := IntWalk.i64_in _ (by omega)
          unfold bin bad at hbi
          rw [getD_of hy, hxd.out] at hbi
          have Tw := T1.trans T
          have Tw0 := Lib.hid Tw
          have Th0 := Lib.hid T
          have Sp := Lib.hid (fun W (t : Turns [] w W) => spent_is W _ l key (y - 1) x (hh.out.mv (fun a u => t.old)) hn)
          rw [List.length_map] at Sp
          have b2 := b1.turns T (by simp)
          have hbih := Lib.hid hbi
          clear hbi hy L2 e2 hyb hxb2 e9 Tw
          go_wp2_with fail
          go_wp2_with fail
          refine wp_region_flo [(0, true), (1, true), (2, true), (3, true), (5, true), (6, true), (7, true), (8, true), (9, true), (4, false), (10, false), (11, true)] (fun W => Turns [] wr.drew W) (by kernel_rfl) rfl (by kernel_rfl) (by intro c d v a w h; cases d <;> first | (simpa [Exit.then, Exit.inBlock, Act.put] using h) | exact h) (Turns.refl _ _) ?_
          have c0 : wr.drew.cell? ⟨w.heap.size, 0, none⟩ = some _ := b2.cell 0
          have c1 : wr.drew.cell? ⟨w.heap.size, 1, none⟩ = some _ := b2.cell 1
          have Td := Lib.hid (Tw0.out.drew)
          have Te := Lib.hid (Th0.out.drew)
          generalize wr.drew = w3 at *
          refine flo_read _ rfl (fun K hK => ?_)
          go_simp
          first | (refine hK _ ?_) | (refine ⟨fun W hS => ?_, hK _ ?_⟩; · (have x0 := hS.old c0; have x1 := hS.old c1; try go_simp))
          clear hK K
          refine flo_read _ rfl (fun K hK => ?_)
          go_simp
          first | (refine hK _ ?_) | (refine ⟨fun W hS => ?_, hK _ ?_⟩; · (have x0 := hS.old c0; have x1 := hS.old c1; try go_simp))
          clear hK K
          refine flo_read _ rfl (fun K hK => ?_)
          go_simp
          first | (refine hK _ ?_) | (refine ⟨fun W hS => ?_, hK _ ?_⟩; · (have x0 := hS.old c0; have x1 := hS.old c1; try go_simp))
          clear hK K
          refine flo_read _ rfl (fun K hK => ?_)
          go_simp
          first | (refine hK _ ?_) | (refine ⟨fun W hS => ?_, hK _ ?_⟩; · (have x0 := hS.old c0; have x1 := hS.old c1; try go_simp))
          clear hK K
          refine flo_read _ rfl (fun K hK => ?_)
          go_simp
          first | (refine hK _ ?_) | (refine ⟨fun W hS => ?_, hK _ ?_⟩; · (have x0 := hS.old c0; have x1 := hS.old c1; try go_simp))
          clear hK K
          refine flo_read _ rfl (fun K hK => ?_)
          go_simp
          first | (refine hK _ ?_) | (refine ⟨fun W hS => ?_, hK _ ?_⟩; · (have x0 := hS.old c0; have x1 := hS.old c1; try go_simp))
          clear hK K
          refine flo_read _ rfl (fun K hK => ?_)
          go_simp
          first | (refine hK _ ?_) | (refine ⟨fun W hS => ?_, hK _ ?_⟩; · (have x0 := hS.old c0; have x1 := hS.old c1; try go_simp))
          clear hK K
          refine flo_read _ rfl (fun K hK => ?_)
          go_simp
          first | (refine hK _ ?_) | (refine ⟨fun W hS => ?_, hK _ ?_⟩; · (have x0 := hS.old c0; have x1 := hS.old c1; try go_simp))
          clear hK K
          refine flo_read _ rfl (fun K hK => ?_)
          go_simp
          first | (refine hK _ ?_) | (refine ⟨fun W hS => ?_, hK _ ?_⟩; · (have x0 := hS.old c0; have x1 := hS.old c1; try go_simp))
          clear hK K
          refine flo_alone _ rfl ?_
          go_wp2_with fail
          go_at_call 9
          refine Calls.mono (Sp.out _ Td.out) ?_
          rintro e w4 ⟨rfl, t4⟩
          go_wp2_with fail
          refine ⟨fun W => Turns [] w4 W, fun W h => t4.trans h, Turns.refl _ _, ?_⟩
          refine flo_alone _ rfl ?_
          go_wp2_with fail
          go_at_call 10
          refine Calls.mono (allowed_is R B skew (x - (y - 1)) _) ?_
          rintro e w5 ⟨rfl, t5⟩
          go_wp2_with fail
          refine ⟨fun W => Turns [] w5 W, fun W h => t5.trans h, Turns.refl _ _, ?_⟩
          have T5 := Lib.hid ((Td.out.trans t4).trans t5)
          have T6 := Lib.hid ((Te.out.trans t4).trans t5)
          clear t4 t5 c0 c1 b2 i1
          refine flo_read _ rfl (fun K hK => ?_)
          go_simp
          first | (refine hK _ ?_) | (refine ⟨fun W hS => ?_, hK _ ?_⟩; · (skip; try go_simp))
          clear hK K
          refine flo_end ?_
          by_cases hbad : spent l key (y - 1) x > allowed R B skew (x - (y - 1))
          · have g3 := decide_eq_true hbad
            have g4 : decide (allowed R B skew (x - (y - 1)) < spent l key (y - 1) x) = true := g3
            have hb2 := hbih.out
            rw [if_pos g3] at hb2
            have hX := hXs.out w5 (y - 1) x hb2.symm T5.out
            have g5 : allowed R B skew (x - (y - 1)) < spent l key (y - 1) x := hbad
            have g6 : ¬ (spent l key (y - 1) x ≤ allowed R B skew (x - (y - 1))) := by omega
            clear hb2 hbad
            go_wp2_with fail
            go_ret3
            exact hX
          · have g3 : decide (spent l key (y - 1) x > allowed R B skew (x - (y - 1))) = false := decide_eq_false hbad
            have g4 : decide (allowed R B skew (x - (y - 1)) < spent l key (y - 1) x) = false := g3
            have hb2 := hbih.out
            rw [if_neg (by rw [g3]; simp)] at hb2
            have hb2h := Lib.hid hb2
            have hw3 : IntKind.i64.wrap ((k : Int) - 1) = (k : Int) - 1 := IntWalk.i64_in _ (by omega)
            have g5 : spent l key (y - 1) x ≤ allowed R B skew (x - (y - 1)) := by omega
            have g6 : ¬ (allowed R B skew (x - (y - 1)) < spent l key (y - 1) x) := by omega
            clear hb2 hbad
            go_wp2_with fail
            go_roundw
            case rel => exact ⟨k, by omega, rfl, hb2h.out, T6.out⟩
            case measure => simp [RowKit.intOf]
    · obtain rfl : i = all.length := by omega
      have g1 : decide ((all.length : Int) < (all.length : Int)) = false := by simp
      rw [Nat.sub_self] at hbo
      unfold bout at hbo
      have hX := hXn.out wr hbo.symm (T1.trans T)
      clear hbo
      go_wp2_with fail
      go_ret3
      exact hX
end Go.Proofs.Ytmaielpfeajelaa.Uc
