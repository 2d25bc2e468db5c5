/- The walk of annonalaw04.alive. -/
import Derived.Test.YthnegmpdadkkcaaKt
set_option linter.unusedVariables false
set_option linter.unusedSimpArgs false
set_option maxRecDepth 100000
namespace Go.Proofs.Ythnegmpdadkkcaa.Ka
open Go.RowKit Go.MapKept Hm Hs Hr Hb Hf Hg Hv Kw Kn Kr Ks
def aliveB : List Int := [0, 0, 0, 0, 0, 0, 1, 2, 128, 0, 0, 0, 0, 0, 0, 0]
theorem aliveB_is : [] ++ putR ([258].map u64) ++ be8 9223372036854775808 = aliveB := by decide +kernel
theorem aliveB_byt : Byt aliveB := by unfold Byt; decide +kernel
theorem aliveB_str : strB aliveB = ⟨#[0, 0, 0, 0, 0, 0, 1, 2, 128, 0, 0, 0, 0, 0, 0, 0]⟩ := by decide +kernel
/-- a new writer -/
theorem newW (w : World) : IsW w.heap.size (w.alloc (.cells #[.slice none 0 0, .bool false] 28)) w.heap.size (.slice none 0 0) [] false :=
  ⟨Blk.new w _ _, OwnS.nil _ _ _, Nat.le_refl _, by simp [Value.ownBlock], ((Turns.refl [] w).alloc _).size⟩
/-- one number, as a slice of its own -/
theorem oneI (w : World) (x : Int) : RdS 1 (w.alloc (.cells #[.int .i64 x] 3)) (.slice (some ⟨w.heap.size, 0, none⟩) 1 1) (ins [x]) :=
  RdS.of_cells (rows := ins [x]) (heap_alloc w (.cells #[.int .i64 x] 3)).1 rfl (by simp [ins]) 1 (by simp [ins]) (by decide)
theorem alive_is (w : World) : Calls Try.prog 12 #[] w fun e w' => e = .returned (.bool true) ∧ Turns [] w w' := by
  have hI := newW w
  have T0 := (Turns.refl [] w).alloc (.cells #[.slice none 0 0, .bool false] 28)
  have hI1 := hI.turns ((Turns.refl [] _).alloc (.cells #[.int .i64 258] 3))
  have hR := oneI (w.alloc (.cells #[.slice none 0 0, .bool false] 28)) 258
  have T1 := T0.alloc (.cells #[.int .i64 258] 3)
  rw [show (w.alloc (.cells #[.slice none 0 0, .bool false] 28)).heap.size = w.heap.size + 1 from by simp] at hR
  have e0 : (false || !([258].all okNum)) = false := by decide +kernel
  have e0h : Hid _ := e0
  have hRh : Hid _ := hR
  have hIh : Hid _ := hI1
  have T1h : Hid _ := T1
  clear hI hI1 hR T0 T1 e0
  go_enter Try.func12, Try.ntmps12
  go_wp2_with fail
  go_at_call 14
  refine Calls.mono (num_is w.heap.size _ w.heap.size _ [] false hIh.out _ [258] hRh.out (.inr (by simp)) (by simp) (by simp)) ?_
  rintro e w2 ⟨rfl, ⟨bv2, h2⟩, l2⟩
  rw [e0h.out] at h2
  have T2 := T1h.out.below l2 (Nat.le_refl _)
  go_wp2_with fail
  go_at_call 13
  refine Calls.mono (bits_is w.heap.size 9223372036854775808 (by omega) _ _ bv2 _ _ h2 (by decide +kernel)) ?_
  rintro e w3 ⟨rfl, ⟨bv3, h3⟩, l3⟩
  have T3 := T2.below l3 (Nat.le_refl _)
  rw [aliveB_is] at h3
  go_wp2_with fail
  go_at_call 15
  refine Calls.mono (done_ok w.heap.size _ _ bv3 _ h3 (by decide)) ?_
  rintro e w4 ⟨v, rfl, ho, t4, hf⟩
  have T4 := T3.trans t4
  obtain ⟨A, c, hv, _⟩ := ho.form
  rw [show (bys aliveB).length = 16 from rfl] at hv
  subst hv
  clear T1h hRh hIh e0h h2 h3 l2 l3 t4 T2 T3
  go_wp2_with fail
  go_at_call 18
  refine Calls.mono (Kt.read_is _ _ aliveB ho.reads (by decide) aliveB_byt) ?_
  rintro e w5 ⟨b, own, rfl, i5, t5, hb5, hk5⟩
  have T5 := T4.trans t5
  have ho5 := ho.turns t5 (by simp)
  have hne5 : ∀ k, (Value.slice A 16 c).ownBlock = some k → k ∉ [b] := fun k hk => by have := ho.lt hk; simp; omega
  have hbw : w.heap.size ≤ b := Nat.le_trans T4.size hb5
  have e6 : St.upto ⟨aliveB, false⟩ 4611686018427387904 = (258, ⟨[128, 0, 0, 0, 0, 0, 0, 0], false⟩) := by kernel_rfl
  have hN6 := Kt.num_is _ b own _ i5 (by decide)
  rw [e6] at hN6
  have hN6h : Hid _ := hN6
  clear e6 hN6 i5 t5
  go_wp2_with fail
  go_at_call 19
  refine Calls.mono (hN6h.out) ?_
  rintro e w6 ⟨rfl, i6, t6⟩
  have T6 := T5.then t6 (by simpa using hbw)
  have ho6 := ho5.turns t6 hne5
  have e7 : St.bits ⟨[128, 0, 0, 0, 0, 0, 0, 0], false⟩ = (9223372036854775808, ⟨[], false⟩) := by kernel_rfl
  have hN7 := rbits_is _ b own _ i6 (by decide)
  rw [e7] at hN7
  have hN7h : Hid _ := hN7
  clear e7 hN7 i6 t6 hN6h
  go_wp2_with fail
  go_at_call 21
  refine Calls.mono (hN7h.out) ?_
  rintro e w7 ⟨rfl, i7, t7⟩
  have T7 := T6.then t7 (by simpa using hbw)
  have ho7 := ho6.turns t7 hne5
  have e8 : St.done ⟨[], false⟩ = 0 := by kernel_rfl
  have hN8 := Kt.rdone_is _ b own _ i7
  rw [e8] at hN8
  have hN8h : Hid _ := hN8
  clear e8 hN8 i7 t7 hN7h
  go_wp2_with fail
  go_at_call 25
  refine Calls.mono (hN8h.out) ?_
  rintro e w8 ⟨rfl, t8⟩
  have T8 := T7.trans t8
  have ho8 := ho7.turns t8 (by simp)
  have hs := RdS.str (P := Try.prog) (dst := 9) ho8.reads Try.underlying26 Try.underlying5 Try.underlying9
  rw [aliveB_str] at hs
  clear ho ho5 ho6 ho7 ho8 hN8h
  go_wp2_with fail
  go_ret
  exact ⟨rfl, T8⟩
end Go.Proofs.Ythnegmpdadkkcaa.Ka
