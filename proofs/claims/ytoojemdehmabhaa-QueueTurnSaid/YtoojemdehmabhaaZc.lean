/- QueuePlays: the arguments opened. -/
import Derived.Test.YtoojemdehmabhaaZb
import Derived.Test.YtoojemdehmabhaaHa
set_option linter.unusedVariables false
set_option linter.unusedSimpArgs false
set_option maxRecDepth 100000
namespace Go.Proofs.Ytoojemdehmabhaa.Zc
open Go.RowKit Go.MapKept Go.ChangeShapes Go.WideShapes Hm Hs Ho Hn Ha Qa Qy
theorem nestIt : Nest Try.prog 34 [kInt .i64, kInt .i64, kInt .i64, kInt .i64, kInt .i64] :=
  nStruct Try.underlying34 (ncons rfl (nInt Try.underlying3 (by kernel_rfl)) (ncons rfl (nInt Try.underlying3 (by kernel_rfl)) (ncons rfl (nInt Try.underlying3 (by kernel_rfl)) (ncons rfl (nInt Try.underlying3 (by kernel_rfl)) (ncons rfl (nInt Try.underlying3 (by kernel_rfl)) nnil rfl) rfl) rfl) rfl) rfl) (by kernel_rfl)
theorem nestAct : Nest Try.prog 36 [kInt .u8, kInt .i64, kInt .i64, kInt .i64, kInt .i64, kInt .i64] :=
  nStruct Try.underlying36 (ncons rfl (nInt Try.underlying5 (by kernel_rfl)) (ncons rfl nestIt nnil rfl) rfl) (by kernel_rfl)
theorem acts_of {W : World} {v : Value} (h : kSlice [kInt .u8, kInt .i64, kInt .i64, kInt .i64, kInt .i64, kInt .i64] W v) : ∃ A c acts, v = .slice A (acts : List Qy.Act).length c ∧ FlatRow W A 6 (acts.map Qy.Act.cells) := by
  obtain ⟨A, c, rows, rfl, hc, hm, hn, hf, hk⟩ := h
  obtain ⟨acts, rfl, _⟩ := rows_of (f := Qy.Act.cells) (p := fun _ => True) (fun r hr => by
    obtain ⟨v0, r0, rfl, ⟨n0, rfl, w0⟩, k0⟩ := (hk r hr).out
    obtain ⟨v1, r1, rfl, ⟨n1, rfl, w1⟩, k1⟩ := k0.out
    obtain ⟨v2, r2, rfl, ⟨n2, rfl, w2⟩, k2⟩ := k1.out
    obtain ⟨v3, r3, rfl, ⟨n3, rfl, w3⟩, k3⟩ := k2.out
    obtain ⟨v4, r4, rfl, ⟨n4, rfl, w4⟩, k4⟩ := k3.out
    obtain ⟨v5, r5, rfl, ⟨n5, rfl, w5⟩, k5⟩ := k4.out
    obtain rfl := k5.none
    exact ⟨⟨n0, ⟨n1, n2, n3, n4, n5⟩⟩, rfl, trivial⟩)
  exact ⟨A, c, acts, by rw [List.length_map], hf⟩
theorem plays_opened {H : Type} (enc : TypeId × Value → H) (W : World) {base : Nat} {v0 v1 v2 : Value} {d0 d1 d2 : DataW H} {p0 p1 p2 : List MemPlace} (h0 : DataW.Trod enc Try.prog W 0 (fun _ => true) true 3 v0 d0 p0)
    (h1 : DataW.Trod enc Try.prog W 0 (fun _ => true) true 22 v1 d1 p1) (h2 : DataW.Trod enc Try.prog W 0 (fun _ => true) true 3 v2 d2 p2)
    (o0 : Value.okWide Try.prog W .any base 3 v0) (o1 : Value.okWide Try.prog W .any base 22 v1) (o2 : Value.okWide Try.prog W .any base 3 v2) :
    Calls Try.prog 7 #[v0, v1, v2] W fun e w' => e = .returned (.bool true) ∧ Below W.heap.size W w' := by
  obtain ⟨room, rfl, _⟩ := arg_int Try.underlying3 (by kernel_rfl) h0 o0
  obtain ⟨A, c, acts, rfl, hf⟩ := acts_of (arg_slice Try.underlying22 nestAct (by kernel_rfl) h1 o1)
  obtain ⟨key, rfl, _⟩ := arg_int Try.underlying3 (by kernel_rfl) h2 o2
  exact (Zb.plays_is W room A c acts key hf).mono fun e w' ⟨he, t⟩ => ⟨he, t.isBelow⟩
end Go.Proofs.Ytoojemdehmabhaa.Zc
