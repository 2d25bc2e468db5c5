/- The law VaultPlays: its arguments opened. -/
import Derived.Test.YtknmjmhiejmjdaaVu
set_option linter.unusedVariables false
set_option linter.unusedSimpArgs false
set_option maxRecDepth 100000
namespace Go.Proofs.Ytknmjmhiejmjdaa.Vv
open Go.RowKit Go.MapKept Go.ChangeShapes Go.WideShapes Hm Hs Hr Hb Hf Hg Hv Ho Hx Va Vt Hn Ha
theorem nestState : Nest Try.prog 25 [kInt .i64, kInt .i64, kInt .i64, kInt .i64] :=
  nStruct Try.underlying25 (ncons rfl (nInt Try.underlying3 (by kernel_rfl)) (ncons rfl (nInt Try.underlying3 (by kernel_rfl)) (ncons rfl (nInt Try.underlying3 (by kernel_rfl)) (ncons rfl (nInt Try.underlying3 (by kernel_rfl)) nnil rfl) rfl) rfl) rfl) (by kernel_rfl)
theorem nestAct : Nest Try.prog 44 [kInt .u8, kInt .i64, kInt .i64, kInt .i64, kInt .i64, kInt .i64] :=
  nStruct Try.underlying44 (ncons rfl (nInt Try.underlying5 (by kernel_rfl)) (ncons rfl nestState (ncons rfl (nInt Try.underlying3 (by kernel_rfl)) nnil rfl) rfl) rfl) (by kernel_rfl)
theorem nestTwo : Nest Try.prog 26 (List.replicate 2 [kInt .i64, kInt .i64, kInt .i64, kInt .i64]).flatten := nArray Try.underlying26 nestState (by kernel_rfl)
theorem opened {H : Type} (enc : TypeId × Value → H) (W : World) {base : Nat} {v0 v1 v2 : Value} {d0 d1 d2 : DataW H} {p0 p1 p2 : List MemPlace} (h0 : DataW.Trod enc Try.prog W 0 (fun _ => true) true 22 v0 d0 p0)
    (h1 : DataW.Trod enc Try.prog W 0 (fun _ => true) true 23 v1 d1 p1) (h2 : DataW.Trod enc Try.prog W 0 (fun _ => true) true 26 v2 d2 p2)
    (o0 : Value.okWide Try.prog W .any base 22 v0) (o1 : Value.okWide Try.prog W .any base 23 v1) (o2 : Value.okWide Try.prog W .any base 26 v2) :
    Calls Try.prog 3 #[v0, v1, v2] W fun e w' => e = .returned (.bool true) ∧ Below W.heap.size W w' := by
  obtain ⟨room, rfl, hroom⟩ := arg_int Try.underlying22 (by kernel_rfl) h0 o0
  obtain ⟨A, c, rows, rfl, hc, hm, hn, hf, hk⟩ := arg_slice Try.underlying23 nestAct (by kernel_rfl) h1 o1
  obtain ⟨acts, rfl, ha⟩ := rows_of (f := Ac.cells) (p := fun a => 0 ≤ a.kind ∧ a.kind ≤ 255) (fun r hr => by
    obtain ⟨v0, r0, rfl, ⟨n0, rfl, w0⟩, k0⟩ := (hk r hr).out
    obtain ⟨v1, r1, rfl, ⟨n1, rfl, w1⟩, k1⟩ := k0.out
    obtain ⟨v2, r2, rfl, ⟨n2, rfl, w2⟩, k2⟩ := k1.out
    obtain ⟨v3, r3, rfl, ⟨n3, rfl, w3⟩, k3⟩ := k2.out
    obtain ⟨v4, r4, rfl, ⟨n4, rfl, w4⟩, k4⟩ := k3.out
    obtain ⟨v5, r5, rfl, ⟨n5, rfl, w5⟩, k5⟩ := k4.out
    obtain rfl := k5.none
    exact ⟨⟨n0, ⟨n1, n2, n3, n4⟩, n5⟩, rfl, u8_bd w0⟩)
  obtain ⟨cs, rfl, hk2⟩ := arg_array Try.underlying26 nestTwo h2 o2
  obtain ⟨v0, r0, rfl, ⟨n0, rfl, w0⟩, k0⟩ := hk2.out
  obtain ⟨v1, r1, rfl, ⟨n1, rfl, w1⟩, k1⟩ := k0.out
  obtain ⟨v2, r2, rfl, ⟨n2, rfl, w2⟩, k2⟩ := k1.out
  obtain ⟨v3, r3, rfl, ⟨n3, rfl, w3⟩, k3⟩ := k2.out
  obtain ⟨v4, r4, rfl, ⟨n4, rfl, w4⟩, k4⟩ := k3.out
  obtain ⟨v5, r5, rfl, ⟨n5, rfl, w5⟩, k5⟩ := k4.out
  obtain ⟨v6, r6, rfl, ⟨n6, rfl, w6⟩, k6⟩ := k5.out
  obtain ⟨v7, r7, rfl, ⟨n7, rfl, w7⟩, k7⟩ := k6.out
  obtain rfl := k7.none
  rw [List.length_map]
  exact (Vu.plays_is W room A c acts ⟨n0, n1, n2, n3⟩ ⟨n4, n5, n6, n7⟩ hf ha (u16_bd hroom)).mono fun e w' ⟨he, t⟩ => ⟨he, t.isBelow⟩
end Go.Proofs.Ytknmjmhiejmjdaa.Vv
