/- LedgerIdle: the arguments opened. -/
import Derived.Test.YtphhfdlhkginkaaJh
import Derived.Test.YtphhfdlhkginkaaNo
set_option linter.unusedVariables false
set_option linter.unusedSimpArgs false
set_option maxRecDepth 100000
namespace Go.Proofs.Ytphhfdlhkginkaa.Ji
open Go.RowKit Go.MapKept Go.ChangeShapes Go.WideShapes Hm Hs Ho Hn Ha Hv Fa Ba Ca Ja No
theorem i64_wf {n : Int} (h : (Lit.int .i64 n).wf = true) : -9223372036854775808 ≤ n ∧ n ≤ 9223372036854775807 := by
  simp [Lit.wf, IntKind.min, IntKind.max, IntKind.signed, IntKind.bits] at h
  omega
theorem nestRate : Nest Try.prog 44 [kInt .i64, kInt .i64] :=
  nStruct Try.underlying44 (ncons rfl (nInt Try.underlying3 (by kernel_rfl)) (ncons rfl (nInt Try.underlying3 (by kernel_rfl)) nnil rfl) rfl) (by kernel_rfl)
theorem nestRates : Nest Try.prog 25 [kSlice [kInt .i64, kInt .i64]] := nSlice Try.underlying25 nestRate (by kernel_rfl)
theorem nestConf : Nest Try.prog 27 [kInt .i64, kInt .i64, kInt .i64, kInt .i64, kInt .i64, kInt .i64, kInt .i64, kInt .i64, kSlice [kInt .i64, kInt .i64]] :=
  nStruct Try.underlying27 (ncons rfl (nInt Try.underlying3 (by kernel_rfl)) (ncons rfl (nInt Try.underlying3 (by kernel_rfl)) (ncons rfl (nInt Try.underlying3 (by kernel_rfl)) (ncons rfl (nInt Try.underlying3 (by kernel_rfl)) (ncons rfl (nInt Try.underlying3 (by kernel_rfl)) (ncons rfl (nInt Try.underlying3 (by kernel_rfl)) (ncons rfl (nInt Try.underlying3 (by kernel_rfl)) (ncons rfl (nInt Try.underlying3 (by kernel_rfl)) (ncons rfl nestRates nnil rfl) rfl) rfl) rfl) rfl) rfl) rfl) rfl) rfl) (by kernel_rfl)
theorem conf_of {W : World} {cs : List Value} (h : Kds W [kInt .i64, kInt .i64, kInt .i64, kInt .i64, kInt .i64, kInt .i64, kInt .i64, kInt .i64, kSlice [kInt .i64, kInt .i64]] cs) : ∃ c : Cfg, .agg cs.toArray = c.v ∧ RdS 2 W c.rv (rts c.rates) := by
  obtain ⟨v0, r0, rfl, ⟨n0, rfl, w0⟩, k0⟩ := h.out
  obtain ⟨v1, r1, rfl, ⟨n1, rfl, w1⟩, k1⟩ := k0.out
  obtain ⟨v2, r2, rfl, ⟨n2, rfl, w2⟩, k2⟩ := k1.out
  obtain ⟨v3, r3, rfl, ⟨n3, rfl, w3⟩, k3⟩ := k2.out
  obtain ⟨v4, r4, rfl, ⟨n4, rfl, w4⟩, k4⟩ := k3.out
  obtain ⟨v5, r5, rfl, ⟨n5, rfl, w5⟩, k5⟩ := k4.out
  obtain ⟨v6, r6, rfl, ⟨n6, rfl, w6⟩, k6⟩ := k5.out
  obtain ⟨v7, r7, rfl, ⟨n7, rfl, w7⟩, k7⟩ := k6.out
  obtain ⟨v8, r8, rfl, k8, k9⟩ := k7.out
  obtain rfl := k9.none
  obtain ⟨l, hl, _⟩ := kSlice.list (f := fun r : Int × Int => [Value.int .i64 r.1, Value.int .i64 r.2]) (p := fun _ => True) k8 (fun r hr => by
    obtain ⟨u0, s0, rfl, ⟨m0, rfl, _⟩, j0⟩ := hr.out
    obtain ⟨u1, s1, rfl, ⟨m1, rfl, _⟩, j1⟩ := j0.out
    obtain rfl := j1.none
    exact ⟨(m0, m1), rfl, trivial⟩)
  exact ⟨⟨n0, n1, n2, n3, n4, n5, n6, n7, v8, l⟩, rfl, hl⟩
theorem tab_of {W : World} {cs : List Value} (h : Kds W [kInt .i64, kSlice kdRow] cs) : ∃ start v R, cs = [.int .i64 start, v] ∧ RT W v R := by
  obtain ⟨v0, r0, rfl, ⟨n0, rfl, w0⟩, k0⟩ := h.out
  obtain ⟨v1, r1, rfl, kr, k1⟩ := k0.out
  obtain rfl := k1.none
  obtain ⟨R, hR⟩ := rt_of kr
  exact ⟨n0, v1, R, rfl, hR⟩
theorem flatTwo : Nest Try.prog 53 [kInt .i64, kInt .i64] := nArray (n := 2) Try.underlying53 (nInt Try.underlying3 (by kernel_rfl)) (by kernel_rfl)
theorem idle_opened {H : Type} (enc : TypeId × Value → H) (W : World) {base : Nat} {v0 v1 v2 : Value} {d0 d1 d2 : DataW H} {p0 p1 p2 : List MemPlace} (h0 : DataW.Trod enc Try.prog W 0 (fun _ => true) true 24 v0 d0 p0)
    (h1 : DataW.Trod enc Try.prog W 0 (fun _ => true) true 27 v1 d1 p1) (h2 : DataW.Trod enc Try.prog W 0 (fun _ => true) true 53 v2 d2 p2)
    (o0 : Value.okWide Try.prog W .any base 24 v0) (o1 : Value.okWide Try.prog W .any base 27 v1) (o2 : Value.okWide Try.prog W .any base 53 v2) :
    Calls Try.prog 5 #[v0, v1, v2] W fun e w' => e = .returned (.bool true) ∧ Below W.heap.size W w' := by
  obtain ⟨cs, rfl, ka⟩ := arg_struct Try.underlying24 nestTab h0 o0
  obtain ⟨ds, rfl, kb⟩ := arg_struct Try.underlying27 nestConf h1 o1
  obtain ⟨es, rfl, k2⟩ := arg_array Try.underlying53 flatTwo h2 o2
  obtain ⟨_, r0, rfl, ⟨a, rfl, wa⟩, k3⟩ := k2.out
  obtain ⟨_, r1, rfl, ⟨n, rfl, wn⟩, k4⟩ := k3.out
  obtain rfl := k4.none
  obtain ⟨start, v, R, rfl, hR⟩ := tab_of ka
  obtain ⟨c, ec, hc⟩ := conf_of kb
  rw [ec]
  exact (Jh.idle_law W start v R c a n hR hc).mono fun e w' ⟨he, t⟩ => ⟨he, t.isBelow⟩
end Go.Proofs.Ytphhfdlhkginkaa.Ji
