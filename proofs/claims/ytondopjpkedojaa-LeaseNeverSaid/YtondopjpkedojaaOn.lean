/- The arguments of LeaseNever opened, and the law's walk over them. -/
import Derived.Test.YtondopjpkedojaaLn
import Derived.Test.YtondopjpkedojaaHo
set_option linter.unusedVariables false
set_option linter.unusedSimpArgs false
set_option maxRecDepth 100000
namespace Go.Proofs.Ytondopjpkedojaa.On
open Go.RowKit Hm Ho Lw Ln Go.ChangeShapes Go.WideShapes
theorem flatLease : Flat Try.prog 33 [.int .i64, .int .i64, .int .i64, .int .i64, .int .i64] :=
  flat_struct Try.underlying33 (fcons rfl (flat_int Try.underlying3 (by kernel_rfl)) (fcons rfl (flat_int Try.underlying3 (by kernel_rfl)) (fcons rfl (flat_int Try.underlying3 (by kernel_rfl)) (fcons rfl (flat_int Try.underlying3 (by kernel_rfl)) (fcons rfl (flat_int Try.underlying3 (by kernel_rfl)) fnil rfl) rfl) rfl) rfl) rfl) (by kernel_rfl)
theorem flatAct : Flat Try.prog 42 [.int .u8, .int .i64, .int .i64, .int .i64, .int .i64, .int .i64, .int .i64] :=
  flat_struct Try.underlying42 (fcons rfl (flat_int Try.underlying5 (by kernel_rfl)) (fcons rfl flatLease (fcons rfl (flat_int Try.underlying3 (by kernel_rfl)) fnil rfl) rfl) rfl) (by kernel_rfl)
theorem opened {H : Type} (enc : TypeId × Value → H) (W : World) {base : Nat} {v0 v1 : Value} {d0 d1 : DataW H} {p0 p1 : List MemPlace} (h0 : DataW.Trod enc Try.prog W 0 (fun _ => true) true 33 v0 d0 p0)
    (h1 : DataW.Trod enc Try.prog W 0 (fun _ => true) true 34 v1 d1 p1) (o0 : Value.okWide Try.prog W .any base 33 v0) (o1 : Value.okWide Try.prog W .any base 34 v1) :
    Calls Try.prog 6 #[v0, v1] W fun e w' => e = .returned (.bool true) ∧ Below W.heap.size W w' := by
  obtain ⟨cs, rfl, hsz⟩ := okWide_struct Try.underlying33 o0
  obtain ⟨a0, len, cap, rfl⟩ := okWide_slice Try.underlying34 o1
  obtain ⟨f0, g0⟩ := h0
  obtain ⟨f1, g1⟩ := h1
  have k0 := flatLease.2 _ _ _ _ _ _ _ _ g0
  obtain ⟨A, c, rows, hv, _, hrow, hok⟩ := open_flat Try.underlying34 flatAct (v := .slice a0 len cap) g1
  obtain ⟨acts, rfl, _⟩ := rows_of (f := Act.cells) (p := fun _ => True) (fun r hr => by
    have g := hok r hr
    obtain ⟨x0, _, rfl, _, g⟩ := g.int
    obtain ⟨x1, _, rfl, _, g⟩ := g.int
    obtain ⟨x2, _, rfl, _, g⟩ := g.int
    obtain ⟨x3, _, rfl, _, g⟩ := g.int
    obtain ⟨x4, _, rfl, _, g⟩ := g.int
    obtain ⟨x5, _, rfl, _, g⟩ := g.int
    obtain ⟨x6, _, rfl, _, g⟩ := g.int
    obtain rfl := g.none
    exact ⟨⟨x0, ⟨x1, x2, x3, x4, x5⟩, x6⟩, rfl, trivial⟩)
  rw [hv]
  obtain ⟨l⟩ := cs
  have k0' : Oks _ l := k0
  obtain ⟨y1, _, rfl, _, k0'⟩ := k0'.int
  obtain ⟨y2, _, rfl, _, k0'⟩ := k0'.int
  obtain ⟨y3, _, rfl, b3, k0'⟩ := k0'.int
  obtain ⟨y4, _, rfl, _, k0'⟩ := k0'.int
  obtain ⟨y5, _, rfl, _, k0'⟩ := k0'.int
  obtain rfl := k0'.none
  have hb3 := int_bd b3
  rw [List.length_map]
  by_cases hn : (80 : Int) < (acts.length : Int)
  · exact (never_many ⟨y1, y2, y3, y4, y5⟩ A acts.length c W (decide_eq_true hn)).mono fun e w' ⟨he, t⟩ => ⟨he, t.isBelow⟩
  · by_cases hb : badB ⟨y1, y2, y3, y4, y5⟩ = true
    · exact (never_bad ⟨y1, y2, y3, y4, y5⟩ A acts.length c W (decide_eq_false hn) hb).mono fun e w' ⟨he, t⟩ => ⟨he, t.isBelow⟩
    · exact (never_ok ⟨y1, y2, y3, y4, y5⟩ A acts c W hrow (decide_eq_false hn) (by simpa using hb) hb3.2).mono fun e w' ⟨he, t⟩ => ⟨he, t.isBelow⟩
end Go.Proofs.Ytondopjpkedojaa.On
