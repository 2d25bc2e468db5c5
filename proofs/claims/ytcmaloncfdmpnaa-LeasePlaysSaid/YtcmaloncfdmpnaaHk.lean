/- Words of this work: a map keyed by int64, in the library's words, for the keys that are collected. No program in sight. -/
import Derived.Test.YtcmaloncfdmpnaaHm
import Derived.Maps.Own
import Derived.Maps.Range
import Derived.Lib.SlKeysI
set_option linter.unusedVariables false
set_option linter.unusedSimpArgs false
namespace Go.Proofs.Ytcmaloncfdmpnaa.Hk
open Go.RowKit Go.MapKept Go.WideElems Go.WideShapes Hm
/-- an element that reads, whatever it is -/
def anyR : Value → Option (DataW Unit × List MemPlace) := fun _ => some (.nil, [])
theorem keyOf_int {P : Program} {k : TypeId} (hk : P.underlying k = some (.int .i64)) {x : Int} (hx : -9223372036854775808 ≤ x ∧ x ≤ 9223372036854775807) : keyOf P k (.int .i64 x) = some (.int .i64 x) := by
  have hw : (Lit.int .i64 x).wf = true := by
    simp only [Lit.wf, IntKind.min, IntKind.max, IntKind.signed, IntKind.bits]
    simp
    omega
  simp [keyOf, hk, mapKey, hw]
theorem IMap.owns {P : Program} {k : TypeId} {w : World} {b : Nat} {l : List (Int × Value)} (hk : P.underlying k = some (.int .i64)) (h : IMap w b l) (hwf : ∀ p ∈ l, -9223372036854775808 ≤ p.1 ∧ p.1 ≤ 9223372036854775807) (hs : l.length ≤ maxLen) :
    ∃ D : DataW Unit, w.ownsMap P k anyR b l.length D ∧ Maps.size D = l.length ∧ (intKeys D).Perm (l.map (·.1)) := by
  obtain ⟨es, clock, hb, hst, hl⟩ := h
  have hlen : es.size = l.length := by
    have := congrArg List.length hl
    simpa using this
  have hrd : ∀ x ∈ es.toList, ∃ p ∈ l, x.key = .int .i64 p.1 ∧ rd P k anyR x = some (.int .i64 p.1, .nil) := fun x hx => by
    have hx2 : (x.key, x.val) ∈ es.toList.map (fun e => (e.key, e.val)) := List.mem_map.2 ⟨x, hx, rfl⟩
    rw [hl] at hx2
    obtain ⟨p, hp, he⟩ := List.mem_map.1 hx2
    have e1 : x.key = .int .i64 p.1 := (congrArg Prod.fst he).symm
    refine ⟨p, hp, e1, ?_⟩
    unfold rd
    rw [e1, keyOf_int hk (hwf p hp)]
    rfl
  refine ⟨_, ⟨es, clock, hb, ⟨by omega, hst, fun x hx => by obtain ⟨p, _, _, h2⟩ := hrd x hx; exact ⟨_, h2⟩⟩, by omega, rfl⟩, ?_, ?_⟩
  · show (((es.toList.map (rg P k anyR)).foldr DataW.insert []).length : Nat) = _
    rw [(sorted_perm _).length_eq]
    simpa using hlen
  · show ((((es.toList.map (rg P k anyR)).foldr DataW.insert [])).map fun p => Go.intOf p.1).Perm _
    refine ((sorted_perm _).map _).trans ?_
    rw [List.map_map]
    have : es.toList.map ((fun p : Lit × DataW Unit => Go.intOf p.1) ∘ rg P k anyR) = l.map (·.1) := by
      have h1 : es.toList.map ((fun p : Lit × DataW Unit => Go.intOf p.1) ∘ rg P k anyR) = (es.toList.map (fun e => (e.key, e.val))).map (fun q : Value × Value => match q.1 with | .int _ x => x | _ => 0) := by
        rw [List.map_map]
        refine List.map_congr_left (fun x hx => ?_)
        obtain ⟨p, _, h2, h3⟩ := hrd x hx
        simp only [Function.comp, rg_of h3, h2]
        rfl
      rw [h1, hl, List.map_map]
      rfl
    rw [this]
end Go.Proofs.Ytcmaloncfdmpnaa.Hk
