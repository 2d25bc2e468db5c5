/- Words of this work: bytes that are read, as a string. No program in sight. -/
import Derived.Test.YtohokckpheljbaaHs
import Derived.Laws.BytesArg
import Derived.Lib.SlBytesConst
import Derived.Deep.CutBlock
import Derived.Deep.CutRange
import Derived.Deep.DeepCutAuto
set_option linter.unusedVariables false
set_option linter.unusedSimpArgs false
namespace Go.Proofs.Ytohokckpheljbaa.Hb
open Go.RowKit Hm Hs
/-- the bytes, as a string -/
def strB (l : List Int) : ByteArray := l.foldl (fun r n => r.push (UInt8.ofNat n.toNat)) ByteArray.empty
theorem RdS.str {P : Program} {w : World} {v : Value} {l : List Int} (h : RdS 1 w v (bys l)) {src dst e : TypeId} (hs : P.underlying src = some (.slice e)) (he : P.underlying e = some (.int .u8)) (hd : P.underlying dst = some .string) :
    (convert src dst v).run P w = .ok (.string (strB l)) w := by
  have h0 := h
  obtain ⟨A, c, rfl, _, _, hn, hf, _⟩ := h
  cases A with
  | none =>
    have hc := hn rfl
    subst hc
    have hl : l = [] := by
      by_cases hl : l = []
      · exact hl
      · have : 0 < (bys l).length := by rw [bys_len]; exact Nat.pos_of_ne_zero (fun h0 => hl (List.length_eq_zero_iff.1 h0))
        obtain ⟨ad, h1, _⟩ := hf.2 this
        cases h1
    subst hl
    exact run_convert_bytes_nil w src e hs he 0 0 dst hd
  | some ad =>
    rw [run_convert_bytes_string w src dst e _ _ _ hs he hd]
    refine run_bytesToString w ad _ _ l ?_
    have hc := h0.cells (by decide) ad _ c rfl
    rw [bys_flat] at hc
    have := run_loadCells_list (P := P) (w := w) ad (l.map (Value.int .u8)) hc
    simpa using this
theorem RdS.of_blk {w : World} {b : Nat} {l : List Int} {t : TypeId} {cs : Array Value} {fr : Nat × Nat} (h : w.heap[b]? = some (.cells cs t fr)) (hx : cs.toList = l.map (Value.int .u8)) (c : Nat) (hc : l.length ≤ c) (hm : c ≤ 9223372036854775807) : RdS 1 w (.slice (some ⟨b, 0, Option.none⟩) l.length c) (bys l) :=
  ⟨some ⟨b, 0, Option.none⟩, c, by simp, by simpa using hc, hm, by simp, ⟨by simp; omega, fun _ => ⟨_, rfl, fun j r hj => by
    unfold bys at hj
    rw [List.getElem?_map] at hj
    cases hl : l[j]? with
    | none => rw [hl] at hj; cases hj
    | some x =>
      rw [hl] at hj
      simp only [Option.map_some, Option.some.injEq] at hj
      subst hj
      refine ⟨rfl, fun i u hu => ?_⟩
      cases i with
      | zero =>
        simp only [List.getElem?_cons_zero, Option.some.injEq] at hu
        subst hu
        rw [Nat.mul_one, Nat.add_zero, add_zero_]
        simp only [World.cell?, h, Option.isSome_none, Bool.false_eq_true, if_false]
        rw [← Array.getElem?_toList, hx, List.getElem?_map, hl]
        rfl
      | succ i => simp at hu⟩⟩, by intro r hr; obtain ⟨x, _, rfl⟩ := List.mem_map.1 hr; rfl⟩
theorem RdS.take {w : World} {A : Option Addr} {n c sz k : Nat} {rows : List (List Value)} (h : RdS sz w (.slice A n c) rows) (hk : k ≤ rows.length) : RdS sz w (.slice A k c) (rows.take k) := by
  obtain ⟨A', c', hv, hc, hm, hn, hf, hl⟩ := h
  injection hv with e1 e2 e3
  subst e1 e3
  have hlen : (rows.take k).length = k := by rw [List.length_take]; omega
  refine ⟨A, c, by rw [hlen], by omega, hm, hn, ⟨by have := hf.1; omega, fun hp => ?_⟩, fun r hr => hl r (List.mem_of_mem_take hr)⟩
  obtain ⟨ad, e, hh⟩ := hf.2 (by omega)
  refine ⟨ad, e, fun j r hj => hh j r ?_⟩
  rw [List.getElem?_take] at hj
  split at hj
  · exact hj
  · cases hj
theorem bys_take (l : List Int) (k : Nat) : (bys l).take k = bys (l.take k) := by unfold bys; rw [List.map_take]
end Go.Proofs.Ytohokckpheljbaa.Hb
