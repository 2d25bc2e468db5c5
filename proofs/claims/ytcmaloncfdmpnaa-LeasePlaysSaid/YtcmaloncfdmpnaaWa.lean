/- slices.Sorted(maps.Keys(m)) of a map keyed by int64 (map[int]int): its keys, sorted. -/
import Derived.Test.YtcmaloncfdmpnaaSh
import Derived.Test.YtcmaloncfdmpnaaHk
import Derived.Test.YtcmaloncfdmpnaaHx
import Derived.KernelRfl
set_option linter.unusedVariables false
set_option linter.unusedSimpArgs false
set_option maxRecDepth 100000
namespace Go.Proofs.Ytcmaloncfdmpnaa.Wa
open Go.MapKept Go.Shelf Hm Hs Hk Hx
/-- keys, sorted -/
def skeys (l : List (Int × Value)) : List Int := (l.map (·.1)).mergeSort leI
theorem own_of {e : TypeId} {w : World} {n : Nat} {v : Value} {xs : List Int} (h : w.ownsRow n e 1 v xs.length (xs.map encZ)) : OwnS e 1 w v (ins xs) ∧ ∀ k, v.ownBlock = some k → n ≤ k := by
  have h1 : (ins xs).flatten = xs.map encZ := ins_flat xs
  refine ⟨⟨?_, ?_⟩, ?_⟩
  · rw [h1, ins_len]
    obtain ⟨h2, h3⟩ := h
    refine ⟨h2, ?_⟩
    rcases h3 with h3 | ⟨g, cap, cur, hv, hg, r⟩
    · exact .inl h3
    · exact .inr ⟨g, cap, cur, hv, Nat.zero_le _, r⟩
  · intro r hr
    obtain ⟨x, _, rfl⟩ := List.mem_map.1 hr
    rfl
  · intro k hk
    rcases h.2 with ⟨rfl, _⟩ | ⟨g, cap, cur, rfl, hg, _⟩
    · simp [Value.ownBlock] at hk
    · have : g = k := by simpa [Value.ownBlock] using hk
      omega
theorem keys_is (w : World) (mb : Option Nat) : Calls Try.prog 110 #[.map mb] w fun e w' => e = .returned (.func (.func 144) #[] #[.pointer (some ⟨w.heap.size, 0, none⟩)]) ∧ w' = w.alloc (.cells #[.map mb] 151) :=
  callsIn_wide.1 (AnyZI.keys_in Try.keysA Fence.wide 5 trivial rfl mb w)
theorem sortsA (m : Nat) : AnyZI.SortsIn Try.prog Try.sortedA_ren Fence.wide m :=
  ⟨fun blk off cap ss W hH hblk hsz => callsIn_wide.2 (AnyM.slices_Sort_int Try.sortA blk off cap ss W hH hblk hsz),
   fun p cap W => callsIn_wide.2 (AnyM.slices_Sort_int_none Try.sortA p cap W)⟩
set_option maxHeartbeats 1000000 in
theorem sorted_is (w : World) (pb b : Nat) (l : List (Int × Value)) (hm : w.cell? ⟨pb, 0, none⟩ = some (.map (some b))) (h : IMap w b l) (hwf : ∀ p ∈ l, -9223372036854775808 ≤ p.1 ∧ p.1 ≤ 9223372036854775807) (hs : l.length ≤ 1000000) :
    Calls Try.prog 109 #[.func (.func 144) #[] #[.pointer (some ⟨pb, 0, none⟩)]] w fun e w' => ∃ v, e = .returned v ∧ OwnS 3 1 w' v (ins (skeys l)) ∧ Turns [] w w' ∧ (∀ k, v.ownBlock = some k → w.heap.size ≤ k) ∧ (v = .slice none 0 0 ↔ l = []) := by
  obtain ⟨D, hown, hsz, hperm⟩ := IMap.owns (k := 3) Try.underlying3 h hwf (by unfold maxLen; omega)
  have hpb : pb < w.heap.size := World.block_lt_of_cell? w _ hm
  have hseq : SeqGives Fence.wide 2 Try.prog 144 #[.pointer (some ⟨pb, 0, none⟩)] encZ (fun ss => ss.Perm (intKeys D)) (Maps.size D) w :=
    AnyZI.keys_gives (ρ := Try.keysA_ren) { Try.keysA with } Fence.wide _ trivial rfl (by omega) pb b l.length D w hpb hm hown
  have cS := AnyZI.sorted_in Try.sortedA Fence.wide 5 trivial trivial trivial trivial rfl (by omega) (sortsA _) (enters_of Try.func83 (by kernel_rfl) rfl) 144 #[.pointer (some ⟨pb, 0, none⟩)] trivial (enters_of Try.func144 (by kernel_rfl) rfl) _ _ (by rw [hsz]; unfold maxLen; omega) (by rw [hsz]; omega) _ hseq
  have cS2 : Calls Try.prog 109 #[.func (.func 144) #[] #[.pointer (some ⟨pb, 0, none⟩)]] w _ := callsIn_wide.1 cS
  refine Calls.mono cS2 ?_
  rintro e w' ⟨v, ss, rfl, hS, hrow, hnil, hb⟩
  have hp : ss.Perm (l.map (·.1)) := hS.trans hperm
  have e1 : ss.mergeSort (fun x y => decide (x ≤ y)) = skeys l := mergeSort_of_perm_i hp
  rw [e1] at hrow
  have hlen : ss.length = (skeys l).length := by unfold skeys; rw [List.length_mergeSort]; exact hp.length_eq
  rw [hlen] at hrow
  obtain ⟨o, hlo⟩ := own_of hrow
  refine ⟨v, rfl, o, Turns.of_below [] hb, hlo, ?_⟩
  rw [hnil]
  constructor
  · intro h0
    subst h0
    have := hp.length_eq
    simp at this
    exact List.eq_nil_of_length_eq_zero this.symm
  · intro h0
    subst h0
    have := hp.length_eq
    simp at this
    exact this
end Go.Proofs.Ytcmaloncfdmpnaa.Wa
