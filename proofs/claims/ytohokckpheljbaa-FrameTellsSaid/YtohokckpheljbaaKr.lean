/- Words for codec's readers: bytes as a number; a slice's end; what reading does. -/
import Derived.Test.YtohokckpheljbaaKp
import Derived.Laws.BitsAllLaws
import Derived.Deep.Slices
set_option linter.unusedVariables false
set_option linter.unusedSimpArgs false
set_option maxRecDepth 100000
namespace Go.Proofs.Ytohokckpheljbaa.Kr
open Go.RowKit Go.MapKept Hm Hs Hr Hb Hf Hg Hv Kw
/-- bytes as a number, the greatest first -/
def val8 (l : List Int) : Int := l.foldl (fun x c => x * 256 + c) 0
theorem val8_snoc (l : List Int) (c : Int) : val8 (l ++ [c]) = val8 l * 256 + c := by unfold val8; rw [List.foldl_append]; rfl
def Byt (l : List Int) : Prop := ∀ c ∈ l, 0 ≤ c ∧ c ≤ 255
theorem Byt.take {l : List Int} (h : Byt l) (k : Nat) : Byt (l.take k) := fun c hc => h c (List.mem_of_mem_take hc)
theorem Byt.drop {l : List Int} (h : Byt l) (k : Nat) : Byt (l.drop k) := fun c hc => h c (List.mem_of_mem_drop hc)
theorem Byt.at_ {l : List Int} (h : Byt l) {k : Nat} {x : Int} (hk : l[k]? = some x) : 0 ≤ x ∧ x ≤ 255 := h x (List.mem_of_getElem? hk)
theorem val8_bd {l : List Int} (h : Byt l) : ∀ k : Nat, k ≤ l.length → 0 ≤ val8 (l.take k) ∧ val8 (l.take k) < 256 ^ k
  | 0, _ => by simp [val8]
  | k + 1, hk => by
    obtain ⟨h1, h2⟩ := val8_bd h k (by omega)
    obtain ⟨x, hx⟩ : ∃ x, l[k]? = some x := ⟨_, List.getElem?_eq_getElem (by omega)⟩
    have hb := h.at_ hx
    rw [List.take_add_one, hx, Option.toList_some, val8_snoc, Int.pow_succ]
    omega
theorem byt_be8 (x : Int) : Byt (be8 x) := by
  intro c hc
  obtain ⟨k, _, rfl⟩ := List.mem_map.1 hc
  exact ⟨Int.emod_nonneg _ (by omega), by have := Int.emod_lt_of_pos (x / 2 ^ (8 * (7 - k))) (show (0 : Int) < 256 by omega); omega⟩
theorem val8_be8 {x : Int} (hx : 0 ≤ x ∧ x < 18446744073709551616) : val8 (be8 x) = x := by
  simp only [be8, show List.range 8 = [0, 1, 2, 3, 4, 5, 6, 7] from rfl, List.map_cons, List.map_nil, val8, List.foldl_cons, List.foldl_nil]
  simp only [show (8 * (7 - 0) : Nat) = 56 from rfl, show (8 * (7 - 1) : Nat) = 48 from rfl, show (8 * (7 - 2) : Nat) = 40 from rfl, show (8 * (7 - 3) : Nat) = 32 from rfl, show (8 * (7 - 4) : Nat) = 24 from rfl, show (8 * (7 - 5) : Nat) = 16 from rfl, show (8 * (7 - 6) : Nat) = 8 from rfl, show (8 * (7 - 7) : Nat) = 0 from rfl, show (2 : Int) ^ 56 = 72057594037927936 from rfl, show (2 : Int) ^ 48 = 281474976710656 from rfl, show (2 : Int) ^ 40 = 1099511627776 from rfl, show (2 : Int) ^ 32 = 4294967296 from rfl, show (2 : Int) ^ 24 = 16777216 from rfl, show (2 : Int) ^ 16 = 65536 from rfl, show (2 : Int) ^ 8 = 256 from rfl, show (2 : Int) ^ 0 = 1 from rfl]
  omega
theorem ownBlock_some {A : Option Addr} {n c k : Nat} (h : (Value.slice A n c).ownBlock = some k) : ∃ ad, A = some ad ∧ ad.block = k := by
  cases A with
  | none => cases h
  | some ad => exact ⟨ad, rfl, by simpa [Value.ownBlock] using h⟩
theorem add_block (ad : Addr) (k : Nat) : (ad.add k).block = ad.block := by unfold Addr.add; split <;> rfl
theorem RdS.turns {w w' : World} {F : List Nat} {v : Value} {sz : Nat} {rows : List (List Value)} (h : RdS sz w v rows) (t : Turns F w w') (hF : ∀ k, v.ownBlock = some k → k ∉ F) : RdS sz w' v rows := by
  obtain ⟨A, c, rfl, hc, hm2, hn, hf, hl⟩ := h
  refine ⟨A, c, rfl, hc, hm2, hn, ⟨hf.1, fun hp => ?_⟩, hl⟩
  obtain ⟨ad, e, hh⟩ := hf.2 hp
  subst e
  refine ⟨ad, rfl, fun j r hj => ⟨(hh j r hj).1, fun i u hu => ?_⟩⟩
  have h1 := (hh j r hj).2 i u hu
  have h2 := World.block_lt_of_cell? w _ h1
  rw [t.cell h2 (by rw [add_block]; exact hF _ rfl)]
  exact h1
theorem RdS.drop {w : World} {A : Option Addr} {n c sz k : Nat} {rows : List (List Value)} (h : RdS sz w (.slice A n c) rows) (hk : k ≤ rows.length) (hsz : sz = 1) : RdS sz w (.slice (if c = k then A else A.map (fun x => x.add k)) (n - k) (c - k)) (rows.drop k) := by
  subst hsz
  obtain ⟨A', c', hv, hc, hm, hn, hf, hl⟩ := h
  injection hv with e1 e2 e3
  subst e1 e2 e3
  have hlen : (rows.drop k).length = rows.length - k := by rw [List.length_drop]
  refine ⟨_, c - k, by rw [hlen], by omega, by omega, fun h0 => ?_, ⟨by have := hf.1; omega, fun hp => ?_⟩, fun r hr => hl r (List.mem_of_mem_drop hr)⟩
  · split at h0
    · omega
    · cases A with
      | none => have := hn rfl; omega
      | some ad => cases h0
  · obtain ⟨ad, rfl, hh⟩ := hf.2 (by omega)
    rw [if_neg (by omega)]
    refine ⟨ad.add k, rfl, fun j r hj => ?_⟩
    rw [List.getElem?_drop] at hj
    obtain ⟨h1, h2⟩ := hh _ _ hj
    refine ⟨h1, fun i u hu => ?_⟩
    have := h2 i u hu
    rw [Go.Deep.add_add, show k + (j * 1 + i) = (k + j) * 1 + i from by omega]
    exact this
theorem drop_block {A : Option Addr} {n c k n' c' : Nat} : (Value.slice (if c = k then A else A.map (fun x => x.add k)) n' c').ownBlock = (Value.slice A n c).ownBlock := by
  split
  · cases A <;> rfl
  · cases A with
    | none => rfl
    | some ad => simp [Value.ownBlock, add_block]
theorem bys_drop (l : List Int) (k : Nat) : (bys l).drop k = bys (l.drop k) := by unfold bys; rw [List.map_drop]
/-- What a reader is: bytes that are left, whether it failed. -/
structure St where
  bytes : List Int
  failed : Bool
def St.bits (s : St) : Int × St := if s.failed = true ∨ s.bytes.length < 8 then (0, ⟨s.bytes, true⟩) else (val8 (s.bytes.take 8), ⟨s.bytes.drop 8, false⟩)
def St.upto (s : St) (most : Int) : Int × St :=
  if s.bits.2.failed = true then (0, s.bits.2) else if most < 0 ∨ s.bits.1 > 4611686018427387904 ∨ s.bits.1 > most then (0, ⟨s.bits.2.bytes, true⟩) else s.bits
def St.done (s : St) : Int := if s.failed = true ∨ s.bytes ≠ [] then 2 else 0
/-- A reader in memory. -/
structure IsRd (T : TypeId) (w : World) (b : Nat) (own : Option Nat) (s : St) : Prop where
  ex : ∃ bv, Blk w b #[bv, .bool s.failed] T ∧ RdS 1 w bv (bys s.bytes) ∧ bv.ownBlock = own
  ne : own ≠ some b
  bd : Byt s.bytes
  lt : ∀ k, own = some k → k < w.heap.size
theorem IsRd.turns {T : TypeId} {w w' : World} {b : Nat} {own : Option Nat} {s : St} {F : List Nat} (h : IsRd T w b own s) (t : Turns F w w') (h1 : b ∉ F) (h2 : ∀ k, own = some k → k ∉ F) : IsRd T w' b own s := by
  obtain ⟨⟨bv, hb, hr, ho⟩, hne, hbd, hlt⟩ := h
  exact ⟨⟨bv, hb.turns t h1, RdS.turns hr t (by rw [ho]; exact h2), ho⟩, hne, hbd, fun k hk => Nat.lt_of_lt_of_le (hlt k hk) t.size⟩
theorem IsRd.fail {T : TypeId} {w : World} {b : Nat} {own : Option Nat} {s : St} (h : IsRd T w b own s) (f : Bool) : IsRd T (w.setCell ⟨b, 1, none⟩ (.bool f)) b own ⟨s.bytes, f⟩ := by
  obtain ⟨⟨bv, hb, hr, ho⟩, hne, hbd, hlt⟩ := h
  exact ⟨⟨_, hb.set 1 (.bool f), RdS.turns hr ((Turns.refl [b] w).setCell (p := ⟨b, 1, none⟩) (by simp) (.bool f)) (by intro k hk; rw [ho] at hk; rintro h1; simp at h1; subst h1; exact hne hk), ho⟩, hne, hbd, fun k hk => by simpa [World.setCell] using hlt k hk⟩
theorem IsRd.cell1 {T : TypeId} {w : World} {b : Nat} {own : Option Nat} {s : St} (h : IsRd T w b own s) : w.cell? ⟨b, 1, none⟩ = some (.bool s.failed) ∧ w.frozen? ⟨b, 1, none⟩ = false := by
  obtain ⟨⟨bv, hb, hr, ho⟩, hne, hbd, hlt⟩ := h
  exact ⟨hb.cell 1, hb.frozen 1⟩
theorem shl_or {x c : Int} (hx : 0 ≤ x ∧ x < 72057594037927936) (hc : 0 ≤ c ∧ c ≤ 255) : bits .or .u64 (x * 256) c = x * 256 + c := by
  obtain ⟨a, rfl⟩ := Int.eq_ofNat_of_zero_le hx.1
  obtain ⟨b, rfl⟩ := Int.eq_ofNat_of_zero_le hc.1
  have e : ((a : Int) * 256) = ((a * 256 : Nat) : Int) := by simp
  have e2 : a * 256 ||| b = a * 256 + b := by
    have := Nat.shiftLeft_add_eq_or_of_lt (i := 8) (b := b) (by omega) a
    rw [Nat.shiftLeft_eq, show (2 : Nat) ^ 8 = 256 from rfl] at this
    omega
  rw [e, u64_or_nat (a * 256) b (by omega) (by omega), e2]
  simp
end Go.Proofs.Ytohokckpheljbaa.Kr
