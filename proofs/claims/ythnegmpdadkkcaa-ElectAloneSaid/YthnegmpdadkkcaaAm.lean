/- The hall of ElectAlone in memory. -/
import Derived.Test.YthnegmpdadkkcaaAp
import Derived.Test.YthnegmpdadkkcaaEr
set_option linter.unusedVariables false
set_option linter.unusedSimpArgs false
set_option maxRecDepth 100000
namespace Go.Proofs.Ythnegmpdadkkcaa.Am
open Go.RowKit Go.MapKept Hm Hs Hr Hc Hd Hf Hg Hv Rg Cn El Em En Eo Ep Es Ap
def ptrs (bs : List Nat) : List (List Value) := bs.map fun b => [.pointer (some ⟨b, 0, none⟩)]
def frs (fs : List Fr) : List (List Value) := fs.map Fr.cells
@[simp] theorem ptrs_len (bs : List Nat) : (ptrs bs).length = bs.length := by simp [ptrs]
@[simp] theorem frs_len (fs : List Fr) : (frs fs).length = fs.length := by simp [frs]
theorem ptrs_at {bs : List Nat} {i b : Nat} (h : bs[i]? = some b) : (ptrs bs)[i]? = some [.pointer (some ⟨b, 0, none⟩)] := by unfold ptrs; rw [List.getElem?_map, h]; rfl
theorem frs_at {fs : List Fr} {i : Nat} {f : Fr} (h : fs[i]? = some f) : (frs fs)[i]? = some f.cells := by unfold frs; rw [List.getElem?_map, h]; rfl
theorem ptrs_one (bs : List Nat) : ∀ r ∈ ptrs bs, ∀ u ∈ r, u.oneCell' = true := by
  intro r hr u hu
  obtain ⟨x, _, rfl⟩ := List.mem_map.1 hr
  simp at hu; subst hu; rfl
theorem frs_one (fs : List Fr) : ∀ r ∈ frs fs, ∀ u ∈ r, u.oneCell' = true := by
  intro r hr u hu
  obtain ⟨x, _, rfl⟩ := List.mem_map.1 hr
  simp [Fr.cells] at hu
  rcases hu with rfl | rfl | rfl | rfl <;> rfl
theorem infoP : (Try.prog.info? 65).map (fun i => (i.zero, i.size, i.bytes)) = some (some (.pointer none), 1, 8) := by kernel_rfl
theorem infoR : (Try.prog.info? 77).map (fun i => (i.zero, i.size, i.bytes)) = some (some (.agg #[.bool false, .int .i64 0, .int .u64 0, .bool false]), 4, 32) := by kernel_rfl
theorem infoI : (Try.prog.info? 3).map (fun i => (i.zero, i.size, i.bytes)) = some (some (.int .i64 0), 1, 8) := by kernel_rfl
structure Hl (n0 : Nat) (w : World) (h n : Nat) (lv fv wv : Value) (bs : List Nat) (es : List El) (fs : List Fr) (ws : List Int) : Prop where
  hb : Blk w h #[.int .i64 n, lv, fv, wv] 87
  hl : OwnS 65 1 w lv (ptrs bs)
  hf : OwnS 77 4 w fv (frs fs)
  hw : OwnS 3 1 w wv (ins ws)
  he : ∀ (i b : Nat) (e : El), bs[i]? = some b → es[i]? = some e → IsE 159 w b e
  len : bs.length = es.length
  nd : ∀ (i j b : Nat), bs[i]? = some b → bs[j]? = some b → i = j
  low : n0 ≤ h
  ll : ∀ k, lv.ownBlock = some k → n0 ≤ k
  lf : ∀ k, fv.ownBlock = some k → n0 ≤ k
  lw : ∀ k, wv.ownBlock = some k → n0 ≤ k
  lb : ∀ (i b : Nat), bs[i]? = some b → n0 ≤ b
section
variable {n0 : Nat} {w w' : World} {h n : Nat} {lv fv wv : Value} {bs : List Nat} {es : List El} {fs : List Fr} {ws : List Int}
theorem Hl.turns (k : Hl n0 w h n lv fv wv bs es fs ws) (t : Turns [] w w') : Hl n0 w' h n lv fv wv bs es fs ws :=
  ⟨k.hb.turns t (by simp), k.hl.turns t (by simp), k.hf.turns t (by simp), k.hw.turns t (by simp), fun i b e h1 h2 => Blk.turns (k.he i b e h1 h2) t (by simp), k.len, k.nd, k.low, k.ll, k.lf, k.lw, k.lb⟩
theorem Hl.bne (k : Hl n0 w h n lv fv wv bs es fs ws) {i b : Nat} {e : El} (hb : bs[i]? = some b) (he : es[i]? = some e) : h ≠ b := Blk.ne k.hb (k.he i b e hb he) (by decide)
/-- an election turned -/
theorem Hl.on (k : Hl n0 w h n lv fv wv bs es fs ws) {i b : Nat} {e e' : El} (hb : bs[i]? = some b) (he : es[i]? = some e) (t : Turns [b] w w') (h2 : IsE 159 w' b e') : Hl n0 w' h n lv fv wv bs (es.set i e') fs ws := by
  have hE := k.he i b e hb he
  refine ⟨k.hb.turns t (by simpa using k.bne hb he), k.hl.turns t (fun j hj => by simpa using k.hl.ne_blk hj hE (by decide)), k.hf.turns t (fun j hj => by simpa using k.hf.ne_blk hj hE (by decide)), k.hw.turns t (fun j hj => by simpa using k.hw.ne_blk hj hE (by decide)),
    fun j b2 e2 h3 h4 => ?_, by rw [List.length_set]; exact k.len, k.nd, k.low, k.ll, k.lf, k.lw, k.lb⟩
  rcases set_at h4 with ⟨rfl, rfl⟩ | ⟨hne, h5⟩
  · rw [hb] at h3; injection h3 with h3; subst h3; exact h2
  · exact Blk.turns (k.he j b2 e2 h3 h5) t (by simp; rintro rfl; exact hne (k.nd _ _ _ h3 hb))
/-- all its blocks lie below r -/
structure Hl.Lt (h : Nat) (lv fv wv : Value) (bs : List Nat) (r : Nat) : Prop where
  h : h < r
  l : ∀ k, lv.ownBlock = some k → k < r
  f : ∀ k, fv.ownBlock = some k → k < r
  w : ∀ k, wv.ownBlock = some k → k < r
  b : ∀ (i b : Nat), bs[i]? = some b → b < r
theorem Hl.lts (k : Hl n0 w h n lv fv wv bs es fs ws) : Hl.Lt h lv fv wv bs w.heap.size :=
  ⟨k.hb.lt, fun _ hj => k.hl.lt hj, fun _ hj => k.hf.lt hj, fun _ hj => k.hw.lt hj, fun i b hb => by
    have hi : i < es.length := by rw [← k.len]; exact (List.getElem?_eq_some_iff.1 hb).1
    exact Blk.lt (k.he i b _ hb (List.getElem?_eq_getElem hi))⟩
theorem Hl.away (k : Hl n0 w h n lv fv wv bs es fs ws) {r : Nat} (hl : Hl.Lt h lv fv wv bs r) (t : Turns [r] w w') : Hl n0 w' h n lv fv wv bs es fs ws :=
  ⟨k.hb.turns t (by have := hl.h; simp; omega), k.hl.turns t (fun j hj => by have := hl.l j hj; simp; omega), k.hf.turns t (fun j hj => by have := hl.f j hj; simp; omega), k.hw.turns t (fun j hj => by have := hl.w j hj; simp; omega),
    fun i b e h1 h2 => Blk.turns (k.he i b e h1 h2) t (by have := hl.b i b h1; simp; omega), k.len, k.nd, k.low, k.ll, k.lf, k.lw, k.lb⟩
end
theorem low {F : List Nat} {n : Nat} {w w' : World} (t : Turns F w w') (h : ∀ k ∈ F, n ≤ k) (hn : n ≤ w.heap.size) : Below n w w' :=
  ⟨t.os, t.tape, t.output, t.size, fun k hk => t.block k (by omega) (fun hF => by have := h k hF; omega)⟩
theorem ptrs_flat : ∀ bs : List Nat, (ptrs bs).flatten = bs.map fun b => .pointer (some ⟨b, 0, none⟩)
  | [] => rfl
  | b :: l => by
    have := ptrs_flat l
    unfold ptrs at *
    rw [List.map_cons, List.flatten_cons, this]; rfl
theorem Hl.head {n0 : Nat} {w : World} {h n : Nat} {ad : Addr} {cl : Nat} {fv wv : Value} {bs : List Nat} {es : List El} {fs : List Fr} {ws : List Int} (k : Hl n0 w h n (.slice (some ad) n cl) fv wv bs es fs ws) : ∃ g, ad = ⟨g, 0, none⟩ := by
  rcases k.hl.1.2 with ⟨h1, _⟩ | ⟨g, cap, cur, h1, _⟩
  · cases h1
  · injection h1 with h1; injection h1 with h1; exact ⟨g, h1⟩
/-- a new election in an old one's place -/
theorem Hl.put {n0 : Nat} {w w2 : World} {h n g cl : Nat} {fv wv : Value} {bs : List Nat} {es : List El} {fs : List Fr} {ws : List Int} (k : Hl n0 w h n (.slice (some ⟨g, 0, none⟩) n cl) fv wv bs es fs ws) (hn : bs.length = n) (t : Turns [] w w2) {i b' : Nat} {e' : El} (hi : i < n) (h2 : IsE 159 w2 b' e') (hb' : w.heap.size ≤ b') :
    Hl n0 (w2.setCell ⟨g, i, none⟩ (.pointer (some ⟨b', 0, none⟩))) h n (.slice (some ⟨g, 0, none⟩) n cl) fv wv (bs.set i b') (es.set i e') fs ws ∧ n0 ≤ g := by
  have k2 := k.turns t
  have hlt := k.lts
  obtain ⟨ho1, ho2⟩ := k2.hl
  rw [ptrs_len, hn] at ho1
  obtain ⟨hs, _⟩ := ho1.stored i (.pointer (some ⟨b', 0, none⟩))
  have hfl : (ptrs (bs.set i b')).flatten = (ptrs bs).flatten.set i (.pointer (some ⟨b', 0, none⟩)) := by rw [ptrs_flat, ptrs_flat, List.map_set]
  have ts : Turns [g] w2 (w2.setCell ⟨g, i, none⟩ (.pointer (some ⟨b', 0, none⟩))) := (Turns.refl [g] w2).setCell (p := ⟨g, i, none⟩) (by simp) _
  have hg0 : (Value.slice (some ⟨g, 0, none⟩) n cl).ownBlock = some g := rfl
  have hne : ∀ {c : Nat} {cs : Array Value} {T : TypeId}, Blk w2 c cs T → 65 ≠ T → c ∉ [g] := fun hc hT => by simpa using (k2.hl.ne_blk hg0 hc hT).symm
  have hneo : ∀ {T : TypeId} {sz : Nat} {v : Value} {rows : List (List Value)}, OwnS T sz w2 v rows → T ≠ 65 → ∀ j, v.ownBlock = some j → j ∉ [g] := fun ho hT j hj => by
    obtain ⟨c1, hc1⟩ := ho.typed hj
    have := k2.hl.ne_blk (k := g) hg0 (b := j) (cs := c1) hc1 (Ne.symm hT)
    simpa using this.symm
  refine ⟨⟨k2.hb.turns ts (hne k2.hb (by decide)), ⟨?_, ?_⟩, k2.hf.turns ts (hneo k2.hf (by decide)), k2.hw.turns ts (hneo k2.hw (by decide)), fun j b e h3 h4 => ?_, by rw [List.length_set, List.length_set]; exact k.len, fun j1 j2 b h3 h4 => ?_, k.low, k.ll, k.lf, k.lw, fun j b h3 => ?_⟩, k.ll g hg0⟩
  · rw [ptrs_len, List.length_set, hn, hfl]; exact hs
  · intro r hr
    obtain ⟨x, _, rfl⟩ := List.mem_map.1 hr
    rfl
  · rw [List.getElem?_set] at h3
    rcases set_at h4 with ⟨rfl, rfl⟩ | ⟨hne2, h5⟩
    · rw [if_pos rfl, if_pos (by omega)] at h3
      injection h3 with h3
      subst h3
      exact Blk.turns h2 ts (hne h2 (by decide))
    · rw [if_neg (Ne.symm hne2)] at h3
      have := k2.he j b e h3 h5
      exact Blk.turns this ts (hne this (by decide))
  · rw [List.getElem?_set] at h3 h4
    by_cases q1 : i = j1
    · by_cases q2 : i = j2
      · omega
      · rw [if_pos q1, if_pos (by omega)] at h3
        rw [if_neg q2] at h4
        injection h3 with h3
        subst h3
        have := hlt.b j2 _ h4
        omega
    · rw [if_neg q1] at h3
      by_cases q2 : i = j2
      · rw [if_pos q2, if_pos (by omega)] at h4
        injection h4 with h4
        subst h4
        have := hlt.b j1 _ h3
        omega
      · rw [if_neg q2] at h4
        exact k.nd j1 j2 b h3 h4
  · rw [List.getElem?_set] at h3
    by_cases q1 : i = j
    · rw [if_pos q1, if_pos (by omega)] at h3
      injection h3 with h3
      subst h3
      have := k.low
      have := hlt.h
      omega
    · rw [if_neg q1] at h3
      exact k.lb j b h3
/-- an act's answer, of elections in a hall -/
theorem stand_good {n : Nat} {es : List El} {fs : List Fr} {ws : List Int} (h : Hold n es fs ws) {i : Nat} {e : El} (he : es[i]? = some e) : ∃ (f : Fr) (x : Int) (e' : El), Outc n es fs ws i f e' ∧
    ∀ w b, IsE 159 w b e → Calls Try.prog 45 #[.pointer (some ⟨b, 0, none⟩)] w fun y w' => y = .returned (.tuple #[.agg #[.bool f.s, .int .i64 f.g, .int .u64 f.t, .bool f.won], .int .i64 x]) ∧ IsE 159 w' b e' ∧ Turns [b] w w' := by
  have hok := (h.ok i e he).1
  rcases nextE_cases hok with hx | ⟨g, hx, h1, h2, h3, h4⟩
  · exact ⟨⟨false, 0, 0, false⟩, 6, e, good_none h he, fun w b k => (stand_over w b e k hok hx).mono fun y w' ⟨q1, q2⟩ => ⟨q1, Blk.turns k q2 (by simp), q2.mono (by simp)⟩⟩
  · exact ⟨⟨!(El.stand e g).win, g, 2 ^ e.I, (El.stand e g).win⟩, 0, _, good_stand h he ⟨h1, h2⟩ h3 h4, fun w b k => stand_is w b e g k hok hx ⟨h1, h2⟩⟩
theorem take_good {n : Nat} {es : List El} {fs : List Fr} {ws : List Int} (h : Hold n es fs ws) {i : Nat} {e : El} (he : es[i]? = some e) {x : Fr} (hx : x ∈ fs) : ∃ (f : Fr) (e' : El), Outc n es fs ws i f e' ∧
    ∀ w b, IsE 159 w b e → Calls Try.prog 46 #[.pointer (some ⟨b, 0, none⟩), .int .i64 x.g, .int .u64 x.t] w fun y w' => y = .returned (.agg #[.bool f.s, .int .i64 f.g, .int .u64 f.t, .bool f.won]) ∧ IsE 159 w' b e' ∧ Turns [b] w w' := by
  have hok := (h.ok i e he).1
  have ht := (h.fr x hx).1
  by_cases hg : e.P < x.g ∧ x.g ≤ 1099511627776
  · exact ⟨⟨true, x.g, x.t ||| 2 ^ e.I, false⟩, _, good_raise h he hx hg, fun w b k => take_raise w b e x.g x.t k hok hg ht⟩
  · by_cases hb : x.g < 1 ∨ x.g ≠ e.B
    · exact ⟨⟨false, 0, 0, false⟩, e, good_none h he, fun w b k => (take_none w b e x.g x.t k hok hg hb).mono fun y w' ⟨q1, q2⟩ => ⟨q1, Blk.turns k q2 (by simp), q2.mono (by simp)⟩⟩
    · exact ⟨⟨false, e.P, e.S ||| x.t, (El.more e x.t).win⟩, _, good_count h he hx (by omega) (by omega), fun w b k => take_count w b e x.g x.t k hok (by omega) (by omega) ht⟩
end Go.Proofs.Ythnegmpdadkkcaa.Am
