/- Disks, readers and vaults as things apart from each other; their calls. -/
import Derived.Test.YtknmjmhiejmjdaaVf
import Derived.Test.YtknmjmhiejmjdaaHx
set_option linter.unusedVariables false
set_option linter.unusedSimpArgs false
set_option maxRecDepth 100000
namespace Go.Proofs.Ytknmjmhiejmjdaa.Vs
open Go.RowKit Go.MapKept Hm Hs Hr Hb Hf Hg Hv Ho Hx Dk Dr Kw Kn Kr Ks Va Vb Vc Vd Ve Vf
theorem RdS.move {w w' : World} {v : Value} {sz : Nat} {rows : List (List Value)} (h : RdS sz w v rows) (hm : ∀ k, v.ownBlock = some k → w'.heap[k]? = w.heap[k]?) : RdS sz w' v rows := by
  obtain ⟨A, c, rfl, hc, hm2, hn, hf, hl⟩ := h
  refine ⟨A, c, rfl, hc, hm2, hn, ⟨hf.1, fun hp => ?_⟩, hl⟩
  obtain ⟨ad, e, hh⟩ := hf.2 hp
  subst e
  refine ⟨ad, rfl, fun j r hj => ⟨(hh j r hj).1, fun i u hu => ?_⟩⟩
  have h1 := (hh j r hj).2 i u hu
  rw [World.cell?_of_block (w := w) (by rw [add_block]; exact hm _ rfl)]
  exact h1
/-- a disk -/
def tDk (b : Nat) (fv : Value) (file : List Int) (safe room : Int) : Th := ⟨foot b fv, fun w => IsDisk w b fv file safe room, fun h => h.lt, fun h hm => ⟨h.blk.move (hm b (by simp [foot])), h.own.move (fun k hk => hm k (by simp [foot, hk]))⟩⟩
/-- the document's disk -/
def tDr (b : Nat) (sv lv : Value) (safe loose : List Int) (room : Int) : Th := ⟨rfoot b sv lv, fun w => IsR w b sv lv safe loose room, fun h => h.lt, fun h hm => ⟨h.blk.move (hm b (by simp [rfoot])), h.so.move (fun k hk => hm k (by simp [rfoot, hk])), h.lo.move (fun k hk => hm k (by simp [rfoot, hk]))⟩⟩
theorem rd_lt {T : TypeId} {w : World} {b : Nat} {own : Option Nat} {s : St} (h : IsRd T w b own s) : ∀ k ∈ b :: own.toList, k < w.heap.size := by
  intro k hk
  rcases List.mem_cons.1 hk with rfl | hk
  · obtain ⟨⟨bv, hb, _⟩, _⟩ := h
    exact hb.lt
  · exact h.lt k (by simpa using hk)
theorem rd_move {T : TypeId} {w w' : World} {b : Nat} {own : Option Nat} {s : St} (h : IsRd T w b own s) (hm : ∀ k ∈ b :: own.toList, w'.heap[k]? = w.heap[k]?) : IsRd T w' b own s := by
  obtain ⟨⟨bv, hb, hr, ho⟩, hne, hbd, hlt⟩ := h
  refine ⟨⟨bv, hb.move (hm b (by simp)), RdS.move hr (fun k hk => hm k (by simp [← ho, hk])), ho⟩, hne, hbd, fun k hk => ?_⟩
  have h1 := hm k (by simp [hk])
  have h2 := hlt k hk
  rcases Nat.lt_or_ge k w'.heap.size with h | h
  · exact h
  · rw [Array.getElem?_eq_none h, Array.getElem?_eq_getElem h2] at h1; cases h1
/-- a reader -/
def tRd (T : TypeId) (b : Nat) (own : Option Nat) (s : St) : Th := ⟨b :: own.toList, fun w => IsRd T w b own s, rd_lt, rd_move⟩
/-- a vault's block -/
def tV (b d : Nat) (s : V4) (n : Int) : Th := tBlk b #[.int .i64 s.p, .int .i64 s.g, .int .i64 s.h, .int .i64 s.r, .pointer (some ⟨d, 0, none⟩), .int .i64 n] 69
/-- the document's vault -/
def tM (b d : Nat) (lv : Value) (l : List V4) : Th := ⟨b :: lv.ownBlock.toList, fun w => IsM w b d lv l, fun h k hk => by
    rcases List.mem_cons.1 hk with rfl | hk
    · exact h.blk.lt
    · exact h.own.lt (by simpa using hk), fun h hm => ⟨h.blk.move (hm b (by simp)), h.own.move (fun k hk => hm k (by simp [hk]))⟩⟩
section
variable {F : List Nat} {w0 w w' : World} {l : List Th}
theorem Sep.reader (H : Sep F w0 l w) (i : Nat) {T : TypeId} {b : Nat} {own : Option Nat} {s s' : St} (hi : l[i]? = some (tRd T b own s)) (h : IsRd T w' b own s') (t : Turns [b] w w') : Sep F w0 (l.set i (tRd T b own s')) w' :=
  H.step i hi (t.mono (by simp [tRd])) h (fun k hk => .inl hk)
theorem Sep.rdisk (H : Sep F w0 l w) (i : Nat) {b : Nat} {sv lv sv' lv' : Value} {safe loose safe' loose' : List Int} {room : Int} (hi : l[i]? = some (tDr b sv lv safe loose room)) (h : IsR w' b sv' lv' safe' loose' room) (t : Turns (rfoot b sv lv) w w') (m : RMoved w b sv lv sv' lv') : Sep F w0 (l.set i (tDr b sv' lv' safe' loose' room)) w' :=
  H.step i hi t h m
theorem Sep.disk (H : Sep F w0 l w) (i : Nat) {b : Nat} {fv fv' : Value} {file file' : List Int} {safe safe' room : Int} (hi : l[i]? = some (tDk b fv file safe room)) (h : IsDisk w' b fv' file' safe' room) (t : Turns (foot b fv) w w') (m : Moved w b fv fv') : Sep F w0 (l.set i (tDk b fv' file' safe' room)) w' :=
  H.step i hi t h m
theorem m_open {r : List Th} {b d : Nat} {lv : Value} {L : List V4} (H : Sep F w0 (tM b d lv L :: r) w) : Sep F w0 (tOwn 47 4 lv (L.map V4.cells) :: tBlk b #[.pointer (some ⟨d, 0, none⟩), lv] 52 :: r) w :=
  H.open_ [tOwn 47 4 lv (L.map V4.cells), tBlk b #[.pointer (some ⟨d, 0, none⟩), lv] 52] (by intro q hq; simp [tM, fps, tBlk, tOwn] at hq ⊢; exact hq.symm) (fun h => by
    have h1 : IsM w b d lv L := h
    refine ⟨two_ok h1.own h1.blk, two_apart (fun k hk hk2 => ?_)⟩
    have e1 : lv.ownBlock = some k := by simpa [tOwn] using hk
    have e2 : k = b := by simpa [tBlk] using hk2
    exact h1.own.ne_blk e1 h1.blk (by decide) e2)
theorem m_shut {r : List Th} {b d : Nat} {lv : Value} {L : List V4} (H : Sep F w0 (tOwn 47 4 lv (L.map V4.cells) :: tBlk b #[.pointer (some ⟨d, 0, none⟩), lv] 52 :: r) w) : Sep F w0 (tM b d lv L :: r) w :=
  Sep.shut_ (ps := [tOwn 47 4 lv (L.map V4.cells), tBlk b #[.pointer (some ⟨d, 0, none⟩), lv] 52]) H (by intro q hq; simp [tM, fps, tBlk, tOwn] at hq ⊢; exact hq.symm) (fun hT _ => ⟨hT (tBlk b #[.pointer (some ⟨d, 0, none⟩), lv] 52) (by simp), hT (tOwn 47 4 lv (L.map V4.cells)) (by simp)⟩)
end
end Go.Proofs.Ytknmjmhiejmjdaa.Vs
