/- The law VaultKeeps. -/
import Derived.Test.YtknmjmhiejmjdaaVv
set_option linter.unusedVariables false
set_option linter.unusedSimpArgs false
set_option maxRecDepth 100000
namespace Go.Proofs.Ytknmjmhiejmjdaa.Vw
open Go.RowKit Go.MapKept Go.ChangeShapes Go.WideShapes Hm Hs Hr Hb Hf Hg Hv Ho Hx Dk Dr Kw Kn Kr Ks Va Vb Vc Vd Ve Vf Vs Vg Vi Vj Vl Vm Vo Vp Vt Hn Ha
theorem ris_iff {a b : V4} : a.rises b = true ↔ (a.p ≤ b.p ∧ a.r ≤ b.r ∧ (a.g < b.g ∨ a.g = b.g ∧ a.h ≤ b.h)) := by unfold V4.rises; exact decide_eq_true_iff
theorem ris_refl (a : V4) : a.rises a = true := ris_iff.2 (by omega)
theorem ris_trans {a b c : V4} (h : a.rises b = true) (k : b.rises c = true) : a.rises c = true := by
  rw [ris_iff] at *
  omega
theorem chain_rises {L : List V4} (h : Chain L) (S : Nat) : ∀ k, S ≤ k → k ≤ L.length → (lastV (L.take S)).rises (lastV (L.take k)) = true
  | 0, h0, _ => by obtain rfl : S = 0 := by omega
                   exact ris_refl _
  | k + 1, h0, hk => by
    by_cases he : S = k + 1
    · subst he; exact ris_refl _
    · have ih := chain_rises h S k (by omega) (by omega)
      obtain ⟨x, hx⟩ : ∃ x, L[k]? = some x := ⟨_, List.getElem?_eq_getElem (by omega)⟩
      have e : lastV (L.take (k + 1)) = x := by rw [List.take_add_one, hx]; exact lastV_snoc _ _
      rw [e]
      exact ris_trans ih (h k x hx).2
theorem last_in {L : List V4} {k : Nat} (h0 : 0 < k) (hk : k ≤ L.length) : lastV (L.take k) ∈ L := by
  obtain ⟨m, rfl⟩ : ∃ m, k = m + 1 := ⟨k - 1, by omega⟩
  obtain ⟨x, hx⟩ : ∃ x, L[m]? = some x := ⟨_, List.getElem?_eq_getElem (by omega)⟩
  rw [List.take_add_one, hx]
  show lastV (L.take m ++ [x]) ∈ L
  rw [lastV_snoc]
  exact List.mem_of_getElem? hx
/-- a state's block -/
abbrev tS (b : Nat) (s : V4) : Th := tBlk b #[.int .i64 s.p, .int .i64 s.g, .int .i64 s.h, .int .i64 s.r] 25
/-- the vault, what is safe, what was put last -/
def KInv (w : World) (sb lb vb b : Nat) (ss ls : V4) (l : List V4) (k : Nat) (wr : World) : Prop := ∃ L S fv, Chain L ∧ S ≤ L.length ∧ L.length ≤ k ∧ (∀ x ∈ L, x ∈ l.take k) ∧ ss = lastV (L.take S) ∧ ls = lastV L ∧
  Sep [] w [tS lb ls, tS sb ss, tV vb b ls L.length, tDk b fv (flat L) ((32 * S : Nat) : Int) 65536] wr
theorem KInv.t {w wr : World} {sb lb vb b : Nat} {ss ls : V4} {l : List V4} {k : Nat} (h : KInv w sb lb vb b ss ls l k wr) : Turns [] w wr := by
  obtain ⟨_, _, _, _, _, _, _, _, _, H⟩ := h
  exact H.t
theorem KInv.safe {w wr : World} {sb lb vb b : Nat} {ss ls : V4} {l : List V4} {k : Nat} (h : KInv w sb lb vb b ss ls l k wr) : Blk wr sb #[.int .i64 ss.p, .int .i64 ss.g, .int .i64 ss.h, .int .i64 ss.r] 25 := by
  obtain ⟨_, _, _, _, _, _, _, _, _, H⟩ := h
  exact H.blk 1 rfl
theorem KInv.last {w wr : World} {sb lb vb b : Nat} {ss ls : V4} {l : List V4} {k : Nat} (h : KInv w sb lb vb b ss ls l k wr) : Blk wr lb #[.int .i64 ls.p, .int .i64 ls.g, .int .i64 ls.h, .int .i64 ls.r] 25 := by
  obtain ⟨_, _, _, _, _, _, _, _, _, H⟩ := h
  exact H.blk 0 rfl
theorem take_mono {l : List V4} {k : Nat} {x : V4} (h : x ∈ l.take k) : x ∈ l.take (k + 1) := by
  rw [List.take_add_one]; exact List.mem_append_left _ h
/-- put, and last set -/
def setS (w : World) (b : Nat) (s : V4) : World := (((w.setCell ⟨b, 0, none⟩ (.int .i64 s.p)).setCell ⟨b, 1, none⟩ (.int .i64 s.g)).setCell ⟨b, 2, none⟩ (.int .i64 s.h)).setCell ⟨b, 3, none⟩ (.int .i64 s.r)
theorem Sep.setS {F : List Nat} {w0 w : World} {l : List Th} (H : Sep F w0 l w) (i : Nat) {b : Nat} {x : V4} (hi : l[i]? = some (tS b x)) (s : V4) : Sep F w0 (l.set i (tS b s)) (setS w b s) := by
  have hb := H.blk i hi
  refine H.step i hi ((((((Turns.refl _ _).setCell (by simp [tBlk]) _).setCell (by simp [tBlk]) _).setCell (by simp [tBlk]) _).setCell (by simp [tBlk]) _)) ?_ (fun k hk => .inl hk)
  exact ((((hb.set 0 (.int .i64 s.p)).set 1 (.int .i64 s.g)).set 2 (.int .i64 s.h)).set 3 (.int .i64 s.r))
theorem kput {w : World} {sb lb vb b : Nat} {ss ls : V4} {l : List V4} {k : Nat} {wr : World} (h : KInv w sb lb vb b ss ls l k wr) (s : V4) (hk : k ≤ 200) (hs : l[k]? = some s) : ∃ r : Int,
    Calls Try.prog 11 #[.pointer (some ⟨vb, 0, none⟩), sAgg s] wr fun e w2 => e = .returned (.int .i64 r) ∧ Turns [] w w2 ∧ (r = 0 → Blk w2 lb #[.int .i64 ls.p, .int .i64 ls.g, .int .i64 ls.h, .int .i64 ls.r] 25 ∧ KInv w sb lb vb b ss s l (k + 1) (setS w2 lb s)) := by
  obtain ⟨L, S, fv, h1, h2, h3, h4, rfl, rfl, H⟩ := h
  have hlen := flat_len L
  refine ⟨putR4 (lastV L) s (flat L).length 65536, ?_⟩
  refine (put_is wr vb b (lastV L) s L.length fv (flat L) _ 65536 _ (H.got [2, 3]) (by omega) (by omega) rfl).mono ?_
  rintro e w2 ⟨rfl, h5⟩
  rcases h5 with ⟨hr, h5⟩ | ⟨hr, fv', h5⟩
  · exact ⟨rfl, (H.call [2, 3] h5).t, fun h0 => absurd h0 hr⟩
  · have hr3 := hr
    unfold putR4 at hr3
    cases hok : s.ok with
    | false => rw [hok] at hr3; simp at hr3
    | true =>
      cases hris : (lastV L).rises s with
      | false => rw [hok, hris] at hr3; simp at hr3
      | true =>
        have H2 : Sep [] w [tS lb (lastV L), tS sb (lastV (L.take S)), tV vb b s ((L.length : Int) + 1), tDk b fv' (flat L ++ recB s) ((32 * S : Nat) : Int) 65536] w2 := (H.call [2, 3] h5).keep [2, 3, 0, 1]
        refine ⟨rfl, H2.t, fun _ => ⟨H2.blk 0 rfl, ?_⟩⟩
        have H3 := Vw.Sep.setS H2 0 rfl s
        refine ⟨L ++ [s], S, fv', h1.snoc hok hris, by rw [List.length_append]; omega, by rw [List.length_append, List.length_singleton]; omega, ?_, by rw [List.take_append_of_le_length (by omega)], (lastV_snoc _ _).symm, ?_⟩
        · intro x hx
          rcases List.mem_append.1 hx with hx | hx
          · exact take_mono (h4 x hx)
          · rw [List.take_add_one, hs]
            exact List.mem_append_right _ (by simpa using hx)
        · rw [flat_append, flat_one, List.length_append, List.length_singleton]
          exact H3
theorem ksync {w : World} {sb lb vb b : Nat} {ss ls : V4} {l : List V4} {k : Nat} {wr : World} (h : KInv w sb lb vb b ss ls l k wr) (hk : k ≤ 201) (hin : ls ∈ l.take k) :
    Calls Try.prog 14 #[.pointer (some ⟨vb, 0, none⟩)] wr fun e w2 => e = .returned (.tuple #[]) ∧ Turns [] w w2 ∧ Blk w2 sb #[.int .i64 ss.p, .int .i64 ss.g, .int .i64 ss.h, .int .i64 ss.r] 25 ∧ KInv w sb lb vb b ls ls l k (setS w2 sb ls) := by
  obtain ⟨L, S, fv, h1, h2, h3, h4, rfl, rfl, H⟩ := h
  have hlen := flat_len L
  refine (vsync_is wr vb b (lastV L) L.length fv (flat L) _ 65536 (H.got [2, 3]) (by omega) (by omega) (last_ok h1) (by omega)).mono ?_
  rintro e w2 ⟨rfl, h5⟩
  rcases h5 with ⟨hr, h5⟩ | ⟨hr, fv', h5⟩
  · have H2 : Sep [] w [tS lb (lastV L), tS sb (lastV (L.take S)), tV vb b (lastV L) (L.length : Int), tDk b fv (flat L) (flat L).length 65536] w2 := (H.call [2, 3] h5).keep [2, 3, 0, 1]
    have H3 := Vw.Sep.setS H2 1 rfl (lastV L)
    rw [hlen] at H3
    exact ⟨rfl, H2.t, H2.blk 1 rfl, L, L.length, fv, h1, Nat.le_refl _, h3, h4, by rw [List.take_length], rfl, H3⟩
  · have H2 : Sep [] w [tS lb (lastV L), tS sb (lastV (L.take S)), tV vb b (lastV L) 1, tDk b fv' (recB (lastV L)) 32 65536] w2 := (H.call [2, 3] h5).keep [2, 3, 0, 1]
    have H3 := Vw.Sep.setS H2 1 rfl (lastV L)
    refine ⟨rfl, H2.t, H2.blk 1 rfl, [lastV L], 1, fv', Chain.one (last_ok h1), by simp, by simp; omega, by simpa using hin, rfl, rfl, ?_⟩
    rw [flat_one]
    exact H3
/-- crashed, and opened -/
theorem kcrash {w : World} {sb lb vb b : Nat} {ss ls : V4} {l : List V4} {k : Nat} {wr : World} (h : KInv w sb lb vb b ss ls l k wr) (keep : Int) (hk : k ≤ 200) : ∃ r1 : Int,
    Calls Try.prog 16 #[.pointer (some ⟨b, 0, none⟩), .int .i64 keep] wr fun e w2 => e = .returned (.int .i64 r1) ∧
        Calls Try.prog 8 #[.pointer (some ⟨b, 0, none⟩)] w2 fun e w5 => ∃ vb' now n, e = .returned (.tuple #[.pointer (some ⟨vb', 0, none⟩), .int .i64 0]) ∧ (now = ss ∨ now ∈ l.take k) ∧ ss.rises now = true ∧ now.rises ls = true ∧ (keep > 0 ∨ now = ss) ∧ Sep [] w [tV vb' b now n, tS lb ls, tS sb ss] w5 := by
  obtain ⟨L, S, fv, h1, h2, h3, h4, rfl, rfl, H⟩ := h
  have hlen := flat_len L
  obtain ⟨j, hj⟩ : ∃ j : Nat, min (max keep 0) (((flat L).length : Int) - ((32 * S : Nat) : Int)) = j := ⟨(min (max keep 0) (((flat L).length : Int) - ((32 * S : Nat) : Int))).toNat, by omega⟩
  obtain ⟨m, hm⟩ : ∃ m, 32 * S + j = m := ⟨_, rfl⟩
  obtain ⟨t, ht, htl, htn⟩ := crash_split L m (by omega)
  have hchain := h1.take (m / 32)
  have hby : Byt ((flat L).take m) := (byt_flat h1.ok).take m
  have hLm : (L.take (m / 32)).length = m / 32 := by rw [htn, htl]
  refine ⟨((flat L).length : Int) - m, ?_⟩
  refine (crash_is wr b fv (flat L) (32 * S) 65536 keep m (H.at_ 3 rfl) (by omega) (by omega) (by omega)).mono ?_
  rintro e w2 ⟨rfl, fv2, d2, t2, m2⟩
  replace H := Vs.Sep.disk H 3 rfl d2 t2 m2
  refine ⟨rfl, ?_⟩
  refine (vopen_is w2 b fv2 ((flat L).take m) (m : Int) 65536 (L.take (m / 32)) (m / 32) (H.got [3]) (by omega) hby (by rw [ht]; exact hchain.good t) (by rw [htl]) (.inl hLm) (by omega)).mono ?_
  rintro e w5 (⟨h0, _⟩ | ⟨_, vb', fv5, sf5, rfl, h5, hs1, hs2⟩)
  · omega
  replace H := H.call [3] h5
  refine ⟨vb', lastV (L.take (m / 32)), _, rfl, ?_, chain_rises h1 S (m / 32) (by omega) (by omega), ?_, ?_, H.keep [0, 2, 3]⟩
  · by_cases he : m / 32 = S
    · exact .inl (by rw [he])
    · exact .inr (h4 _ (last_in (by omega) (by omega)))
  · have := chain_rises h1 (m / 32) L.length (by omega) (Nat.le_refl _)
    rwa [List.take_length] at this
  · by_cases h0 : keep > 0
    · exact .inl h0
    · have : m / 32 = S := by omega
      exact .inr (by rw [this])
end Go.Proofs.Ytknmjmhiejmjdaa.Vw
