/- Plain: records that rise, as a file; and vault's Open, as one contract. -/
import Derived.Test.YtknmjmhiejmjdaaVm
set_option linter.unusedVariables false
set_option linter.unusedSimpArgs false
set_option maxRecDepth 100000
namespace Go.Proofs.Ytknmjmhiejmjdaa.Vo
open Go.RowKit Go.MapKept Go.ChangeShapes Go.WideShapes Hm Hs Hr Hb Hf Hg Hv Ho Hx Dk Dr Kw Kn Kr Ks Va Vb Vc Vd Ve Vf Vs Vg Vi Vj Vl Vm
/-- the file of records -/
def flat (L : List V4) : List Int := L.flatMap recB
theorem flat_append (L M : List V4) : flat (L ++ M) = flat L ++ flat M := List.flatMap_append
theorem flat_cons (x : V4) (M : List V4) : flat (x :: M) = recB x ++ flat M := rfl
theorem flat_len : ∀ L : List V4, (flat L).length = 32 * L.length
  | [] => rfl
  | x :: L => by rw [flat_cons, List.length_append, recB_len, flat_len L, List.length_cons]; omega
theorem flat_one (x : V4) : flat [x] = recB x := by simp [flat]
theorem flat_take : ∀ (L : List V4) (k : Nat), (flat L).take (32 * k) = flat (L.take k)
  | [], k => by simp [flat]
  | x :: L, 0 => by simp [flat]
  | x :: L, k + 1 => by
    rw [List.take_succ_cons, flat_cons, flat_cons, ← flat_take L k, show 32 * (k + 1) = 32 + 32 * k from by omega, List.take_append, recB_len, List.take_of_length_le (by rw [recB_len]; omega)]
    congr 2
    omega
theorem flat_drop (L : List V4) (k : Nat) (hk : k ≤ L.length) : (flat L).drop (32 * k) = flat (L.drop k) := by
  conv => lhs; rw [← List.take_append_drop k L, flat_append]
  have : (flat (L.take k)).length = 32 * k := by rw [flat_len, List.length_take]; omega
  rw [List.drop_append, this, Nat.sub_self, List.drop_zero, List.drop_eq_nil_of_le (by omega), List.nil_append]
theorem u64_in {x : Int} (h : 0 ≤ x ∧ x ≤ 1099511627776) : u64 x = x := by unfold u64; omega
theorem rec_eq {s : V4} (h : s.ok = true) : recB s = be8 s.p ++ be8 s.g ++ be8 s.h ++ be8 s.r := by
  obtain ⟨h1, h2, h3, h4⟩ := ok_in h
  unfold recB V4.list
  simp [putR, u64_in h1, u64_in h2, u64_in h3, u64_in h4]
theorem byt_append {a b : List Int} (ha : Byt a) (hb : Byt b) : Byt (a ++ b) := fun c hc => (List.mem_append.1 hc).elim (ha c) (hb c)
theorem byt_rec {s : V4} (h : s.ok = true) : Byt (recB s) := by
  rw [rec_eq h]
  exact byt_append (byt_append (byt_append (byt_be8 _) (byt_be8 _)) (byt_be8 _)) (byt_be8 _)
theorem byt_flat {L : List V4} (h : ∀ x ∈ L, x.ok = true) : Byt (flat L) := by
  intro c hc
  obtain ⟨x, hx, hc⟩ := List.mem_flatMap.1 hc
  exact byt_rec (h x hx) c hc
theorem take_be8 (x : Int) (t : List Int) : (be8 x ++ t).take 8 = be8 x := by rw [List.take_append, be8_len, Nat.sub_self, List.take_zero, List.append_nil, List.take_of_length_le (by rw [be8_len]; omega)]
theorem drop_be8 (x : Int) (t : List Int) (n : Nat) : (be8 x ++ t).drop (8 + n) = t.drop n := by rw [List.drop_append, be8_len, List.drop_eq_nil_of_le (by rw [be8_len]; omega), List.nil_append]; congr 1; omega
theorem dec_rec {s : V4} (h : s.ok = true) (t : List Int) : decV (recB s ++ t) = s := by
  obtain ⟨h1, h2, h3, h4⟩ := ok_in h
  rw [rec_eq h, List.append_assoc, List.append_assoc, List.append_assoc]
  unfold decV
  have d1 : (be8 s.p ++ (be8 s.g ++ (be8 s.h ++ (be8 s.r ++ t)))).drop 8 = be8 s.g ++ (be8 s.h ++ (be8 s.r ++ t)) := drop_be8 _ _ 0
  have d2 : (be8 s.p ++ (be8 s.g ++ (be8 s.h ++ (be8 s.r ++ t)))).drop 16 = be8 s.h ++ (be8 s.r ++ t) := (drop_be8 _ _ 8).trans (drop_be8 _ _ 0)
  have d3 : (be8 s.p ++ (be8 s.g ++ (be8 s.h ++ (be8 s.r ++ t)))).drop 24 = be8 s.r ++ t := (drop_be8 _ _ 16).trans ((drop_be8 _ _ 8).trans (drop_be8 _ _ 0))
  rw [d1, d2, d3, take_be8, take_be8, take_be8, take_be8, val8_be8 (by omega), val8_be8 (by omega), val8_be8 (by omega), val8_be8 (by omega)]
/-- records that may be, each rising from the one ahead of it -/
def Chain (L : List V4) : Prop := ∀ j x, L[j]? = some x → x.ok = true ∧ (lastV (L.take j)).rises x = true
theorem Chain.nil : Chain [] := by intro j x h; simp at h
theorem Chain.take {L : List V4} (h : Chain L) (k : Nat) : Chain (L.take k) := by
  intro j x hj
  rw [List.getElem?_take] at hj
  split at hj
  · obtain ⟨h1, h2⟩ := h j x hj
    refine ⟨h1, ?_⟩
    rw [List.take_take, Nat.min_eq_left (by omega)]
    exact h2
  · cases hj
theorem Chain.snoc {L : List V4} {x : V4} (h : Chain L) (h1 : x.ok = true) (h2 : (lastV L).rises x = true) : Chain (L ++ [x]) := by
  intro j y hj
  by_cases hlt : j < L.length
  · rw [List.getElem?_append_left hlt] at hj
    obtain ⟨a, b⟩ := h j y hj
    exact ⟨a, by rw [List.take_append_of_le_length (by omega)]; exact b⟩
  · rw [List.getElem?_append_right (by omega)] at hj
    have hj0 : j = L.length := by
      cases hd : j - L.length with
      | zero => omega
      | succ m => rw [hd] at hj; simp at hj
    subst hj0
    rw [Nat.sub_self] at hj
    injection hj with hj
    subst hj
    exact ⟨h1, by rw [List.take_left]; exact h2⟩
theorem Chain.ok {L : List V4} (h : Chain L) : ∀ x ∈ L, x.ok = true := fun x hx => by
  obtain ⟨j, hj, rfl⟩ := List.mem_iff_getElem.1 hx
  exact (h j _ (List.getElem?_eq_getElem hj)).1
theorem z4_ok : z4.ok = true := by decide
theorem last_ok {L : List V4} (h : Chain L) : (lastV L).ok = true := by
  unfold lastV
  cases hl : L.getLast? with
  | none => exact z4_ok
  | some x => exact h.ok x (List.mem_of_getLast? hl)
theorem z4_rises {x : V4} (h : x.ok = true) : z4.rises x = true := by
  obtain ⟨h1, h2, h3, h4⟩ := ok_in h
  refine ris_yes ?_
  simp only [z4]
  omega
theorem Chain.one {x : V4} (h : x.ok = true) : Chain [x] := by
  have := Chain.nil.snoc h (z4_rises h)
  simpa using this
theorem Chain.good {L : List V4} (h : Chain L) (t : List Int) : Vf.Good (flat L ++ t) L := by
  intro j x hj
  obtain ⟨h1, h2⟩ := h j x hj
  refine ⟨?_, h1, h2⟩
  have hlt := (List.getElem?_eq_some_iff.1 hj).1
  have hd : L.drop j = x :: L.drop (j + 1) := by
    rw [List.drop_eq_getElem_cons hlt, (List.getElem?_eq_some_iff.1 hj).2]
  rw [List.drop_append, flat_drop L j (by omega), hd, flat_cons, List.append_assoc, dec_rec h1]
/-- a beginning of a file of records -/
theorem crash_split (L : List V4) (m : Nat) (hm : m ≤ (flat L).length) : ∃ t, (flat L).take m = flat (L.take (m / 32)) ++ t ∧ ((flat L).take m).length = m ∧ (L.take (m / 32)).length = ((flat L).take m).length / 32 := by
  have hlen : ((flat L).take m).length = m := by rw [List.length_take]; omega
  refine ⟨((flat L).take m).drop (32 * (m / 32)), ?_, hlen, ?_⟩
  · rw [← flat_take]
    conv => lhs; rw [← List.take_append_drop (32 * (m / 32)) ((flat L).take m)]
    rw [List.take_take, Nat.min_eq_left (by omega)]
  · rw [hlen, List.length_take]
    rw [flat_len] at hm
    omega
/-- what vault's Open leaves: refused, or a vault -/
def VOut (w : World) (b : Nat) (fv : Value) (file : List Int) (safe room : Int) (L : List V4) (n : Nat) (e : Ending) (w' : World) : Prop :=
  (L.length < n ∧ e = .returned (.tuple #[.pointer none, .int .i64 2]) ∧ Sep (fps [tDk b fv file safe room]) w [tDk b fv file safe room] w') ∨
  (L.length = n ∧ ∃ vb fv' safe', e = .returned (.tuple #[.pointer (some ⟨vb, 0, none⟩), .int .i64 0]) ∧ Sep (fps [tDk b fv file safe room]) w [tV vb b (lastV L) L.length, tDk b fv' (file.take (32 * L.length)) safe' room] w' ∧
    (32 * L.length = file.length → safe' = safe) ∧ (32 * L.length < file.length → safe' = ((32 * L.length : Nat) : Int)))
theorem vopen_is (w : World) (b : Nat) (fv : Value) (file : List Int) (safe room : Int) (L : List V4) (n : Nat) (h : Got [tDk b fv file safe room] w) (hl : file.length ≤ 1000000) (hby : Byt file) (hg : Vf.Good file L)
    (hn0 : n = file.length / 32) (hn : L.length = n ∨ (L.length < n ∧ Vf.Bad file L)) (hroom : (file.length : Int) ≤ room) :
    Calls Try.prog 8 #[.pointer (some ⟨b, 0, none⟩)] w (VOut w b fv file safe room L n) := by
  have hD : IsDisk w b fv file safe room := h.sep.at_ 0 rfl
  rcases hn with hn | ⟨hn, hb⟩
  · by_cases hf : 32 * L.length = file.length
    · refine (open_ok w b fv file safe safe room L hD hroom (fun _ => rfl) (fun h0 => by omega) hl hby hg (by omega)).mono ?_
      rintro e w' ⟨vb, fv', rfl, hV, hge, hD', t, m⟩
      refine .inr ⟨hn, vb, fv', safe, rfl, ⟨by simpa [fps, tDk] using t, two_ok hV hD', two_apart ?_, ?_⟩, fun _ => rfl, fun h0 => by omega⟩
      · intro k hk hk2
        obtain rfl : k = vb := by simpa [tV, tBlk] using hk
        have hk3 : k ∈ foot b fv' := hk2
        unfold foot at hk3
        rcases List.mem_cons.1 hk3 with h1 | h1
        · exact Blk.ne hV hD'.blk (by decide) h1
        · exact hD'.own.ne_blk (by simpa using h1) hV (by decide) rfl
      · intro k hk
        simp only [fps, List.flatMap_cons, List.flatMap_nil, List.append_nil, List.mem_append] at hk ⊢
        rcases hk with hk | hk
        · obtain rfl : k = vb := by simpa [tV, tBlk] using hk
          exact .inr hge
        · exact m k hk
    · refine (open_ok w b fv file safe ((32 * L.length : Nat) : Int) room L hD hroom (fun h0 => by omega) (fun _ => rfl) hl hby hg (by omega)).mono ?_
      rintro e w' ⟨vb, fv', rfl, hV, hge, hD', t, m⟩
      refine .inr ⟨hn, vb, fv', _, rfl, ⟨by simpa [fps, tDk] using t, two_ok hV hD', two_apart ?_, ?_⟩, fun h0 => by omega, fun _ => rfl⟩
      · intro k hk hk2
        obtain rfl : k = vb := by simpa [tV, tBlk] using hk
        have hk3 : k ∈ foot b fv' := hk2
        unfold foot at hk3
        rcases List.mem_cons.1 hk3 with h1 | h1
        · exact Blk.ne hV hD'.blk (by decide) h1
        · exact hD'.own.ne_blk (by simpa using h1) hV (by decide) rfl
      · intro k hk
        simp only [fps, List.flatMap_cons, List.flatMap_nil, List.append_nil, List.mem_append] at hk ⊢
        rcases hk with hk | hk
        · obtain rfl : k = vb := by simpa [tV, tBlk] using hk
          exact .inr hge
        · exact m k hk
  · refine (open_bad w b fv file safe room L hD hl hby hg (by omega) hb).mono ?_
    rintro e w' ⟨rfl, t⟩
    exact .inl ⟨hn, rfl, h.sep.turns t⟩
end Go.Proofs.Ytknmjmhiejmjdaa.Vo
