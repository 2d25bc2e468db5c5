/- The plain law of ElectAlone: elections of all nodes, frames that were told, ballots that were won. -/
import Derived.Test.YthnegmpdadkkcaaEs
set_option linter.unusedVariables false
set_option linter.unusedSimpArgs false
set_option maxRecDepth 100000
namespace Go.Proofs.Ythnegmpdadkkcaa.Ap
open Hm Hc Hd El Em En Eo Es
structure Fr where
  s : Bool
  g : Int
  t : Nat
  won : Bool
def Fr.cells (f : Fr) : List Go.Value := [.bool f.s, .int .i64 f.g, .int .u64 f.t, .bool f.won]
/-- how many promised it, or a greater one -/
def cnt (g : Int) (es : List El) : Nat := (es.filter fun e => decide (g ≤ e.P)).length
structure Hold (n : Nat) (es : List El) (fs : List Fr) (ws : List Int) : Prop where
  n1 : 1 ≤ n ∧ n ≤ 9
  len : es.length = n
  ok : ∀ (i : Nat) (e : El), es[i]? = some e → e.ok ∧ e.N = n ∧ e.I = i
  fr : ∀ f ∈ fs, f.t < 18446744073709551616 ∧ ∀ (j : Nat) (e : El), es[j]? = some e → bit f.t j = true → f.g ≤ e.P
  el : ∀ (i : Nat) (e : El), es[i]? = some e → e.B ≠ 0 → e.B % n = i ∧ ∀ (j : Nat) (e2 : El), es[j]? = some e2 → bit e.S j = true → e.B ≤ e2.P
  wn : ∀ g ∈ ws, 1 ≤ g ∧ ∃ (i : Nat) (e : El), es[i]? = some e ∧ g % n = i ∧ g ≤ e.P ∧ e.B ≠ g
theorem set_at {es : List El} {i j : Nat} {e' e2 : El} (h : (es.set i e')[j]? = some e2) : (j = i ∧ e2 = e') ∨ (j ≠ i ∧ es[j]? = some e2) := by
  rw [List.getElem?_set] at h
  split at h
  · rename_i hij
    split at h
    · injection h with h; exact .inl ⟨hij.symm, h.symm⟩
    · cases h
  · rename_i hij
    exact .inr ⟨fun h2 => hij h2.symm, h⟩
theorem set_old {es : List El} {i j : Nat} {e e' e2 : El} (he : es[i]? = some e) (h : es[j]? = some e2) (hP : e.P ≤ e'.P) : ∃ e3, (es.set i e')[j]? = some e3 ∧ e2.P ≤ e3.P := by
  rw [List.getElem?_set]
  have hj := (List.getElem?_eq_some_iff.1 h).1
  by_cases hij : i = j
  · subst hij
    rw [he] at h
    injection h with h
    subst h
    exact ⟨e', by simp [hj], hP⟩
  · exact ⟨e2, by simp [hij, h], Int.le_refl _⟩
theorem set_mono {es : List El} {i j : Nat} {e e' e2 : El} (he : es[i]? = some e) (h : (es.set i e')[j]? = some e2) (hP : e.P ≤ e'.P) : ∃ e3, es[j]? = some e3 ∧ e3.P ≤ e2.P := by
  rcases set_at h with ⟨rfl, rfl⟩ | ⟨_, h2⟩
  · exact ⟨e, he, hP⟩
  · exact ⟨e2, h2, Int.le_refl _⟩
/-- an election changes; frames may be added -/
theorem upd {n : Nat} {es : List El} {fs : List Fr} {ws : List Int} (h : Hold n es fs ws) {i : Nat} {e e' : El} (he : es[i]? = some e) (hok : e'.ok) (hN : e'.N = n) (hI : e'.I = i) (hP : e.P ≤ e'.P)
    (hB : e'.B ≠ 0 → e'.B % n = i ∧ ∀ (j : Nat) (e2 : El), (es.set i e')[j]? = some e2 → bit e'.S j = true → e'.B ≤ e2.P)
    (hw : ∀ g ∈ ws, g % n = i → g ≤ e.P → e.B ≠ g → e'.B ≠ g)
    (more : List Fr) (hm : ∀ f ∈ more, f.t < 18446744073709551616 ∧ ∀ (j : Nat) (e2 : El), (es.set i e')[j]? = some e2 → bit f.t j = true → f.g ≤ e2.P) : Hold n (es.set i e') (fs ++ more) ws := by
  refine ⟨h.n1, by rw [List.length_set]; exact h.len, fun j e2 hj => ?_, fun f hf => ?_, fun j e2 hj hb => ?_, fun g hg => ?_⟩
  · rcases set_at hj with ⟨rfl, rfl⟩ | ⟨_, h2⟩
    · exact ⟨hok, hN, hI⟩
    · exact h.ok j e2 h2
  · rcases List.mem_append.1 hf with hf | hf
    · obtain ⟨h1, h2⟩ := h.fr f hf
      refine ⟨h1, fun j e2 hj hb => ?_⟩
      obtain ⟨e3, h3, h4⟩ := set_mono he hj hP
      exact Int.le_trans (h2 j e3 h3 hb) h4
    · exact hm f hf
  · rcases set_at hj with ⟨rfl, rfl⟩ | ⟨hne, h2⟩
    · exact hB hb
    · obtain ⟨h3, h4⟩ := h.el j e2 h2 hb
      refine ⟨h3, fun k e3 hk hbit => ?_⟩
      obtain ⟨e4, h5, h6⟩ := set_mono he hk hP
      exact Int.le_trans (h4 k e4 h5 hbit) h6
  · obtain ⟨h1, j, e2, hj, h2, h3, h4⟩ := h.wn g hg
    refine ⟨h1, ?_⟩
    by_cases hji : j = i
    · subst hji
      rw [he] at hj
      injection hj with hj
      subst hj
      have hlt := (List.getElem?_eq_some_iff.1 he).1
      exact ⟨j, e', by rw [List.getElem?_set]; simp [hlt], h2, Int.le_trans h3 hP, hw g hg h2 h3 h4⟩
    · exact ⟨j, e2, by rw [List.getElem?_set]; simp [Ne.symm hji, hj], h2, h3, h4⟩
/-- a ballot is won -/
theorem win {n : Nat} {es : List El} {fs : List Fr} {ws : List Int} (h : Hold n es fs ws) {g : Int} (h1 : 1 ≤ g) {i : Nat} {e : El} (he : es[i]? = some e) (h2 : g % n = i) (h3 : g ≤ e.P) (h4 : e.B ≠ g) : Hold n es fs (ws ++ [g]) :=
  ⟨h.n1, h.len, h.ok, h.fr, h.el, fun g2 hg => by
    rcases List.mem_append.1 hg with hg | hg
    · exact h.wn g2 hg
    · simp at hg; subst hg; exact ⟨h1, i, e, he, h2, h3, h4⟩⟩
theorem take_cnt {g : Int} {es : List El} {k : Nat} {e : El} (h : es[k]? = some e) : cnt g (es.take (k + 1)) = cnt g (es.take k) + if g ≤ e.P then 1 else 0 := by
  unfold cnt
  rw [List.take_add_one, h, Option.toList_some, List.filter_append, List.length_append]
  congr 1
  by_cases hg : g ≤ e.P
  · simp [hg]
  · simp [hg]
theorem ones_cnt {g : Int} {es : List El} {S : Nat} (h : ∀ (j : Nat) (e : El), es[j]? = some e → bit S j = true → g ≤ e.P) : ∀ k, k ≤ es.length → ones k S ≤ cnt g (es.take k)
  | 0, _ => by simp [ones]
  | k + 1, hk => by
    have h1 := ones_cnt h k (by omega)
    have hx : es[k]? = some es[k] := List.getElem?_eq_getElem (by omega)
    rw [ones_bit, take_cnt hx]
    cases hb : bit S k
    · simp; omega
    · have := h k _ hx hb
      simp [this]; omega
theorem bit_le {t j n : Nat} (h : bit t j = true) : True := trivial
/-- what an act leaves -/
structure Outc (n : Nat) (es : List El) (fs : List Fr) (ws : List Int) (i : Nat) (f : Fr) (e' : El) : Prop where
  inv : Hold n (es.set i e') (fs ++ if f.s then [f] else []) ws
  t : f.t < 18446744073709551616
  w1 : f.won = true → f.g ∉ ws
  w2 : f.won = true → f.g % n = i
  w3 : f.won = true → n / 2 + 1 ≤ cnt f.g (es.set i e')
  w4 : f.won = true → Hold n (es.set i e') (fs ++ if f.s then [f] else []) (ws ++ [f.g])
theorem win_cnt {n : Nat} {es : List El} {g : Int} {S : Nat} (hl : es.length = n) (h : ∀ j e, es[j]? = some e → bit S j = true → g ≤ e.P) (hw : n < 2 * ones n S) : n / 2 + 1 ≤ cnt g es := by
  have := ones_cnt h n (by omega)
  rw [List.take_of_length_le (by omega)] at this
  omega
theorem good_stand {n : Nat} {es : List El} {fs : List Fr} {ws : List Int} (h : Hold n es fs ws) {i : Nat} {e : El} (he : es[i]? = some e) {b : Int} (h1 : e.P < b ∧ b ≤ 1099511627776) (h2 : b % (e.N : Int) = e.I) (h3 : (e.N : Int) ≤ b) :
    Outc n es fs ws i ⟨!(El.stand e b).win, b, 2 ^ e.I, (El.stand e b).win⟩ (El.stand e b).won := by
  obtain ⟨hok, hN, hI⟩ := h.ok i e he
  have hn := h.n1
  have hi64 : i < 64 := by have := (List.getElem?_eq_some_iff.1 he).1; have := h.len; omega
  rw [hI] at h2 ⊢
  have hlt : 2 ^ i < 18446744073709551616 := by have := Nat.pow_lt_pow_right (a := 2) (by omega) hi64; omega
  have hP : e.P ≤ (El.stand e b).won.P := by show e.P ≤ b; omega
  have hin : (es.set i (El.stand e b).won)[i]? = some (El.stand e b).won := by rw [List.getElem?_set]; simp [(List.getElem?_eq_some_iff.1 he).1]
  have hbits : ∀ (j : Nat) (e2 : El), (es.set i (El.stand e b).won)[j]? = some e2 → bit (2 ^ i) j = true → b ≤ e2.P := fun j e2 hj hb => by
    rw [bit_pow] at hb
    have hij : i = j := by simpa using hb
    subst hij
    rw [hin] at hj
    injection hj with hj
    subst hj
    exact Int.le_refl _
  have hmod : b % (n : Int) = i := by rw [hN] at h2; exact h2
  have hinv : ∀ more : List Fr, (∀ f ∈ more, f.t < 18446744073709551616 ∧ ∀ (j : Nat) (e2 : El), (es.set i (El.stand e b).won)[j]? = some e2 → bit f.t j = true → f.g ≤ e2.P) → Hold n (es.set i (El.stand e b).won) (fs ++ more) ws := fun more hm => by
    refine upd h he (won_ok (stand_ok hok h1)) hN hI hP (fun hB => ?_) (fun g hg hgm hgP hgB => ?_) more hm
    · have hBb : (El.stand e b).won.B = b := by
        show (if (El.stand e b).win then 0 else b) = b
        have : (El.stand e b).won.B = if (El.stand e b).win then 0 else b := rfl
        rw [this] at hB
        split
        · rename_i hw; rw [if_pos hw] at hB; exact absurd rfl hB
        · rfl
      rw [hBb]
      refine ⟨hmod, fun j e2 hj hb => ?_⟩
      have hS : (El.stand e b).won.S = 2 ^ e.I := rfl
      rw [hS, hI] at hb
      exact hbits j e2 hj hb
    · have hg1 := (h.wn g hg).1
      show (if (El.stand e b).win then 0 else b) ≠ g
      split <;> omega
  have hfr : Hold n (es.set i (El.stand e b).won) (fs ++ if (!(El.stand e b).win) then [(⟨!(El.stand e b).win, b, 2 ^ i, (El.stand e b).win⟩ : Fr)] else []) ws := by
    refine hinv _ (fun f hf => ?_)
    split at hf
    · simp at hf; subst hf; exact ⟨hlt, hbits⟩
    · simp at hf
  have hB0 : (El.stand e b).win = true → (El.stand e b).won.B = 0 := fun hw => by show (if (El.stand e b).win then 0 else b) = 0; rw [if_pos hw]
  have hb1 : 1 ≤ b := by have := hok.p; omega
  refine ⟨hfr, hlt, fun hw hmem => ?_, fun _ => hmod, fun hw => ?_, fun hw => win hfr hb1 hin hmod (Int.le_refl _) (by rw [hB0 hw]; show (0 : Int) ≠ b; omega)⟩
  · obtain ⟨_, j, e2, hj, h5, h6, _⟩ := h.wn b hmem
    have : (j : Int) = i := by rw [← h5]; exact hmod
    have hji : j = i := by omega
    subst hji
    rw [he] at hj
    injection hj with hj
    subst hj
    omega
  · refine win_cnt (by rw [List.length_set]; exact h.len) hbits ?_
    have hw2 : (El.stand e b).win = true := hw
    unfold El.win at hw2
    have h7 : (El.stand e b).N = n := hN
    have h8 : (El.stand e b).S = 2 ^ e.I := rfl
    rw [h7, h8, hI] at hw2
    simpa using hw2
theorem good_raise {n : Nat} {es : List El} {fs : List Fr} {ws : List Int} (h : Hold n es fs ws) {i : Nat} {e : El} (he : es[i]? = some e) {x : Fr} (hx : x ∈ fs) (h1 : e.P < x.g ∧ x.g ≤ 1099511627776) :
    Outc n es fs ws i ⟨true, x.g, x.t ||| 2 ^ e.I, false⟩ (El.up e x.g) := by
  obtain ⟨hok, hN, hI⟩ := h.ok i e he
  have hn := h.n1
  have hi64 : i < 64 := by have := (List.getElem?_eq_some_iff.1 he).1; have := h.len; omega
  rw [hI]
  obtain ⟨hxt, hxb⟩ := h.fr x hx
  have hlt : x.t ||| 2 ^ i < 18446744073709551616 := Nat.or_lt_two_pow (n := 64) hxt (Nat.pow_lt_pow_right (by omega) hi64)
  have hP : e.P ≤ (El.up e x.g).P := by show e.P ≤ x.g; omega
  have hin : (es.set i (El.up e x.g))[i]? = some (El.up e x.g) := by rw [List.getElem?_set]; simp [(List.getElem?_eq_some_iff.1 he).1]
  have hinv : Hold n (es.set i (El.up e x.g)) (fs ++ if true then [(⟨true, x.g, x.t ||| 2 ^ i, false⟩ : Fr)] else []) ws := by
    refine upd h he (up_ok hok h1) hN hI hP (fun hB => absurd rfl hB) (fun g hg hgm hgP hgB => by have := (h.wn g hg).1; show (0 : Int) ≠ g; omega) _ (fun f hf => ?_)
    simp at hf
    subst hf
    refine ⟨hlt, fun j e2 hj hb => ?_⟩
    rw [bit_or, bit_pow] at hb
    rcases Bool.or_eq_true _ _ ▸ hb with hb | hb
    · obtain ⟨e3, h5, h6⟩ := set_mono he hj hP
      exact Int.le_trans (hxb j e3 h5 hb) h6
    · have hij : i = j := by simpa using hb
      subst hij
      rw [hin] at hj
      injection hj with hj
      subst hj
      exact Int.le_refl _
  exact ⟨hinv, hlt, (fun hw => by cases hw), (fun hw => by cases hw), (fun hw => by cases hw), (fun hw => by cases hw)⟩
theorem good_none {n : Nat} {es : List El} {fs : List Fr} {ws : List Int} (h : Hold n es fs ws) {i : Nat} {e : El} (he : es[i]? = some e) : Outc n es fs ws i ⟨false, 0, 0, false⟩ e := by
  have hs : es.set i e = es := by
    refine List.ext_getElem? (fun j => ?_)
    rw [List.getElem?_set]
    split
    · rename_i hij
      subst hij
      split
      · exact he.symm
      · rename_i h2; exact absurd (List.getElem?_eq_some_iff.1 he).1 h2
    · rfl
  exact ⟨by rw [hs]; simpa using h, by decide, (fun hw => by cases hw), (fun hw => by cases hw), (fun hw => by cases hw), (fun hw => by cases hw)⟩
theorem good_count {n : Nat} {es : List El} {fs : List Fr} {ws : List Int} (h : Hold n es fs ws) {i : Nat} {e : El} (he : es[i]? = some e) {x : Fr} (hx : x ∈ fs) (h1 : 1 ≤ x.g) (h2 : x.g = e.B) :
    Outc n es fs ws i ⟨false, e.P, e.S ||| x.t, (El.more e x.t).win⟩ (El.more e x.t).won := by
  obtain ⟨hok, hN, hI⟩ := h.ok i e he
  have hn := h.n1
  obtain ⟨hxt, hxb⟩ := h.fr x hx
  have hBP : e.B = e.P := by rcases hok.b with h3 | h3 <;> omega
  have hB0 : e.B ≠ 0 := by omega
  obtain ⟨hmod, hel⟩ := h.el i e he hB0
  have hlt : e.S ||| x.t < 18446744073709551616 := Nat.or_lt_two_pow (n := 64) hok.s hxt
  have hP : e.P ≤ (El.more e x.t).won.P := Int.le_refl _
  have hin : (es.set i (El.more e x.t).won)[i]? = some (El.more e x.t).won := by rw [List.getElem?_set]; simp [(List.getElem?_eq_some_iff.1 he).1]
  have hbits : ∀ (j : Nat) (e2 : El), (es.set i (El.more e x.t).won)[j]? = some e2 → bit (e.S ||| x.t) j = true → e.P ≤ e2.P := fun j e2 hj hb => by
    obtain ⟨e3, h5, h6⟩ := set_mono he hj hP
    rw [bit_or] at hb
    rcases Bool.or_eq_true _ _ ▸ hb with hb | hb
    · have := hel j e3 h5 hb; omega
    · have := hxb j e3 h5 hb; omega
  have hinv : Hold n (es.set i (El.more e x.t).won) (fs ++ if false then [(⟨false, e.P, e.S ||| x.t, (El.more e x.t).win⟩ : Fr)] else []) ws := by
    refine upd h he (won_ok (more_ok hok hxt)) hN hI hP (fun hB => ?_) (fun g hg hgm hgP hgB => ?_) _ (by simp)
    · have hBb : (El.more e x.t).won.B = e.B := by
        show (if (El.more e x.t).win then 0 else e.B) = e.B
        have : (El.more e x.t).won.B = if (El.more e x.t).win then 0 else e.B := rfl
        rw [this] at hB
        split
        · rename_i hw; rw [if_pos hw] at hB; exact absurd rfl hB
        · rfl
      rw [hBb]
      exact ⟨hmod, fun j e2 hj hb => by rw [hBP]; exact hbits j e2 hj hb⟩
    · have hg1 := (h.wn g hg).1
      show (if (El.more e x.t).win then 0 else e.B) ≠ g
      split
      · omega
      · exact hgB
  have hW0 : (El.more e x.t).win = true → (El.more e x.t).won.B = 0 := fun hw => by show (if (El.more e x.t).win then 0 else e.B) = 0; rw [if_pos hw]
  have hmodP : e.P % (n : Int) = i := by rw [← hBP]; exact hmod
  refine ⟨hinv, hlt, fun hw hmem => ?_, fun _ => hmodP, fun hw => ?_, fun hw => win hinv (by show 1 ≤ e.P; omega) hin hmodP (Int.le_refl _) (by rw [hW0 hw]; show (0 : Int) ≠ e.P; omega)⟩
  · obtain ⟨_, j, e2, hj, h5, h6, h7⟩ := h.wn e.P hmem
    have : (j : Int) = i := by rw [← h5]; exact hmodP
    have hji : j = i := by omega
    subst hji
    rw [he] at hj
    injection hj with hj
    subst hj
    exact h7 hBP
  · refine win_cnt (by rw [List.length_set]; exact h.len) hbits ?_
    have hw2 : (El.more e x.t).win = true := hw
    unfold El.win at hw2
    have h7 : (El.more e x.t).N = n := hN
    have h8 : (El.more e x.t).S = e.S ||| x.t := rfl
    rw [h7, h8] at hw2
    simpa using hw2
theorem good_new {n : Nat} {es : List El} {fs : List Fr} {ws : List Int} (h : Hold n es fs ws) {i : Nat} {e : El} (he : es[i]? = some e) : Hold n (es.set i ⟨n, i, e.P, e.R, 0, 0⟩) fs ws := by
  obtain ⟨hok, hN, hI⟩ := h.ok i e he
  have h2 := upd h he (e' := ⟨n, i, e.P, e.R, 0, 0⟩) ⟨by rw [← hN]; exact hok.n, by rw [← hN, ← hI]; exact hok.i, hok.p, hok.r, .inl rfl, by show (0 : Nat) < _; omega⟩ rfl rfl (Int.le_refl _) (fun hB => absurd rfl hB) (fun g hg _ _ _ => by have := (h.wn g hg).1; show (0 : Int) ≠ g; omega) [] (by simp)
  simpa using h2
end Go.Proofs.Ythnegmpdadkkcaa.Ap
