/- AuditWindows, the plain law: if no window between two grants is too great, none is. No program in sight. -/
import Derived.Test.YtmaielpfeajelaaSm
set_option linter.unusedVariables false
set_option linter.unusedSimpArgs false
namespace Go.Proofs.Ytmaielpfeajelaa.Ua
open Go.RowKit Sm
/-- a grant -/
structure Gr where
  time : Int
  key : Int
  cost : Int
  gen : Int
def hit (key after upto : Int) (g : Gr) : Bool := decide (g.key = key ∧ fit g.time > after ∧ fit g.time ≤ upto)
def spst (key after upto : Int) (n : Int) (g : Gr) : Int := if hit key after upto g then sum [n, g.cost] else n
def spent (l : List Gr) (key after upto : Int) : Int := l.foldl (spst key after upto) 0
def allowed (R B skew ticks : Int) : Int := sum [mul R ticks, B, mul R (mul 2 skew)]
def tms (l : List Gr) (key : Int) : List Int := (l.filter fun g => g.key == key).map fun g => fit g.time
def bad (l : List Gr) (key R B skew : Int) (all : List Int) (k i : Nat) : Bool := decide (spent l key (all.getD k 0 - 1) (all.getD i 0) > allowed R B skew (all.getD i 0 - (all.getD k 0 - 1)))
/-- the windows that end at i, from the n-th down -/
def bin (l : List Gr) (key R B skew : Int) (all : List Int) (i : Nat) : Nat → Option (Int × Int)
  | 0 => none
  | k + 1 => if bad l key R B skew all k i then some (all.getD k 0 - 1, all.getD i 0) else bin l key R B skew all i k
def bout (l : List Gr) (key R B skew : Int) (all : List Int) : Nat → Nat → Option (Int × Int)
  | 0, _ => none
  | n + 1, i => match bin l key R B skew all i (i + 1) with | some r => some r | none => bout l key R B skew all n (i + 1)
section
variable {l : List Gr} {key R B skew : Int} {all : List Int}
theorem bin_none {i : Nat} : ∀ {n : Nat}, bin l key R B skew all i n = none → ∀ k, k < n → bad l key R B skew all k i = false
  | 0, _, k, hk => by omega
  | n + 1, h, k, hk => by
    unfold bin at h
    split at h
    · cases h
    · rename_i hb
      by_cases e : k = n
      · subst e; simpa using hb
      · exact bin_none h k (by omega)
theorem bout_none : ∀ {n i : Nat}, bout l key R B skew all n i = none → ∀ j, i ≤ j → j < i + n → ∀ k, k ≤ j → bad l key R B skew all k j = false
  | 0, i, _, j, h1, h2, _, _ => by omega
  | n + 1, i, h, j, h1, h2, k, hk => by
    unfold bout at h
    split at h
    · cases h
    · rename_i hb
      by_cases e : j = i
      · subst e; exact bin_none hb k (by omega)
      · exact bout_none h j (by omega) (by omega) k hk
theorem spent_filter (l : List Gr) (key after upto : Int) : ∀ n, l.foldl (spst key after upto) n = (l.filter (hit key after upto)).foldl (fun n g => sum [n, g.cost]) n := by
  induction l with
  | nil => intro n; rfl
  | cons g l ih =>
    intro n
    rw [List.foldl_cons, ih, List.filter_cons]
    unfold spst
    split <;> simp_all
theorem spent_congr {a u a' u' : Int} (h : ∀ g ∈ l, hit key a u g = hit key a' u' g) : spent l key a u = spent l key a' u' := by
  unfold spent
  rw [spent_filter, spent_filter, List.filter_congr h]
theorem min_of : ∀ {l : List Int}, l ≠ [] → ∃ m ∈ l, ∀ x ∈ l, m ≤ x
  | [x], _ => ⟨x, by simp, by simp⟩
  | x :: y :: r, _ => by
    obtain ⟨m, h1, h2⟩ := min_of (l := y :: r) (by simp)
    by_cases h : x ≤ m
    · refine ⟨x, by simp, fun z hz => ?_⟩
      rcases List.mem_cons.1 hz with rfl | hz
      · exact Int.le_refl _
      · exact Int.le_trans h (h2 z hz)
    · refine ⟨m, by simp [List.mem_cons.1 h1], fun z hz => ?_⟩
      rcases List.mem_cons.1 hz with rfl | hz
      · omega
      · exact h2 z hz
theorem max_of : ∀ {l : List Int}, l ≠ [] → ∃ m ∈ l, ∀ x ∈ l, x ≤ m
  | [x], _ => ⟨x, by simp, by simp⟩
  | x :: y :: r, _ => by
    obtain ⟨m, h1, h2⟩ := max_of (l := y :: r) (by simp)
    by_cases h : m ≤ x
    · refine ⟨x, by simp, fun z hz => ?_⟩
      rcases List.mem_cons.1 hz with rfl | hz
      · exact Int.le_refl _
      · exact Int.le_trans (h2 z hz) h
    · refine ⟨m, by simp [List.mem_cons.1 h1], fun z hz => ?_⟩
      rcases List.mem_cons.1 hz with rfl | hz
      · omega
      · exact h2 z hz
theorem mul_mono (R : Int) {a b : Int} (h : a ≤ b) : mul R a ≤ mul R b := by
  have h1 : fit a ≤ fit b := by unfold fit; omega
  have h2 := Int.mul_le_mul_of_nonneg_left h1 (fit_bd R).1
  unfold mul
  omega
theorem two_mono {a b : Int} (c : Int) (h : a ≤ b) : two a c ≤ two b c := by unfold two fit; omega
theorem two_mono2 {a b : Int} (c : Int) (h : a ≤ b) : two c a ≤ two c b := by unfold two fit; omega
theorem allowed_mono (R B skew : Int) {a b : Int} (h : a ≤ b) : allowed R B skew a ≤ allowed R B skew b := by
  unfold allowed sum
  simp only [List.foldl_cons, List.foldl_nil]
  exact two_mono _ (two_mono _ (two_mono2 _ (mul_mono R h)))
theorem allowed_bd (R B skew t : Int) : 0 ≤ allowed R B skew t ∧ allowed R B skew t ≤ 4611686018427387904 := sum_bd _
theorem spent_bd (l : List Gr) (key after upto : Int) : 0 ≤ spent l key after upto ∧ spent l key after upto ≤ 4611686018427387904 := by
  have : ∀ (l : List Gr) (n : Int), 0 ≤ n → n ≤ 4611686018427387904 → 0 ≤ l.foldl (spst key after upto) n ∧ l.foldl (spst key after upto) n ≤ 4611686018427387904 := by
    intro l
    induction l with
    | nil => intro n h1 h2; exact ⟨h1, h2⟩
    | cons g l ih =>
      intro n h1 h2
      rw [List.foldl_cons]
      unfold spst
      split
      · exact ih _ (sum_bd _).1 (sum_bd _).2
      · exact ih _ h1 h2
  exact this l 0 (by omega) (by omega)
/-- all windows -/
theorem windows (hs : all.Pairwise (· < ·)) (hm : ∀ x, x ∈ all ↔ x ∈ tms l key) (h : bout l key R B skew all all.length 0 = none) (after upto : Int) (hau : after < upto) : spent l key after upto ≤ allowed R B skew (upto - after) := by
  by_cases he : l.filter (hit key after upto) = []
  · have : spent l key after upto = 0 := by unfold spent; rw [spent_filter, he]; rfl
    rw [this]
    exact (allowed_bd _ _ _ _).1
  · have hne : (l.filter (hit key after upto)).map (fun g => fit g.time) ≠ [] := by simpa using he
    have hin : ∀ t, t ∈ (l.filter (hit key after upto)).map (fun g => fit g.time) ↔ ∃ g ∈ l, g.key = key ∧ fit g.time = t ∧ after < t ∧ t ≤ upto := by
      intro t
      rw [List.mem_map]
      constructor
      · rintro ⟨g, hg, rfl⟩
        obtain ⟨h1, h2⟩ := List.mem_filter.1 hg
        unfold hit at h2
        rw [decide_eq_true_eq] at h2
        exact ⟨g, h1, h2.1, rfl, h2.2.1, h2.2.2⟩
      · rintro ⟨g, h1, h2, rfl, h3, h4⟩
        exact ⟨g, List.mem_filter.2 ⟨h1, by unfold hit; rw [decide_eq_true_eq]; exact ⟨h2, h3, h4⟩⟩, rfl⟩
    obtain ⟨t1, a1, a2⟩ := min_of hne
    obtain ⟨t2, b1, b2⟩ := max_of hne
    have hall : ∀ t, t ∈ (l.filter (hit key after upto)).map (fun g => fit g.time) → t ∈ all := by
      intro t ht
      obtain ⟨g, h1, h2, h3, _⟩ := (hin t).1 ht
      rw [hm]
      unfold tms
      exact List.mem_map.2 ⟨g, List.mem_filter.2 ⟨h1, by simpa using h2⟩, h3⟩
    obtain ⟨k, hk⟩ := List.getElem?_of_mem (hall t1 a1)
    obtain ⟨i, hi⟩ := List.getElem?_of_mem (hall t2 b1)
    obtain ⟨hk1, hk2⟩ := List.getElem?_eq_some_iff.1 hk
    obtain ⟨hi1, hi2⟩ := List.getElem?_eq_some_iff.1 hi
    have hki : k ≤ i := by
      by_cases hlt : i < k
      · have := List.pairwise_iff_getElem.1 hs i k hi1 hk1 hlt
        have := a2 t2 b1
        omega
      · omega
    have hb := bout_none h i (by omega) (by omega) k hki
    unfold bad at hb
    rw [List.getD_eq_getElem?_getD, List.getD_eq_getElem?_getD, hk, hi] at hb
    simp only [Option.getD_some, decide_eq_false_iff_not, Int.not_lt] at hb
    have e : spent l key after upto = spent l key (t1 - 1) t2 := by
      refine spent_congr (fun g hg => ?_)
      unfold hit
      rw [decide_eq_decide]
      constructor
      · rintro ⟨h1, h2, h3⟩
        have hmem := (hin (fit g.time)).2 ⟨g, hg, h1, rfl, h2, h3⟩
        have := a2 _ hmem
        have := b2 _ hmem
        exact ⟨h1, by omega, by omega⟩
      · rintro ⟨h1, h2, h3⟩
        obtain ⟨_, _, _, _, c1, c2⟩ := (hin t1).1 a1
        obtain ⟨_, _, _, _, c3, c4⟩ := (hin t2).1 b1
        exact ⟨h1, by omega, by omega⟩
    obtain ⟨_, _, _, _, c1, c2⟩ := (hin t1).1 a1
    obtain ⟨_, _, _, _, c3, c4⟩ := (hin t2).1 b1
    rw [e]
    exact Int.le_trans hb (allowed_mono R B skew (by omega))
end
end Go.Proofs.Ytmaielpfeajelaa.Ua
