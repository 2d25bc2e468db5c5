/- Words of this work: as XHg, where several great operations may come up at once: two of them (each order is walked), or a group of them (told by an invariant of those that are left). No program in sight. -/
import Derived.Test.YtohokckpheljbaaHg
set_option linter.unusedVariables false
set_option linter.unusedSimpArgs false
namespace Go.Proofs.Ytohokckpheljbaa.Hi
open Go Hf Hg
section
variable {P : Program} {ops : Array Oper} {md : Region.Mode} {Q : Exit → Act → World → Prop}
inductive Tr where
  | done : Tr
  | read (i : Nat) (J : List Nat) (t : Tr) : Tr
  | alone (i : Nat) (t : Tr) : Tr
  | fork (i : Nat) (t : Tr) (j : Nat) (u : Tr) : Tr
  | group (g : List Nat) (t : Tr) : Tr
def sz : Tr → Nat
  | .done => 0
  | .read _ _ t => sz t + 1
  | .alone _ t => sz t + 1
  | .fork _ t _ _ => sz t + 1
  | .group g t => sz t + g.length
def great : Tr → Nat → Bool
  | .done, _ => false
  | .read _ _ t, k => great t k
  | .alone i t, k => i == k || great t k
  | .fork i t j u, k => i == k || j == k || great t k || great u k
  | .group g t, k => g.contains k || great t k
def flo3 (P : Program) (ops : Array Oper) (Q : Exit → Act → World → Prop) : Tr → (Nat → World → Prop) → Act → World → Prop
  | .done, _, a, w => Q .normal a w
  | .read i J t, G, a, w => ∃ o, ops[i]? = some o ∧ ∃ S : World → Prop, S w ∧ (∀ j ∈ J, ∀ W, G j W → S W) ∧ if Region.wanted o (yielded ops a.tmps) then readAt P o a S w (fun a' => flo3 P ops Q t G a' w) else flo3 P ops Q t G (a.put o.dst undef) w
  | .alone i t, G, a, w => wpOp P ops Q i (fun a' w' => G i w' ∧ ∃ G' : Nat → World → Prop, (∀ j W, G' j W → G j W) ∧ flo3 P ops Q t G' a' w') a w
  | .fork i t j u, G, a, w => wpOp P ops Q i (fun a' w' => G i w' ∧ ∃ G' : Nat → World → Prop, (∀ j W, G' j W → G j W) ∧ flo3 P ops Q t G' a' w') a w ∧ wpOp P ops Q j (fun a' w' => G j w' ∧ ∃ G' : Nat → World → Prop, (∀ j W, G' j W → G j W) ∧ flo3 P ops Q u G' a' w') a w
  | .group g t, G, a, w => ∃ K : List Nat → Act → World → Prop, K g a w ∧ (∀ rem a w, K rem a w → ∀ i ∈ rem, wpOp P ops Q i (fun a' w' => G i w' ∧ K (rem.erase i) a' w') a w) ∧ ∀ a w, K [] a w → flo3 P ops Q t G a w
def setAll (listed : Array Bool) (D : List Nat) : Array Bool := D.foldl (fun l i => l.setIfInBounds i true) listed
def subs : List Nat → List (List Nat)
  | [] => [[]]
  | x :: r => subs r ++ (subs r).map (x :: ·)
def groupB (md : Region.Mode) (ops : Array Oper) (g : List Nat) (listed : Array Bool) : Bool :=
  (subs g).all fun D => D.length == g.length || decide (Region.ready md ops (setAll listed D) = g.filter (fun x => !D.contains x))
def floB3 (md : Region.Mode) (ops : Array Oper) : Tr → Array Bool → Bool
  | .done, listed => (Region.ready md ops listed).isEmpty
  | .read i J t, listed => (Region.ready md ops listed).contains i && Region.free md ops listed i && (List.range ops.size).all (fun j => j == i || listed.getD j true || waits md ops j i || !great t j || J.contains j) && floB3 md ops t (listed.setIfInBounds i true)
  | .alone i t, listed => decide (Region.ready md ops listed = [i]) && floB3 md ops t (listed.setIfInBounds i true)
  | .fork i t j u, listed => decide (Region.ready md ops listed = [i, j]) && decide (sz u = sz t) && floB3 md ops t (listed.setIfInBounds i true) && floB3 md ops u (listed.setIfInBounds j true)
  | .group g t, listed => decide g.Nodup && groupB md ops g listed && floB3 md ops t (setAll listed g)
def only3 (t : Tr) (G : Nat → World → Prop) : Nat → World → Prop := fun j W => great t j = true ∧ G j W
theorem only3_mono {t u : Tr} {G G' : Nat → World → Prop} (ht : ∀ j, great t j = true → great u j = true) (h : ∀ j W, G' j W → G j W) : ∀ j W, only3 t G' j W → only3 u G j W := fun j W ⟨h1, h2⟩ => ⟨ht j h1, h j W h2⟩
theorem filter_subs (p : Nat → Bool) : ∀ g : List Nat, g.filter p ∈ subs g
  | [] => by simp [subs]
  | x :: r => by
    rw [List.filter_cons]
    unfold subs
    split
    · exact List.mem_append_right _ (List.mem_map.2 ⟨_, filter_subs p r, rfl⟩)
    · exact List.mem_append_left _ (filter_subs p r)
theorem setAll_perm {base : Array Bool} {D E : List Nat} (h : D.Perm E) : setAll base D = setAll base E := by
  induction h generalizing base with
  | nil => rfl
  | cons x _ ih => exact ih
  | swap x y l =>
    show setAll ((base.setIfInBounds y true).setIfInBounds x true) l = setAll ((base.setIfInBounds x true).setIfInBounds y true) l
    by_cases e : x = y
    · rw [e]
    · rw [Array.setIfInBounds_comm _ _ (Ne.symm e)]
  | trans _ _ ih1 ih2 => exact ih1.trans ih2
theorem group_sound {G : Nat → World → Prop} {m : Nat} {g : List Nat} {base : Array Bool} {K : List Nat → Act → World → Prop} (hK : ∀ rem a w, K rem a w → ∀ i ∈ rem, wpOp P ops Q i (fun a' w' => G i w' ∧ K (rem.erase i) a' w') a w)
    (hend : ∀ a w, K [] a w → anyI P md ops Q G m (setAll base g) a w) (hnd : g.Nodup) (hB : groupB md ops g base = true) : ∀ (n : Nat) (D : List Nat) (a : Act) (w : World), D.Nodup → (∀ x ∈ D, x ∈ g) → g.length = D.length + n → K (g.filter (fun x => !D.contains x)) a w → anyI P md ops Q G (m + n) (setAll base D) a w
  | 0, D, a, w, hD, hs, hl, h => by
    have hp0 : (g.filter (fun x => D.contains x)).Perm D := (List.perm_ext_iff_of_nodup (hnd.filter _) hD).2 (fun x => by
      simp only [List.mem_filter, List.contains_iff_mem]
      exact ⟨fun h => h.2, fun h => ⟨hs x h, h⟩⟩)
    have hg : g.filter (fun x => D.contains x) = g := List.filter_eq_self.2 (List.length_filter_eq_length_iff.1 (by rw [hp0.length_eq]; omega))
    rw [hg] at hp0
    have hp := hp0.symm
    have e : g.filter (fun x => !D.contains x) = [] := List.filter_eq_nil_iff.2 (fun x hx => by simpa using hp.mem_iff.2 hx)
    rw [e] at h
    rw [setAll_perm hp]
    exact hend a w h
  | n + 1, D, a, w, hD, hs, hl, h => by
    have hp : (g.filter (fun x => D.contains x)).Perm D := (List.perm_ext_iff_of_nodup (hnd.filter _) hD).2 (fun x => by
      simp only [List.mem_filter, List.contains_iff_mem]
      exact ⟨fun h => h.2, fun h => ⟨hs x h, h⟩⟩)
    have hc := List.all_eq_true.1 hB _ (filter_subs (fun x => D.contains x) g)
    have hlen := hp.length_eq
    have hne : ((g.filter (fun x => D.contains x)).length == g.length) = false := by rw [hlen]; simp; omega
    rw [hne, Bool.false_or, decide_eq_true_eq, setAll_perm hp] at hc
    have e2 : g.filter (fun x => !(g.filter (fun x => D.contains x)).contains x) = g.filter (fun x => !D.contains x) := List.filter_congr (fun x hx => by
      congr 1
      rw [Bool.eq_iff_iff]
      simp only [List.contains_iff_mem]
      exact hp.mem_iff)
    rw [e2] at hc
    refine ⟨fun h0 => ?_, fun i hi => ?_⟩
    · rw [hc] at h0
      have : ∀ x ∈ g, x ∈ D := fun x hx => by simpa using List.filter_eq_nil_iff.1 h0 x hx
      have hg : g.filter (fun x => D.contains x) = g := List.filter_eq_self.2 (fun x hx => by simpa using this x hx)
      rw [hg] at hlen
      omega
    · rw [hc] at hi
      obtain ⟨hi1, hi2⟩ := List.mem_filter.1 hi
      have hi3 : i ∉ D := by simpa using hi2
      have e3 : (g.filter (fun x => !D.contains x)).erase i = g.filter (fun x => !(D ++ [i]).contains x) := by
        rw [List.Nodup.erase_eq_filter (hnd.filter _) i, List.filter_filter]
        refine List.filter_congr (fun x _ => ?_)
        by_cases hx : x = i <;> simp [hx]
      refine wpOp_mono (fun a' w' h' => ⟨.inr h'.1, ?_⟩) (hK _ a w h i hi)
      have h2 := h'.2
      rw [e3] at h2
      have := group_sound hK hend hnd hB n (D ++ [i]) a' w' (List.nodup_append.2 ⟨hD, by simp, fun x hx y hy e => by simp at hy; subst hy; subst e; exact hi3 hx⟩) (fun x hx => by
        rcases List.mem_append.1 hx with h | h
        · exact hs x h
        · simp at h; subst h; exact hi1) (by rw [List.length_append, List.length_singleton]; omega) h2
      unfold setAll at this ⊢
      rw [List.foldl_append] at this
      exact this
theorem I_of_flo3 (hsel : Region.noSelect ops = true) (hQ : ∀ c d v a w, Q (.panic c) (a.put d v) w → Q (.panic c) a w) : ∀ (t : Tr) (G : Nat → World → Prop) (listed : Array Bool) (a : Act) (w : World),
    floB3 md ops t listed = true → flo3 P ops Q t G a w → anyI P md ops Q (only3 t G) (sz t) listed a w
  | .done, G, listed, a, w, hB, h => by
    simp only [floB3, List.isEmpty_iff] at hB
    exact ⟨hB, h⟩
  | .read i J t, G, listed, a, w, hB, h => by
    simp only [floB3, Bool.and_eq_true] at hB
    obtain ⟨⟨⟨hr, hf⟩, hJ⟩, hB'⟩ := hB
    obtain ⟨o, ho, S, hS, hGS, h⟩ := h
    have hfr : ∀ j oj, ops[j]? = some oj → j ≠ i → listed.getD j true = false → (∀ e ∈ oj.after, Region.binds md e = true → e.on ≠ i) → o.apart ops oj = true ∧ ∀ W, only3 (.read i J t) G j W → S W := fun j oj hj hji hun hno => by
      refine ⟨Region.free_spec ho hf j oj hj hji hun hno, fun W hW => ?_⟩
      obtain ⟨h1, h2⟩ := hW
      have hlt : j < ops.size := (Array.getElem?_eq_some_iff.1 hj).1
      have h3 := List.all_eq_true.1 hJ j (List.mem_range.2 hlt)
      have h4 : waits md ops j i = false := by
        unfold waits
        rw [hj]
        simp only
        rw [Bool.eq_false_iff]
        intro hc
        obtain ⟨k, hk, he⟩ := Array.any_eq_true.1 hc
        simp only [Bool.and_eq_true, beq_iff_eq] at he
        exact hno _ (Array.getElem_mem hk) he.1 he.2
      have h5 : great t j = true := h1
      have h6 : (j == i) = false := by simpa using hji
      rw [h4, h5, h6, hun] at h3
      simp only [Bool.or_false, Bool.not_true, Bool.false_or] at h3
      exact hGS j (by simpa using h3) W h2
    have hr' : i ∈ Region.ready md ops listed := by simpa using hr
    split at h
    · rename_i hw
      unfold readAt at h
      cases hrun : (execOp a.eval o).run P w with
      | ok n w' =>
        rw [hrun] at h
        cases n <;> simp only [readUpon] at h
        exact I_first ho (Region.noSelect_spec hsel) (fun c a w => hQ c _ _ a w) (sz t) listed a w hfr hr' (.inl ⟨hw, h.1⟩) hS (I_of_flo3 hsel hQ t G _ _ w hB' h.2)
      | halt x w' =>
        rw [hrun] at h
        simp only [readUpon] at h
    · rename_i hw
      exact I_first ho (Region.noSelect_spec hsel) (fun c a w => hQ c _ _ a w) (sz t) listed a w hfr hr' (.inr ⟨by simpa using hw, rfl⟩) hS (I_of_flo3 hsel hQ t G _ _ w hB' h)
  | .alone i t, G, listed, a, w, hB, h => by
    simp only [floB3, Bool.and_eq_true, decide_eq_true_eq] at hB
    obtain ⟨hr, hB'⟩ := hB
    refine ⟨fun h0 => (by rw [hr] at h0; cases h0), fun j hj => ?_⟩
    rw [hr] at hj
    have : j = i := by simpa using hj
    subst this
    refine wpOp_mono (fun a' w' h' => ?_) h
    obtain ⟨h1, G', hG', hf⟩ := h'
    exact ⟨.inr ⟨by unfold great; simp, h1⟩, I_grow (only3_mono (fun k hk => by unfold great; rw [hk, Bool.or_true]) hG') _ _ _ _ (I_of_flo3 hsel hQ t G' _ a' w' hB' hf)⟩
  | .fork i t k u, G, listed, a, w, hB, h => by
    simp only [floB3, Bool.and_eq_true, decide_eq_true_eq] at hB
    obtain ⟨⟨⟨hr, hsz⟩, hB1⟩, hB2⟩ := hB
    refine ⟨fun h0 => (by rw [hr] at h0; cases h0), fun j hj => ?_⟩
    rw [hr] at hj
    have : j = i ∨ j = k := by simpa using hj
    rcases this with rfl | rfl
    · refine wpOp_mono (fun a' w' h' => ?_) h.1
      obtain ⟨h1, G', hG', hf⟩ := h'
      exact ⟨.inr ⟨by unfold great; simp, h1⟩, I_grow (only3_mono (fun k hk => by unfold great; rw [hk]; simp) hG') _ _ _ _ (I_of_flo3 hsel hQ t G' _ a' w' hB1 hf)⟩
    · refine wpOp_mono (fun a' w' h' => ?_) h.2
      obtain ⟨h1, G', hG', hf⟩ := h'
      have := I_of_flo3 hsel hQ u G' _ a' w' hB2 hf
      rw [hsz] at this
      exact ⟨.inr ⟨by unfold great; simp, h1⟩, I_grow (only3_mono (fun k hk => by unfold great; rw [hk]; simp) hG') _ _ _ _ this⟩
  | .group g t, G, listed, a, w, hB, h => by
    simp only [floB3, Bool.and_eq_true, decide_eq_true_eq] at hB
    obtain ⟨⟨hnd, hB1⟩, hB2⟩ := hB
    obtain ⟨K, h1, h2, h3⟩ := h
    have h2' : ∀ rem a w, (K rem a w ∧ ∀ i ∈ rem, g.contains i = true) → ∀ i ∈ rem, wpOp P ops Q i (fun a' w' => only3 (.group g t) G i w' ∧ (K (rem.erase i) a' w' ∧ ∀ k ∈ rem.erase i, g.contains k = true)) a w := fun rem a w hk i hi =>
      wpOp_mono (fun a' w' h' => ⟨⟨by unfold great; rw [hk.2 i hi, Bool.true_or], h'.1⟩, h'.2, fun k hkm => hk.2 k (List.mem_of_mem_erase hkm)⟩) (h2 rem a w hk.1 i hi)
    have e : g.filter (fun x => !([] : List Nat).contains x) = g := List.filter_eq_self.2 (fun x _ => by simp)
    have := group_sound (K := fun rem a w => K rem a w ∧ ∀ i ∈ rem, g.contains i = true) (base := listed) h2' (fun a w hk => I_grow (only3_mono (fun k hk => by unfold great; rw [hk, Bool.or_true]) (fun _ _ h => h)) _ _ _ _ (I_of_flo3 hsel hQ t G _ a w hB2 (h3 a w hk.1))) hnd hB1 g.length [] a w (by simp) (by simp) (by simp) (by rw [e]; exact ⟨h1, fun i hi => by simpa using hi⟩)
    exact this
/-- The beginning. -/
theorem wp_region_flo3 {id : Nat} {a : Act} {w : World} {l : List Oper} (t : Tr) (G : Nat → World → Prop) (hm : P.follows .mixedOrders = true) (hn : sz t = l.length) (hB : (Region.noSelect l.toArray && floB3 .any l.toArray t (Array.replicate l.toArray.size false)) = true)
    (hQ : ∀ c d v a w, Q (.panic c) (a.put d v) w → Q (.panic c) a w) (h : flo3 P l.toArray Q t G a w.drew) : (Code.region id l.toArray true).wp P Q a w := by
  simp only [Bool.and_eq_true] at hB
  have := any_of_I _ _ _ _ (I_of_flo3 (md := .any) hB.1 hQ t G _ a w.drew hB.2 h)
  refine wp_region_any hm ?_
  have e : l.toArray.size = sz t := by simp [hn]
  rw [e] at this ⊢
  exact this
theorem flo3_read {i : Nat} {J : List Nat} {t : Tr} {G : Nat → World → Prop} {a : Act} {w : World} (o : Oper) (ho : ops[i]? = some o) (S : World → Prop) (hS : S w) (hJ : ∀ j ∈ J, ∀ W, G j W → S W)
    (h : ∀ K : Act → Prop, (∀ a, flo3 P ops Q t G a w → K a) → if Region.wanted o (yielded ops a.tmps) then readAt P o a S w K else K (a.put o.dst undef)) : flo3 P ops Q (.read i J t) G a w :=
  ⟨o, ho, S, hS, hJ, h _ (fun _ h => h)⟩
theorem flo3_end {G : Nat → World → Prop} {a : Act} {w : World} (h : Q .normal a w) : flo3 P ops Q .done G a w := h
/-- What is owed behind a great operation. -/
def floQ3 (Q : Exit → Act → World → Prop) (R : Act → World → Prop) : Exit → Act → World → Prop
  | .normal, a, w => R a w
  | x, a, w => Q x a w
theorem wpOp_of_list {i : Nat} {a : Act} {w : World} {R : Act → World → Prop} (o : Oper) (ho : ops[i]? = some o) (h : wpList P ops (floQ3 Q R) [o] a w) : wpOp P ops Q i R a w := by
  unfold wpOp
  simp only [ho]
  have h1 : if Region.wanted o (yielded ops a.tmps) = true then Oper.wp P o a w (fun a' w' => floQ3 Q R .normal a' w') (floQ3 Q R) ∨ (o.asks P a w ∧ LetsOut (floQ3 Q R)) else floQ3 Q R .normal (a.put o.dst undef) w := h
  split
  · rename_i hw
    simp only [hw, if_true] at h1
    rcases h1 with h1 | h1
    · refine .inl ?_
      unfold Oper.wp at *
      generalize (execOp a.eval o).run P w = x at *
      cases x with
      | ok n w' =>
        cases n <;> simp only [Oper.upon] at h1 ⊢
        case enter f args => exact h1.mono fun e w'' h2 => by cases e <;> exact h2
        all_goals exact h1
      | halt x w' => cases x <;> simp only [Oper.upon] at h1 ⊢ <;> exact h1
    · exact .inr h1
  · rename_i hw
    simp only [hw] at h1
    exact h1
theorem flo3_alone {i : Nat} {t : Tr} {G : Nat → World → Prop} {a : Act} {w : World} (o : Oper) (ho : ops[i]? = some o) (h : wpList P ops (floQ3 Q (fun a' w' => G i w' ∧ ∃ G' : Nat → World → Prop, (∀ j W, G' j W → G j W) ∧ flo3 P ops Q t G' a' w')) [o] a w) : flo3 P ops Q (.alone i t) G a w :=
  wpOp_of_list o ho h
theorem flo3_fork {i j : Nat} {t u : Tr} {G : Nat → World → Prop} {a : Act} {w : World} (o : Oper) (ho : ops[i]? = some o) (p : Oper) (hp : ops[j]? = some p)
    (h : wpList P ops (floQ3 Q (fun a' w' => G i w' ∧ ∃ G' : Nat → World → Prop, (∀ j W, G' j W → G j W) ∧ flo3 P ops Q t G' a' w')) [o] a w)
    (k : wpList P ops (floQ3 Q (fun a' w' => G j w' ∧ ∃ G' : Nat → World → Prop, (∀ j W, G' j W → G j W) ∧ flo3 P ops Q u G' a' w')) [p] a w) : flo3 P ops Q (.fork i t j u) G a w :=
  ⟨wpOp_of_list o ho h, wpOp_of_list p hp k⟩
theorem flo3_group {g : List Nat} {t : Tr} {G : Nat → World → Prop} {a : Act} {w : World} (K : List Nat → Act → World → Prop) (h1 : K g a w) (h2 : ∀ rem a w, K rem a w → ∀ i ∈ rem, wpOp P ops Q i (fun a' w' => G i w' ∧ K (rem.erase i) a' w') a w) (h3 : ∀ a w, K [] a w → flo3 P ops Q t G a w) : flo3 P ops Q (.group g t) G a w :=
  ⟨K, h1, h2, h3⟩
end
end Go.Proofs.Ytohokckpheljbaa.Hi
