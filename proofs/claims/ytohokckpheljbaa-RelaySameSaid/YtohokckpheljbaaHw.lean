/- Words of this work: as XHg, where a great operation waits for a read through others: a chain of waits is told. No program in sight. -/
import Derived.Test.YtohokckpheljbaaHg
set_option linter.unusedVariables false
set_option linter.unusedSimpArgs false
namespace Go.Proofs.Ytohokckpheljbaa.Hw
open Go Hf Hg
section
variable {P : Program} {ops : Array Oper} {md : Region.Mode} {Q : Exit → Act → World → Prop}
/-- j waits for i -/
def edge (md : Region.Mode) (ops : Array Oper) (j i : Nat) : Bool := match ops[j]? with | some oj => oj.after.any (fun e => Region.binds md e && e.on == i) | none => false
def pathB (md : Region.Mode) (ops : Array Oper) : List Nat → Nat → Bool
  | [], _ => false
  | [j], i => edge md ops j i
  | j :: k :: r, i => edge md ops j k && pathB md ops (k :: r) i
def Closed (md : Region.Mode) (ops : Array Oper) (listed : Array Bool) : Prop := ∀ (k : Nat) (ok : Oper), ops[k]? = some ok → listed.getD k false = true → ∀ e ∈ ok.after, Region.binds md e = true → listed.getD e.on false = true
theorem closed_start (n : Nat) : Closed md ops (Array.replicate n false) := fun k ok _ h => by
  rw [Array.getD_eq_getD_getElem?] at h
  by_cases hk : k < n
  · rw [Array.getElem?_eq_getElem (by simpa using hk)] at h
    simp at h
  · rw [Array.getElem?_eq_none (by simpa using hk)] at h
    simp at h
theorem getD_set_mono {listed : Array Bool} {i k : Nat} (h : listed.getD k false = true) : (listed.setIfInBounds i true).getD k false = true := by
  rw [Array.getD_eq_getD_getElem?] at h ⊢
  rw [Array.getElem?_setIfInBounds]
  split
  · split <;> simp_all
  · exact h
theorem Closed.set {listed : Array Bool} (h : Closed md ops listed) {i : Nat} (hi : i ∈ Region.ready md ops listed) : Closed md ops (listed.setIfInBounds i true) := fun k ok hk hl e he hb => by
  by_cases hki : k = i
  · subst hki
    obtain ⟨_, o, ho, hall⟩ := mem_ready.1 hi
    have : o = ok := Option.some.inj (ho.symm.trans hk)
    subst this
    exact getD_set_mono (hall e he hb)
  · rw [getD_set_ne false (Ne.symm hki)] at hl
    exact getD_set_mono (h k ok hk hl e he hb)
theorem no_path {listed : Array Bool} (h : Closed md ops listed) {i : Nat} (hi : listed.getD i false = false) : ∀ (r : List Nat) (j : Nat), (∀ oj, ops[j]? = some oj → ∀ e ∈ oj.after, Region.binds md e = true → listed.getD e.on false = true) → pathB md ops (j :: r) i = false
  | [], j, hj => by
    rw [Bool.eq_false_iff]
    intro hp
    simp only [pathB] at hp
    unfold edge at hp
    split at hp
    · rename_i oj hoj
      obtain ⟨k, hk, he⟩ := Array.any_eq_true.1 hp
      simp only [Bool.and_eq_true, beq_iff_eq] at he
      have := hj oj hoj _ (Array.getElem_mem hk) he.1
      rw [he.2, hi] at this
      cases this
    · cases hp
  | k :: r, j, hj => by
    rw [Bool.eq_false_iff]
    intro hp
    simp only [pathB, Bool.and_eq_true] at hp
    obtain ⟨h1, h2⟩ := hp
    unfold edge at h1
    split at h1
    · rename_i oj hoj
      obtain ⟨m, hm, he⟩ := Array.any_eq_true.1 h1
      simp only [Bool.and_eq_true, beq_iff_eq] at he
      have hl := hj oj hoj _ (Array.getElem_mem hm) he.1
      rw [he.2] at hl
      have := no_path h hi r k (fun ok hok e he2 hb => h k ok hok hl e he2 hb)
      rw [this] at h2
      cases h2
    · cases h1
theorem I_first4 {G : Nat → World → Prop} {S : World → Prop} {i : Nat} {oi : Oper} {v : Value} (hi : ops[i]? = some oi) (hsel : ∀ (j : Nat) (o : Oper) cs b, ops[j]? = some o → o.op ≠ .select cs b)
    (hQ : ∀ c a w, Q (.panic c) (a.put oi.dst v) w → Q (.panic c) a w) :
    ∀ (fuel : Nat) (listed : Array Bool) (a : Act) (w : World), Closed md ops listed →
      (∀ j oj, ops[j]? = some oj → j ≠ i → listed.getD j true = false → (∀ e ∈ oj.after, Region.binds md e = true → e.on ≠ i) → (∀ r, pathB md ops (j :: r) i = false) → oi.apart ops oj = true ∧ ∀ W, G j W → S W) →
      i ∈ Region.ready md ops listed → YieldsIf P ops S oi v a → S w →
      anyI P md ops Q G fuel (listed.setIfInBounds i true) (a.put oi.dst v) w → anyI P md ops Q G (fuel + 1) listed a w := by
  intro fuel
  induction fuel with
  | zero =>
    intro listed a w hcl _ hr hy hS H
    refine ⟨fun h => (by rw [h] at hr; cases hr), fun j hj => ?_⟩
    by_cases hji : j = i
    · subst hji; exact hy.wpOp hi hS ⟨.inl rfl, H⟩
    · have := ready_mono hj hji
      rw [H.1] at this
      cases this
  | succ fuel ih =>
    intro listed a w hcl hfree hr hy hS H
    refine ⟨fun h => (by rw [h] at hr; cases hr), fun j hj => ?_⟩
    by_cases hji : j = i
    · subst hji; exact hy.wpOp hi hS ⟨.inl rfl, H⟩
    · have h1 := H.2 j (ready_mono hj hji)
      obtain ⟨hjun, oj, hoj, hall⟩ := mem_ready.1 hj
      have h0 := (mem_ready.1 hr).1
      have h0f : listed.getD i false = false := by
        rw [Array.getD_eq_getD_getElem?] at h0 ⊢
        cases hg : listed[i]? with
        | none => rw [hg] at h0; cases h0
        | some x => rw [hg] at h0; simpa using h0
      have hnot : ∀ e ∈ oj.after, Region.binds md e = true → e.on ≠ i := fun e he hb heq => by
        have h1 := hall e he hb
        rw [heq, h0f] at h1
        cases h1
      have hnp : ∀ r, pathB md ops (j :: r) i = false := fun r => no_path hcl h0f r j (fun o ho e he hb => by
        have : o = oj := Option.some.inj (ho.symm.trans hoj)
        subst this
        exact hall e he hb)
      have h2 := wpOp_putIf hoj (hfree j oj hoj hji hjun hnot hnp).1 (fun cs b => hsel i oi cs b hi) (fun cs b => hsel j oj cs b hoj) hQ hy h1
      have hfree' : ∀ k ok, ops[k]? = some ok → k ≠ i → (listed.setIfInBounds j true).getD k true = false →
          (∀ e ∈ ok.after, Region.binds md e = true → e.on ≠ i) → (∀ r, pathB md ops (k :: r) i = false) → oi.apart ops ok = true ∧ ∀ W, G k W → S W := fun k ok hk hki hun hno hnp => by
        refine hfree k ok hk hki ?_ hno hnp
        by_cases hjk : j = k
        · subst hjk; exact hjun
        · rw [getD_set_ne true hjk] at hun; exact hun
      refine wpOp_mono (fun a' w' h3 => ?_) h2
      have hS' : S w' := by
        rcases h3.2.1 with h4 | h4
        · rw [h4]; exact hS
        · exact (hfree j oj hoj hji hjun hnot hnp).2 w' h4
      refine ⟨h3.2.1, ih (listed.setIfInBounds j true) a' w' (hcl.set hj) hfree' (ready_mono hr (Ne.symm hji)) h3.1 hS' ?_⟩
      rw [Array.setIfInBounds_comm _ _ hji]
      exact h3.2.2
abbrev Step4 := Nat × Bool × List Nat × List (List Nat)
def alone4 (r : List Step4) (j : Nat) : Bool := r.any fun x => x.1 == j && !x.2.1
/-- One walk in the order told: (i, true, J, C): operation i reads, J: those that are alone, and may come up ahead of it, C: chains by which the others wait for it. -/
def flo4 (P : Program) (ops : Array Oper) (Q : Exit → Act → World → Prop) : List Step4 → (Nat → World → Prop) → Act → World → Prop
  | [], _, a, w => Q .normal a w
  | (i, true, J, _) :: r, G, a, w => ∃ o, ops[i]? = some o ∧ ∃ S : World → Prop, S w ∧ (∀ j ∈ J, ∀ W, G j W → S W) ∧ if Region.wanted o (yielded ops a.tmps) then readAt P o a S w (fun a' => flo4 P ops Q r G a' w) else flo4 P ops Q r G (a.put o.dst undef) w
  | (i, false, _, _) :: r, G, a, w => wpOp P ops Q i (fun a' w' => G i w' ∧ ∃ G' : Nat → World → Prop, (∀ j W, G' j W → G j W) ∧ flo4 P ops Q r G' a' w') a w
def floB4 (md : Region.Mode) (ops : Array Oper) : List Step4 → Array Bool → Bool
  | [], listed => (Region.ready md ops listed).isEmpty
  | (i, true, J, C) :: r, listed => (Region.ready md ops listed).contains i && Region.free md ops listed i && (List.range ops.size).all (fun j => j == i || listed.getD j true || waits md ops j i || !alone4 r j || J.contains j || C.any (fun p => p.head? == some j && pathB md ops p i)) && floB4 md ops r (listed.setIfInBounds i true)
  | (i, false, _, _) :: r, listed => decide (Region.ready md ops listed = [i]) && floB4 md ops r (listed.setIfInBounds i true)
def only4 (r : List Step4) (G : Nat → World → Prop) : Nat → World → Prop := fun j W => alone4 r j = true ∧ G j W
theorem only4_tail {x : Step4} {r : List Step4} {G G' : Nat → World → Prop} (h : ∀ j W, G' j W → G j W) : ∀ j W, only4 r G' j W → only4 (x :: r) G j W := fun j W ⟨h1, h2⟩ => ⟨by unfold alone4 at *; rw [List.any_cons, h1, Bool.or_true], h j W h2⟩
theorem I_of_flo4 (hsel : Region.noSelect ops = true) (hQ : ∀ c d v a w, Q (.panic c) (a.put d v) w → Q (.panic c) a w) : ∀ (r : List Step4) (G : Nat → World → Prop) (listed : Array Bool) (a : Act) (w : World), Closed md ops listed →
    floB4 md ops r listed = true → flo4 P ops Q r G a w → anyI P md ops Q (only4 r G) r.length listed a w
  | [], G, listed, a, w, hcl, hB, h => by
    simp only [floB4, List.isEmpty_iff] at hB
    exact ⟨hB, h⟩
  | (i, true, J, C) :: r, G, listed, a, w, hcl, hB, h => by
    simp only [floB4, Bool.and_eq_true] at hB
    obtain ⟨⟨⟨hr, hf⟩, hJ⟩, hB'⟩ := hB
    obtain ⟨o, ho, S, hS, hGS, h⟩ := h
    have hfr : ∀ j oj, ops[j]? = some oj → j ≠ i → listed.getD j true = false → (∀ e ∈ oj.after, Region.binds md e = true → e.on ≠ i) → (∀ q, pathB md ops (j :: q) i = false) → o.apart ops oj = true ∧ ∀ W, only4 ((i, true, J, C) :: r) G j W → S W := fun j oj hj hji hun hno hnp => by
      refine ⟨Region.free_spec ho hf j oj hj hji hun hno, fun W hW => ?_⟩
      obtain ⟨h1, h2⟩ := hW
      have hlt : j < ops.size := (Array.getElem?_eq_some_iff.1 hj).1
      have h3 := List.all_eq_true.1 hJ j (List.mem_range.2 hlt)
      have h4 : waits md ops j i = false := by
        unfold waits
        rw [hj]
        simp only
        rw [Bool.eq_false_iff]
        intro hc
        obtain ⟨k, hk, he⟩ := Array.any_eq_true.1 hc
        simp only [Bool.and_eq_true, beq_iff_eq] at he
        exact hno _ (Array.getElem_mem hk) he.1 he.2
      have h5 : alone4 r j = true := by
        unfold alone4 at h1 ⊢
        rw [List.any_cons] at h1
        simpa using h1
      have h6 : (j == i) = false := by simpa using hji
      have h7 : C.any (fun p => p.head? == some j && pathB md ops p i) = false := by
        rw [Bool.eq_false_iff]
        intro hc
        obtain ⟨p, hp, he⟩ := List.any_eq_true.1 hc
        simp only [Bool.and_eq_true, beq_iff_eq] at he
        cases p with
        | nil => cases he.1
        | cons x q =>
          have : x = j := by simpa using he.1
          subst this
          rw [hnp q] at he
          cases he.2
      rw [h4, h5, h6, hun, h7] at h3
      simp only [Bool.or_false, Bool.not_true, Bool.false_or] at h3
      exact hGS j (by simpa using h3) W h2
    have hr' : i ∈ Region.ready md ops listed := by simpa using hr
    split at h
    · rename_i hw
      unfold readAt at h
      cases hrun : (execOp a.eval o).run P w with
      | ok n w' =>
        rw [hrun] at h
        cases n <;> simp only [readUpon] at h
        exact I_first4 ho (Region.noSelect_spec hsel) (fun c a w => hQ c _ _ a w) r.length listed a w hcl hfr hr' (.inl ⟨hw, h.1⟩) hS (I_grow (only4_tail (fun _ _ h => h)) _ _ _ _ (I_of_flo4 hsel hQ r G _ _ w (hcl.set hr') hB' h.2))
      | halt x w' =>
        rw [hrun] at h
        simp only [readUpon] at h
    · rename_i hw
      exact I_first4 ho (Region.noSelect_spec hsel) (fun c a w => hQ c _ _ a w) r.length listed a w hcl hfr hr' (.inr ⟨by simpa using hw, rfl⟩) hS (I_grow (only4_tail (fun _ _ h => h)) _ _ _ _ (I_of_flo4 hsel hQ r G _ _ w (hcl.set hr') hB' h))
  | (i, false, J, C) :: r, G, listed, a, w, hcl, hB, h => by
    simp only [floB4, Bool.and_eq_true, decide_eq_true_eq] at hB
    obtain ⟨hr, hB'⟩ := hB
    refine ⟨fun h0 => (by rw [hr] at h0; cases h0), fun j hj => ?_⟩
    have hj' := hj
    rw [hr] at hj
    have : j = i := by simpa using hj
    subst this
    refine wpOp_mono (fun a' w' h' => ?_) h
    obtain ⟨h1, G', hG', hf⟩ := h'
    exact ⟨.inr ⟨by unfold alone4; simp, h1⟩, I_grow (only4_tail hG') _ _ _ _ (I_of_flo4 hsel hQ r G' _ a' w' (hcl.set hj') hB' hf)⟩
/-- The beginning. -/
theorem wp_region_flo4 {id : Nat} {a : Act} {w : World} {l : List Oper} (r : List Step4) (G : Nat → World → Prop) (hm : P.follows .mixedOrders = true) (hn : r.length = l.length) (hB : (Region.noSelect l.toArray && floB4 .any l.toArray r (Array.replicate l.toArray.size false)) = true)
    (hQ : ∀ c d v a w, Q (.panic c) (a.put d v) w → Q (.panic c) a w) (h : flo4 P l.toArray Q r G a w.drew) : (Code.region id l.toArray true).wp P Q a w := by
  simp only [Bool.and_eq_true] at hB
  have := any_of_I _ _ _ _ (I_of_flo4 (md := .any) hB.1 hQ r G _ a w.drew (closed_start _) hB.2 h)
  refine wp_region_any hm ?_
  have e : l.toArray.size = r.length := by simp [hn]
  rw [e] at this ⊢
  exact this
theorem flo4_read {i : Nat} {J : List Nat} {C : List (List Nat)} {r : List Step4} {G : Nat → World → Prop} {a : Act} {w : World} (o : Oper) (ho : ops[i]? = some o) (S : World → Prop) (hS : S w) (hJ : ∀ j ∈ J, ∀ W, G j W → S W)
    (h : ∀ K : Act → Prop, (∀ a, flo4 P ops Q r G a w → K a) → if Region.wanted o (yielded ops a.tmps) then readAt P o a S w K else K (a.put o.dst undef)) : flo4 P ops Q ((i, true, J, C) :: r) G a w :=
  ⟨o, ho, S, hS, hJ, h _ (fun _ h => h)⟩
theorem flo4_end {G : Nat → World → Prop} {a : Act} {w : World} (h : Q .normal a w) : flo4 P ops Q [] G a w := h
/-- What is owed behind an operation that is alone. -/
def floQ4 (Q : Exit → Act → World → Prop) (R : Act → World → Prop) : Exit → Act → World → Prop
  | .normal, a, w => R a w
  | x, a, w => Q x a w
theorem flo4_alone {i : Nat} {J : List Nat} {C : List (List Nat)} {r : List Step4} {G : Nat → World → Prop} {a : Act} {w : World} (o : Oper) (ho : ops[i]? = some o) (h : wpList P ops (floQ4 Q (fun a' w' => G i w' ∧ ∃ G' : Nat → World → Prop, (∀ j W, G' j W → G j W) ∧ flo4 P ops Q r G' a' w')) [o] a w) : flo4 P ops Q ((i, false, J, C) :: r) G a w := by
  show wpOp P ops Q i _ a w
  unfold wpOp
  simp only [ho]
  have h1 : if Region.wanted o (yielded ops a.tmps) = true then Oper.wp P o a w (fun a' w' => floQ4 Q (fun a' w' => G i w' ∧ ∃ G' : Nat → World → Prop, (∀ j W, G' j W → G j W) ∧ flo4 P ops Q r G' a' w') .normal a' w') (floQ4 Q (fun a' w' => G i w' ∧ ∃ G' : Nat → World → Prop, (∀ j W, G' j W → G j W) ∧ flo4 P ops Q r G' a' w')) ∨ (o.asks P a w ∧ LetsOut (floQ4 Q (fun a' w' => G i w' ∧ ∃ G' : Nat → World → Prop, (∀ j W, G' j W → G j W) ∧ flo4 P ops Q r G' a' w'))) else floQ4 Q (fun a' w' => G i w' ∧ ∃ G' : Nat → World → Prop, (∀ j W, G' j W → G j W) ∧ flo4 P ops Q r G' a' w') .normal (a.put o.dst undef) w := h
  split
  · rename_i hw
    simp only [hw, if_true] at h1
    rcases h1 with h1 | h1
    · refine .inl ?_
      unfold Oper.wp at *
      generalize (execOp a.eval o).run P w = x at *
      cases x with
      | ok n w' =>
        cases n <;> simp only [Oper.upon] at h1 ⊢
        case enter f args => exact h1.mono fun e w'' h2 => by cases e <;> exact h2
        all_goals exact h1
      | halt x w' => cases x <;> simp only [Oper.upon] at h1 ⊢ <;> exact h1
    · exact .inr h1
  · rename_i hw
    simp only [hw] at h1
    exact h1
end
end Go.Proofs.Ytohokckpheljbaa.Hw
