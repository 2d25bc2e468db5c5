/- Words of this work: as XHf, but what is owed behind each operation that is alone is that operation's own: a store behind which a read's cell is another one may stand in the region, if it waits for the read. No program in sight. -/
import Derived.Test.YtohokckpheljbaaHf
set_option linter.unusedVariables false
set_option linter.unusedSimpArgs false
namespace Go.Proofs.Ytohokckpheljbaa.Hg
open Go Hf
section
variable {P : Program} {ops : Array Oper} {md : Region.Mode} {Q : Exit → Act → World → Prop}
/-- Behind operation i the world is as it was, or G i holds of it. -/
def anyI (P : Program) (md : Region.Mode) (ops : Array Oper) (Q : Exit → Act → World → Prop) (G : Nat → World → Prop) : Nat → Array Bool → Act → World → Prop
  | 0, listed, a, w => Region.ready md ops listed = [] ∧ Q .normal a w
  | fuel + 1, listed, a, w =>
    (Region.ready md ops listed = [] → Q .normal a w) ∧
    ∀ i ∈ Region.ready md ops listed, wpOp P ops Q i (fun a' w' => (w' = w ∨ G i w') ∧ anyI P md ops Q G fuel (listed.setIfInBounds i true) a' w') a w
theorem any_of_I {G : Nat → World → Prop} : ∀ (fuel : Nat) (listed : Array Bool) (a : Act) (w : World), anyI P md ops Q G fuel listed a w → wpAny P md ops Q fuel listed a w
  | 0, _, _, _, h => h
  | fuel + 1, _, _, _, h => ⟨h.1, fun i hi => wpOp_mono (fun a' w' h' => any_of_I fuel _ a' w' h'.2) (h.2 i hi)⟩
theorem I_grow {G G' : Nat → World → Prop} (hG : ∀ j W, G' j W → G j W) : ∀ (fuel : Nat) (listed : Array Bool) (a : Act) (w : World), anyI P md ops Q G' fuel listed a w → anyI P md ops Q G fuel listed a w
  | 0, _, _, _, h => h
  | fuel + 1, _, _, _, h => ⟨h.1, fun i hi => wpOp_mono (fun a' w' h' => ⟨h'.1.imp id (hG i w'), I_grow hG fuel _ a' w' h'.2⟩) (h.2 i hi)⟩
theorem I_first {G : Nat → World → Prop} {S : World → Prop} {i : Nat} {oi : Oper} {v : Value} (hi : ops[i]? = some oi) (hsel : ∀ (j : Nat) (o : Oper) cs b, ops[j]? = some o → o.op ≠ .select cs b)
    (hQ : ∀ c a w, Q (.panic c) (a.put oi.dst v) w → Q (.panic c) a w) :
    ∀ (fuel : Nat) (listed : Array Bool) (a : Act) (w : World),
      (∀ j oj, ops[j]? = some oj → j ≠ i → listed.getD j true = false → (∀ e ∈ oj.after, Region.binds md e = true → e.on ≠ i) → oi.apart ops oj = true ∧ ∀ W, G j W → S W) →
      i ∈ Region.ready md ops listed → YieldsIf P ops S oi v a → S w →
      anyI P md ops Q G fuel (listed.setIfInBounds i true) (a.put oi.dst v) w → anyI P md ops Q G (fuel + 1) listed a w := by
  intro fuel
  induction fuel with
  | zero =>
    intro listed a w _ hr hy hS H
    refine ⟨fun h => (by rw [h] at hr; cases hr), fun j hj => ?_⟩
    by_cases hji : j = i
    · subst hji; exact hy.wpOp hi hS ⟨.inl rfl, H⟩
    · have := ready_mono hj hji
      rw [H.1] at this
      cases this
  | succ fuel ih =>
    intro listed a w hfree hr hy hS H
    refine ⟨fun h => (by rw [h] at hr; cases hr), fun j hj => ?_⟩
    by_cases hji : j = i
    · subst hji; exact hy.wpOp hi hS ⟨.inl rfl, H⟩
    · have h1 := H.2 j (ready_mono hj hji)
      obtain ⟨hjun, oj, hoj, hall⟩ := mem_ready.1 hj
      have hnot : ∀ e ∈ oj.after, Region.binds md e = true → e.on ≠ i := fun e he hb heq => by
        have h1 := hall e he hb
        have h0 := (mem_ready.1 hr).1
        rw [heq] at h1
        rcases Nat.lt_or_ge i listed.size with h' | h'
        · simp [h'] at h0 h1; rw [h0] at h1; cases h1
        · simp [Array.getElem?_eq_none h'] at h1
      have h2 := wpOp_putIf hoj (hfree j oj hoj hji hjun hnot).1 (fun cs b => hsel i oi cs b hi) (fun cs b => hsel j oj cs b hoj) hQ hy h1
      have hfree' : ∀ k ok, ops[k]? = some ok → k ≠ i → (listed.setIfInBounds j true).getD k true = false →
          (∀ e ∈ ok.after, Region.binds md e = true → e.on ≠ i) → oi.apart ops ok = true ∧ ∀ W, G k W → S W := fun k ok hk hki hun hno => by
        refine hfree k ok hk hki ?_ hno
        by_cases hjk : j = k
        · subst hjk; exact hjun
        · rw [getD_set_ne true hjk] at hun; exact hun
      refine wpOp_mono (fun a' w' h3 => ?_) h2
      have hS' : S w' := by
        rcases h3.2.1 with h4 | h4
        · rw [h4]; exact hS
        · exact (hfree j oj hoj hji hjun hnot).2 w' h4
      refine ⟨h3.2.1, ih (listed.setIfInBounds j true) a' w' hfree' (ready_mono hr (Ne.symm hji)) h3.1 hS' ?_⟩
      rw [Array.setIfInBounds_comm _ _ hji]
      exact h3.2.2
/-- operation j waits for operation i -/
def waits (md : Region.Mode) (ops : Array Oper) (j i : Nat) : Bool := match ops[j]? with | some oj => oj.after.any (fun e => Region.binds md e && e.on == i) | none => true
abbrev Step := Nat × Bool × List Nat
def alone_ (r : List Step) (j : Nat) : Bool := r.any fun x => x.1 == j && !x.2.1
/-- One walk in the order told: (i, true, J): operation i reads, J: those that are alone, and may come up ahead of it; (i, false, _): it is alone. -/
def flo2 (P : Program) (ops : Array Oper) (Q : Exit → Act → World → Prop) : List Step → (Nat → World → Prop) → Act → World → Prop
  | [], _, a, w => Q .normal a w
  | (i, true, J) :: r, G, a, w => ∃ o, ops[i]? = some o ∧ ∃ S : World → Prop, S w ∧ (∀ j ∈ J, ∀ W, G j W → S W) ∧ if Region.wanted o (yielded ops a.tmps) then readAt P o a S w (fun a' => flo2 P ops Q r G a' w) else flo2 P ops Q r G (a.put o.dst undef) w
  | (i, false, _) :: r, G, a, w => wpOp P ops Q i (fun a' w' => G i w' ∧ ∃ G' : Nat → World → Prop, (∀ j W, G' j W → G j W) ∧ flo2 P ops Q r G' a' w') a w
def floB2 (md : Region.Mode) (ops : Array Oper) : List Step → Array Bool → Bool
  | [], listed => (Region.ready md ops listed).isEmpty
  | (i, true, J) :: r, listed => (Region.ready md ops listed).contains i && Region.free md ops listed i && (List.range ops.size).all (fun j => j == i || listed.getD j true || waits md ops j i || !alone_ r j || J.contains j) && floB2 md ops r (listed.setIfInBounds i true)
  | (i, false, _) :: r, listed => decide (Region.ready md ops listed = [i]) && floB2 md ops r (listed.setIfInBounds i true)
def only (r : List Step) (G : Nat → World → Prop) : Nat → World → Prop := fun j W => alone_ r j = true ∧ G j W
theorem only_tail {x : Step} {r : List Step} {G G' : Nat → World → Prop} (h : ∀ j W, G' j W → G j W) : ∀ j W, only r G' j W → only (x :: r) G j W := fun j W ⟨h1, h2⟩ => ⟨by unfold alone_ at *; rw [List.any_cons, h1, Bool.or_true], h j W h2⟩
theorem I_of_flo2 (hsel : Region.noSelect ops = true) (hQ : ∀ c d v a w, Q (.panic c) (a.put d v) w → Q (.panic c) a w) : ∀ (r : List Step) (G : Nat → World → Prop) (listed : Array Bool) (a : Act) (w : World),
    floB2 md ops r listed = true → flo2 P ops Q r G a w → anyI P md ops Q (only r G) r.length listed a w
  | [], G, listed, a, w, hB, h => by
    simp only [floB2, List.isEmpty_iff] at hB
    exact ⟨hB, h⟩
  | (i, true, J) :: r, G, listed, a, w, hB, h => by
    simp only [floB2, Bool.and_eq_true] at hB
    obtain ⟨⟨⟨hr, hf⟩, hJ⟩, hB'⟩ := hB
    obtain ⟨o, ho, S, hS, hGS, h⟩ := h
    have hfr : ∀ j oj, ops[j]? = some oj → j ≠ i → listed.getD j true = false → (∀ e ∈ oj.after, Region.binds md e = true → e.on ≠ i) → o.apart ops oj = true ∧ ∀ W, only ((i, true, J) :: r) G j W → S W := fun j oj hj hji hun hno => by
      refine ⟨Region.free_spec ho hf j oj hj hji hun hno, fun W hW => ?_⟩
      obtain ⟨h1, h2⟩ := hW
      have hlt : j < ops.size := (Array.getElem?_eq_some_iff.1 hj).1
      have h3 := List.all_eq_true.1 hJ j (List.mem_range.2 hlt)
      have h4 : waits md ops j i = false := by
        unfold waits
        rw [hj]
        simp only
        rw [Bool.eq_false_iff]
        intro hc
        obtain ⟨k, hk, he⟩ := Array.any_eq_true.1 hc
        simp only [Bool.and_eq_true, beq_iff_eq] at he
        exact hno _ (Array.getElem_mem hk) he.1 he.2
      have h5 : alone_ r j = true := by
        unfold alone_ at h1 ⊢
        rw [List.any_cons] at h1
        simpa using h1
      have h6 : (j == i) = false := by simpa using hji
      rw [h4, h5, h6, hun] at h3
      simp only [Bool.or_false, Bool.not_true, Bool.false_or] at h3
      exact hGS j (by simpa using h3) W h2
    have hr' : i ∈ Region.ready md ops listed := by simpa using hr
    split at h
    · rename_i hw
      unfold readAt at h
      cases hrun : (execOp a.eval o).run P w with
      | ok n w' =>
        rw [hrun] at h
        cases n <;> simp only [readUpon] at h
        exact I_first ho (Region.noSelect_spec hsel) (fun c a w => hQ c _ _ a w) r.length listed a w hfr hr' (.inl ⟨hw, h.1⟩) hS (I_grow (only_tail (fun _ _ h => h)) _ _ _ _ (I_of_flo2 hsel hQ r G _ _ w hB' h.2))
      | halt x w' =>
        rw [hrun] at h
        simp only [readUpon] at h
    · rename_i hw
      exact I_first ho (Region.noSelect_spec hsel) (fun c a w => hQ c _ _ a w) r.length listed a w hfr hr' (.inr ⟨by simpa using hw, rfl⟩) hS (I_grow (only_tail (fun _ _ h => h)) _ _ _ _ (I_of_flo2 hsel hQ r G _ _ w hB' h))
  | (i, false, J) :: r, G, listed, a, w, hB, h => by
    simp only [floB2, Bool.and_eq_true, decide_eq_true_eq] at hB
    obtain ⟨hr, hB'⟩ := hB
    refine ⟨fun h0 => (by rw [hr] at h0; cases h0), fun j hj => ?_⟩
    rw [hr] at hj
    have : j = i := by simpa using hj
    subst this
    refine wpOp_mono (fun a' w' h' => ?_) h
    obtain ⟨h1, G', hG', hf⟩ := h'
    exact ⟨.inr ⟨by unfold alone_; simp, h1⟩, I_grow (only_tail hG') _ _ _ _ (I_of_flo2 hsel hQ r G' _ a' w' hB' hf)⟩
/-- The beginning. -/
theorem wp_region_flo2 {id : Nat} {a : Act} {w : World} {l : List Oper} (r : List Step) (G : Nat → World → Prop) (hm : P.follows .mixedOrders = true) (hn : r.length = l.length) (hB : (Region.noSelect l.toArray && floB2 .any l.toArray r (Array.replicate l.toArray.size false)) = true)
    (hQ : ∀ c d v a w, Q (.panic c) (a.put d v) w → Q (.panic c) a w) (h : flo2 P l.toArray Q r G a w.drew) : (Code.region id l.toArray true).wp P Q a w := by
  simp only [Bool.and_eq_true] at hB
  have := any_of_I _ _ _ _ (I_of_flo2 (md := .any) hB.1 hQ r G _ a w.drew hB.2 h)
  refine wp_region_any hm ?_
  have e : l.toArray.size = r.length := by simp [hn]
  rw [e] at this ⊢
  exact this
theorem flo2_read {i : Nat} {J : List Nat} {r : List Step} {G : Nat → World → Prop} {a : Act} {w : World} (o : Oper) (ho : ops[i]? = some o) (S : World → Prop) (hS : S w) (hJ : ∀ j ∈ J, ∀ W, G j W → S W)
    (h : ∀ K : Act → Prop, (∀ a, flo2 P ops Q r G a w → K a) → if Region.wanted o (yielded ops a.tmps) then readAt P o a S w K else K (a.put o.dst undef)) : flo2 P ops Q ((i, true, J) :: r) G a w :=
  ⟨o, ho, S, hS, hJ, h _ (fun _ h => h)⟩
theorem flo2_end {G : Nat → World → Prop} {a : Act} {w : World} (h : Q .normal a w) : flo2 P ops Q [] G a w := h
/-- What is owed behind an operation that is alone. -/
def floQ2 (P : Program) (ops : Array Oper) (Q : Exit → Act → World → Prop) (i : Nat) (r : List Step) (G : Nat → World → Prop) : Exit → Act → World → Prop
  | .normal, a, w => G i w ∧ ∃ G' : Nat → World → Prop, (∀ j W, G' j W → G j W) ∧ flo2 P ops Q r G' a w
  | x, a, w => Q x a w
theorem flo2_alone {i : Nat} {J : List Nat} {r : List Step} {G : Nat → World → Prop} {a : Act} {w : World} (o : Oper) (ho : ops[i]? = some o) (h : wpList P ops (floQ2 P ops Q i r G) [o] a w) : flo2 P ops Q ((i, false, J) :: r) G a w := by
  show wpOp P ops Q i _ a w
  unfold wpOp
  simp only [ho]
  have h1 : if Region.wanted o (yielded ops a.tmps) = true then Oper.wp P o a w (fun a' w' => floQ2 P ops Q i r G .normal a' w') (floQ2 P ops Q i r G) ∨ (o.asks P a w ∧ LetsOut (floQ2 P ops Q i r G)) else floQ2 P ops Q i r G .normal (a.put o.dst undef) w := h
  split
  · rename_i hw
    simp only [hw, if_true] at h1
    rcases h1 with h1 | h1
    · refine .inl ?_
      unfold Oper.wp at *
      generalize (execOp a.eval o).run P w = x at *
      cases x with
      | ok n w' =>
        cases n <;> simp only [Oper.upon] at h1 ⊢
        case enter f args => exact h1.mono fun e w'' h2 => by cases e <;> exact h2
        all_goals exact h1
      | halt x w' => cases x <;> simp only [Oper.upon] at h1 ⊢ <;> exact h1
    · exact .inr h1
  · rename_i hw
    simp only [hw] at h1
    exact h1
end
end Go.Proofs.Ytohokckpheljbaa.Hg
