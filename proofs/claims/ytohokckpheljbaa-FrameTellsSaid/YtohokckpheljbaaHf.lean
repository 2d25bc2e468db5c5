/- Words of this work: a region of open order with several great operations (calls), each alone when it comes up, and reading operations that may come up earlier or later: one walk, in an order that is told. No program in sight. -/
import Derived.OrdersHeld
import Derived.Tactics
import Derived.KernelRfl
set_option linter.unusedVariables false
set_option linter.unusedSimpArgs false
namespace Go.Proofs.Ytohokckpheljbaa.Hf
open Go
section
variable {P : Program} {ops : Array Oper} {md : Region.Mode} {Q : Exit → Act → World → Prop}
theorem held_grow {S S' : World → Prop} (hS : ∀ W, S' W → S W) : ∀ (fuel : Nat) (listed : Array Bool) (a : Act) (w : World), wpAnyH P md ops Q S' fuel listed a w → wpAnyH P md ops Q S fuel listed a w
  | 0, _, _, _, h => h
  | fuel + 1, _, _, _, h => ⟨h.1, fun i hi => wpOp_mono (fun a' w' h' => ⟨hS _ h'.1, held_grow hS fuel _ a' w' h'.2⟩) (h.2 i hi)⟩
/-- The result of a reading operation, the same in every world that meets S. -/
def readUpon (P : Program) (o : Oper) (a : Act) (S : World → Prop) (next : Act → Prop) : Result Next → Prop
  | .ok (.value v) _ => (∀ W, S W → (execOp a.eval o).run P W = .ok (.value v) W) ∧ next (a.put o.dst v)
  | _ => False
def readAt (P : Program) (o : Oper) (a : Act) (S : World → Prop) (w : World) (next : Act → Prop) : Prop := readUpon P o a S next ((execOp a.eval o).run P w)
/-- One walk in the order told: (i, true): operation i reads; (i, false): it is alone. -/
def flo (P : Program) (ops : Array Oper) (Q : Exit → Act → World → Prop) : List (Nat × Bool) → (World → Prop) → Act → World → Prop
  | [], _, a, w => Q .normal a w
  | (i, true) :: r, S, a, w => ∃ o, ops[i]? = some o ∧ if Region.wanted o (yielded ops a.tmps) then readAt P o a S w (fun a' => flo P ops Q r S a' w) else flo P ops Q r S (a.put o.dst undef) w
  | (i, false) :: r, S, a, w => wpOp P ops Q i (fun a' w' => ∃ S' : World → Prop, (∀ W, S' W → S W) ∧ S' w' ∧ flo P ops Q r S' a' w') a w
def floB (md : Region.Mode) (ops : Array Oper) : List (Nat × Bool) → Array Bool → Bool
  | [], listed => (Region.ready md ops listed).isEmpty
  | (i, true) :: r, listed => (Region.ready md ops listed).contains i && Region.free md ops listed i && floB md ops r (listed.setIfInBounds i true)
  | (i, false) :: r, listed => decide (Region.ready md ops listed = [i]) && floB md ops r (listed.setIfInBounds i true)
theorem held_of_flo (hsel : Region.noSelect ops = true) (hQ : ∀ c d v a w, Q (.panic c) (a.put d v) w → Q (.panic c) a w) : ∀ (r : List (Nat × Bool)) (S : World → Prop) (listed : Array Bool) (a : Act) (w : World),
    floB md ops r listed = true → S w → flo P ops Q r S a w → wpAnyH P md ops Q S r.length listed a w
  | [], S, listed, a, w, hB, hS, h => by
    simp only [floB, List.isEmpty_iff] at hB
    exact ⟨hB, h⟩
  | (i, true) :: r, S, listed, a, w, hB, hS, h => by
    simp only [floB, Bool.and_eq_true] at hB
    obtain ⟨⟨hr, hf⟩, hB'⟩ := hB
    obtain ⟨o, ho, h⟩ := h
    split at h
    · rename_i hw
      unfold readAt at h
      cases hrun : (execOp a.eval o).run P w with
      | ok n w' =>
        rw [hrun] at h
        cases n <;> simp only [readUpon] at h
        exact wpAnyH_take ho hsel hf hr (fun c a w => hQ c _ _ a w) (.inl ⟨hw, h.1⟩) hS (held_of_flo hsel hQ r S _ _ w hB' hS h.2)
      | halt x w' =>
        rw [hrun] at h
        simp only [readUpon] at h
    · rename_i hw
      exact wpAnyH_take ho hsel hf hr (fun c a w => hQ c _ _ a w) (.inr ⟨by simpa using hw, rfl⟩) hS (held_of_flo hsel hQ r S _ _ w hB' hS h)
  | (i, false) :: r, S, listed, a, w, hB, hS, h => by
    simp only [floB, Bool.and_eq_true, decide_eq_true_eq] at hB
    obtain ⟨hr, hB'⟩ := hB
    refine wpAnyH_all hr (by simp) (fun j hj => ?_)
    have : j = i := by simpa using hj
    subst this
    refine wpOp_mono (fun a' w' h' => ?_) h
    obtain ⟨S', hS', hw', hf⟩ := h'
    exact ⟨hS' _ hw', held_grow hS' _ _ _ _ (held_of_flo hsel hQ r S' _ a' w' hB' hw' hf)⟩
theorem floB_len {md : Region.Mode} {ops : Array Oper} : ∀ (r : List (Nat × Bool)) (listed : Array Bool), floB md ops r listed = true → (Region.ready md ops (r.foldl (fun l x => l.setIfInBounds x.1 true) listed)) = []
  | [], _, h => by simpa [floB] using h
  | (i, true) :: r, listed, h => by
    simp only [floB, Bool.and_eq_true] at h
    exact floB_len r _ h.2
  | (i, false) :: r, listed, h => by
    simp only [floB, Bool.and_eq_true] at h
    exact floB_len r _ h.2
/-- The beginning. -/
theorem wp_region_flo {id : Nat} {a : Act} {w : World} {l : List Oper} (r : List (Nat × Bool)) (S : World → Prop) (hm : P.follows .mixedOrders = true) (hn : r.length = l.length) (hB : (Region.noSelect l.toArray && floB .any l.toArray r (Array.replicate l.toArray.size false)) = true)
    (hQ : ∀ c d v a w, Q (.panic c) (a.put d v) w → Q (.panic c) a w) (hS : S w.drew) (h : flo P l.toArray Q r S a w.drew) : (Code.region id l.toArray true).wp P Q a w := by
  simp only [Bool.and_eq_true] at hB
  have := held_of_flo (md := .any) hB.1 hQ r S _ a w.drew hB.2 hS h
  refine wp_region_held (S := S) hm ?_
  have e : l.toArray.size = r.length := by simp [hn]
  rw [e] at this ⊢
  exact this
theorem flo_read {i : Nat} {r : List (Nat × Bool)} {S : World → Prop} {a : Act} {w : World} (o : Oper) (ho : ops[i]? = some o)
    (h : ∀ K : Act → Prop, (∀ a, flo P ops Q r S a w → K a) → if Region.wanted o (yielded ops a.tmps) then readAt P o a S w K else K (a.put o.dst undef)) : flo P ops Q ((i, true) :: r) S a w :=
  ⟨o, ho, h _ (fun _ h => h)⟩
theorem flo_end {S : World → Prop} {a : Act} {w : World} (h : Q .normal a w) : flo P ops Q [] S a w := h
/-- What is owed behind an operation that is alone. -/
def floQ (P : Program) (ops : Array Oper) (Q : Exit → Act → World → Prop) (r : List (Nat × Bool)) (S : World → Prop) : Exit → Act → World → Prop
  | .normal, a, w => ∃ S' : World → Prop, (∀ W, S' W → S W) ∧ S' w ∧ flo P ops Q r S' a w
  | x, a, w => Q x a w
theorem flo_alone {i : Nat} {r : List (Nat × Bool)} {S : World → Prop} {a : Act} {w : World} (o : Oper) (ho : ops[i]? = some o) (h : wpList P ops (floQ P ops Q r S) [o] a w) : flo P ops Q ((i, false) :: r) S a w := by
  show wpOp P ops Q i _ a w
  unfold wpOp
  simp only [ho]
  have h1 : if Region.wanted o (yielded ops a.tmps) = true then Oper.wp P o a w (fun a' w' => floQ P ops Q r S .normal a' w') (floQ P ops Q r S) ∨ (o.asks P a w ∧ LetsOut (floQ P ops Q r S)) else floQ P ops Q r S .normal (a.put o.dst undef) w := h
  split
  · rename_i hw
    simp only [hw, if_true] at h1
    rcases h1 with h1 | h1
    · refine .inl ?_
      unfold Oper.wp at *
      generalize (execOp a.eval o).run P w = x at *
      cases x with
      | ok n w' =>
        cases n <;> simp only [Oper.upon] at h1 ⊢
        case enter f args => exact h1.mono fun e w'' h2 => by cases e <;> exact h2
        all_goals exact h1
      | halt x w' => cases x <;> simp only [Oper.upon] at h1 ⊢ <;> exact h1
    · exact .inr h1
  · rename_i hw
    simp only [hw] at h1
    exact h1
attribute [go_sem] readAt readUpon
end
end Go.Proofs.Ytohokckpheljbaa.Hf
