/- ring.Nth, the document's Nth, and that they are one. -/
import Derived.Test.YtmaielpfeajelaaRe
import Derived.WalkSpells
import Derived.BigQuiet
import Derived.Deep.QuietTactic
set_option linter.unusedVariables false
set_option linter.unusedSimpArgs false
set_option maxRecDepth 100000
namespace Go.Proofs.Ytmaielpfeajelaa.Rf
open Go.RowKit Go.Shelf Hm Hs Hx Hy Ss Re
def more (l : List Int) (y : Int) : Nat := (l.filter fun x => decide (x > y)).length
def same (l : List Int) (y : Int) : Nat := (l.filter fun x => decide (x = y)).length
def least (l : List Int) (y : Int) : Nat := (l.filter fun x => decide (x ≥ y)).length
theorem least_eq (l : List Int) (y : Int) : least l y = more l y + same l y := by
  unfold least more same
  induction l with
  | nil => rfl
  | cons x l ih =>
    simp only [List.filter_cons]
    rcases Int.lt_trichotomy x y with h | h | h
    · have h1 : ¬ x ≥ y := by omega
      have h2 : ¬ x > y := by omega
      have h3 : ¬ x = y := by omega
      simp [h1, h2, h3, ih]
    · have h1 : x ≥ y := by omega
      have h2 : ¬ x > y := by omega
      simp [h1, h2, h, ih]; omega
    · have h1 : x ≥ y := by omega
      have h3 : ¬ x = y := by omega
      simp [h1, h, h3, ih]; omega
theorem more_le (l : List Int) (y : Int) : more l y ≤ l.length := List.length_filter_le _ _
theorem least_le (l : List Int) (y : Int) : least l y ≤ l.length := List.length_filter_le _ _
theorem more_srt (l : List Int) (y : Int) : more (srt l) y = more l y := ((srt_perm l).filter _).length_eq
theorem least_srt (l : List Int) (y : Int) : least (srt l) y = least l y := ((srt_perm l).filter _).length_eq
theorem at_more {S : List Int} (hs : S.Pairwise (· ≤ ·)) {k : Nat} {x : Int} (hx : S[k]? = some x) : more S x + (k + 1) ≤ S.length ∧ S.length ≤ least S x + k := by
  obtain ⟨hk, hxk⟩ := List.getElem?_eq_some_iff.1 hx
  constructor
  · unfold more
    have h0 : (S.take (k + 1)).filter (fun y => decide (y > x)) = [] := List.filter_eq_nil_iff.2 (fun y hy => by
      obtain ⟨i, hi⟩ := List.getElem?_of_mem hy
      rw [List.getElem?_take] at hi
      split at hi
      · rename_i hik
        obtain ⟨h1, rfl⟩ := List.getElem?_eq_some_iff.1 hi
        have : S[i] ≤ x := by
          by_cases e : i = k
          · subst e; rw [hxk]; exact Int.le_refl _
          · rw [← hxk]; exact List.pairwise_iff_getElem.1 hs i k h1 hk (by omega)
        simp; omega
      · cases hi)
    have h2 : (S.filter (fun y => decide (y > x))).length = ((S.drop (k + 1)).filter (fun y => decide (y > x))).length := by
      conv => lhs; rw [← List.take_append_drop (k + 1) S]
      rw [List.filter_append, h0]; rfl
    have h3 := List.length_filter_le (fun y => decide (y > x)) (S.drop (k + 1))
    rw [List.length_drop] at h3
    omega
  · unfold least
    have h0 : (S.drop k).filter (fun y => decide (y ≥ x)) = S.drop k := List.filter_eq_self.2 (fun y hy => by
      obtain ⟨i, hi⟩ := List.getElem?_of_mem hy
      rw [List.getElem?_drop] at hi
      obtain ⟨h1, rfl⟩ := List.getElem?_eq_some_iff.1 hi
      have : x ≤ S[k + i] := by
        rw [← hxk]
        by_cases e : i = 0
        · subst e; exact Int.le_refl _
        · exact List.pairwise_iff_getElem.1 hs k (k + i) hk h1 (by omega)
      simpa using this)
    have h2 : ((S.drop k).filter (fun y => decide (y ≥ x))).length ≤ (S.filter (fun y => decide (y ≥ x))).length := by
      conv => rhs; rw [← List.take_append_drop k S]
      rw [List.filter_append, List.length_append]; omega
    rw [h0, List.length_drop] at h2
    omega
theorem more_anti {l : List Int} {x y : Int} (h : x < y) : least l y ≤ more l x := by
  unfold least more
  rw [← List.countP_eq_length_filter, ← List.countP_eq_length_filter]
  exact List.countP_mono_left (fun z _ hz => by simp at *; omega)
/-- the m-th greatest -/
def nthV (l : List Int) (m : Nat) : Int := (srt l).getD (l.length - m) 0
theorem nth_ok {l : List Int} {m : Nat} (h1 : 1 ≤ m) (h2 : m ≤ l.length) : nthV l m ∈ l ∧ more l (nthV l m) < m ∧ m ≤ least l (nthV l m) := by
  have hl := srt_len l
  obtain ⟨x, hx⟩ : ∃ x, (srt l)[l.length - m]? = some x := ⟨_, List.getElem?_eq_getElem (by omega)⟩
  have e : nthV l m = x := by unfold nthV; rw [List.getD_eq_getElem?_getD, hx]; rfl
  obtain ⟨a, b⟩ := at_more (srt_sorted l) hx
  rw [more_srt] at a
  rw [least_srt] at b
  rw [e]
  exact ⟨(srt_perm l).mem_iff.1 (List.mem_of_getElem? hx), by omega, by omega⟩
theorem nth_only {l : List Int} {m : Nat} (h1 : 1 ≤ m) (h2 : m ≤ l.length) {y : Int} (a : more l y < m) (b : m ≤ least l y) : y = nthV l m := by
  obtain ⟨_, c, d⟩ := nth_ok h1 h2
  rcases Int.lt_trichotomy y (nthV l m) with h | h | h
  · have := more_anti (l := l) h; omega
  · exact h
  · have := more_anti (l := l) h; omega
def hitN (l : List Int) (m : Nat) (y : Int) : Bool := decide (more l y < m) && decide (more l y + same l y ≥ m)
def rn (l : List Int) (m : Nat) : List Int → Int × Bool
  | [] => (0, false)
  | x :: r => if hitN l m x then (x, true) else rn l m r
theorem rn_is {l : List Int} {m : Nat} (h1 : 1 ≤ m) (h2 : m ≤ l.length) : ∀ {R : List Int}, (∃ y ∈ R, hitN l m y = true) → rn l m R = (nthV l m, true)
  | [], ⟨_, h, _⟩ => by simp at h
  | x :: r, ⟨y, hy, hh⟩ => by
    unfold rn
    cases hx : hitN l m x with
    | true =>
      rw [if_pos rfl]
      unfold hitN at hx
      simp only [Bool.and_eq_true, decide_eq_true_eq] at hx
      rw [nth_only h1 h2 hx.1 (by rw [least_eq]; exact hx.2)]
    | false =>
      rw [if_neg (by simp)]
      rcases List.mem_cons.1 hy with rfl | hy
      · rw [hh] at hx; cases hx
      · exact rn_is h1 h2 ⟨y, hy, hh⟩
theorem rn_all {l : List Int} {m : Nat} (h1 : 1 ≤ m) (h2 : m ≤ l.length) : rn l m l = (nthV l m, true) := by
  obtain ⟨a, b, c⟩ := nth_ok h1 h2
  refine rn_is h1 h2 ⟨_, a, ?_⟩
  unfold hitN
  rw [least_eq] at c
  simp only [Bool.and_eq_true, decide_eq_true_eq]
  exact ⟨b, c⟩
set_option maxHeartbeats 1000000 in
theorem nth_yes (w : World) (v : Value) (l : List Int) (m : Nat) (h : RdS 1 w v (ins l)) (hn : l.length ≤ 100000) (h1 : 1 ≤ m) (h2 : m ≤ l.length) : Calls Try.prog 59 #[v, .int .i64 m] w fun e w' => e = .returned (.tuple #[.int .i64 (nthV l m), .bool true]) ∧ Turns [] w w' := by
  obtain ⟨A, c, rfl, _⟩ := h.form
  rw [ins_len] at h ⊢
  have T0 := (Turns.refl [] w).alloc (.cells #[.slice A l.length c] 33)
  have b0 := Blk.new w #[.slice A l.length c] 33
  have Sh := Lib.hid (sorted_is w.heap.size A c l (by omega) _ (b0.cell 0) (h.mv (fun a u => T0.old)))
  obtain ⟨k, hk⟩ : ∃ k, l.length - m = k := ⟨_, rfl⟩
  have hw : IntKind.i64.wrap ((l.length : Int) - (m : Int)) = (k : Int) := by rw [IntWalk.i64_in _ (by omega)]; omega
  have g1 : decide ((m : Int) < 1) = false := decide_eq_false (by omega)
  have g2 : decide ((m : Int) > (l.length : Int)) = false := decide_eq_false (by omega)
  have g5 : decide (l.length < m) = false := decide_eq_false (by omega)
  have g6 : ¬ l.length < m := by omega
  have hl := srt_len l
  obtain ⟨x, hx⟩ : ∃ x, (srt l)[k]? = some x := ⟨_, List.getElem?_eq_getElem (by omega)⟩
  have e : nthV l m = x := by unfold nthV; rw [List.getD_eq_getElem?_getD, hk, hx]; rfl
  rw [e]
  have hxh := Lib.hid hx
  have hkl : (k : Int) < (l.length : Int) := by omega
  clear h hk hx e b0
  go_enter Try.func59, Try.ntmps59
  go_wp2_with fail
  go_at_call 71
  refine Calls.mono (values_is A l.length c _) ?_
  rintro e w1 ⟨rfl, rfl⟩
  go_wp2_with fail
  go_at_call 70
  refine Calls.mono (Sh.out) ?_
  rintro e w2 ⟨v, rfl, o, t2⟩
  obtain ⟨ad, c2, rfl, hc⟩ := icell o.reads hxh.out
  rw [hl]
  clear o hxh Sh
  go_wp2_with fail
  go_ret2
  exact ⟨rfl, T0.trans t2⟩
theorem nth_no (w : World) (A : Option Addr) (N c : Nat) (m : Int) (h : m < 1 ∨ m > N) : Calls Try.prog 59 #[.slice A N c, .int .i64 m] w fun e w' => e = .returned (.tuple #[.int .i64 0, .bool false]) ∧ Turns [] w w' := by
  by_cases h1 : m < 1
  · have g1 := decide_eq_true h1
    clear h h1
    go_enter Try.func59, Try.ntmps59
    go_wp2_with fail
    go_ret2
    exact ⟨rfl, Turns.refl _ _⟩
  · have g1 : decide (m < 1) = false := decide_eq_false h1
    have g2 : decide (m > (N : Int)) = true := decide_eq_true (by omega)
    clear h h1
    go_enter Try.func59, Try.ntmps59
    go_wp2_with fail
    go_ret2
    exact ⟨rfl, Turns.refl _ _⟩
end Go.Proofs.Ytmaielpfeajelaa.Rf
