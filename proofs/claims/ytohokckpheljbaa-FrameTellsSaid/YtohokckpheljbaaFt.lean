/- slices of int: IndexFunc, ContainsFunc with a predicate that turns nothing; Clone. -/
import Derived.Test.YtohokckpheljbaaFa
import Derived.Test.YtohokckpheljbaaHg
import Derived.Shelf.Abstract
set_option linter.unusedVariables false
set_option linter.unusedSimpArgs false
set_option maxRecDepth 100000
namespace Go.Proofs.Ytohokckpheljbaa.Ft
open Go.RowKit Go.MapKept Go.Shelf Hm Hs Hg Hv Hx Hy
/-- where the first one is that p holds of -/
def ixFrom (p : Int → Bool) : List Int → Nat → Int
  | [], _ => -1
  | x :: r, j => if p x then (j : Int) else ixFrom p r (j + 1)
theorem ixFrom_is (p : Int → Bool) : ∀ (R : List Int) (j : Nat), (ixFrom p R j = -1 ∧ ∀ x ∈ R, p x = false) ∨ ∃ (i : Nat) (x : Int), R[i]? = some x ∧ p x = true ∧ (∀ k, k < i → ∀ y, R[k]? = some y → p y = false) ∧ ixFrom p R j = ((j + i : Nat) : Int)
  | [], j => .inl ⟨rfl, by simp⟩
  | x :: r, j => by
    unfold ixFrom
    cases h : p x with
    | true => exact .inr ⟨0, x, rfl, h, fun k hk => by omega, by simp⟩
    | false =>
      rcases ixFrom_is p r (j + 1) with ⟨h1, h2⟩ | ⟨i, y, h1, h2, h3, h4⟩
      · refine .inl ⟨by simpa using h1, fun y hy => ?_⟩
        rcases List.mem_cons.1 hy with rfl | hy
        · exact h
        · exact h2 y hy
      · refine .inr ⟨i + 1, y, by simpa using h1, h2, fun k hk z hz => ?_, ?_⟩
        · cases k with
          | zero => simp at hz; subst hz; exact h
          | succ k => exact h3 k (by omega) z (by simpa using hz)
        · simp only [Bool.false_eq_true, if_false]
          rw [h4]
          congr 1
          omega
theorem drop_cons {R : List Int} {j : Nat} {x : Int} (h : R[j]? = some x) : R.drop j = x :: R.drop (j + 1) := by
  obtain ⟨h1, rfl⟩ := List.getElem?_eq_some_iff.1 h
  exact List.drop_eq_getElem_cons h1
/-- the list, while it is gone through: q are kept ahead, j have been seen -/
structure Mid (p : Int → Bool) (l C : List Int) (q j : Nat) : Prop where
  len : C.length = l.length
  kept : C.take q = (l.take j).filter (fun x => !p x)
  rest : C.drop j = l.drop j
  le : q < j
  ln : q = ((l.take j).filter (fun x => !p x)).length
theorem Mid.at_ {p : Int → Bool} {l C : List Int} {q j : Nat} (h : Mid p l C q j) {x : Int} (hx : l[j]? = some x) : C[j]? = some x := by
  have := congrArg (fun l => l[0]?) h.rest
  simpa [List.getElem?_drop, hx] using this
theorem take_next {l : List Int} {j : Nat} {x : Int} (hx : l[j]? = some x) : l.take (j + 1) = l.take j ++ [x] := by rw [List.take_add_one, hx]; rfl
theorem Mid.skip {p : Int → Bool} {l C : List Int} {q j : Nat} (h : Mid p l C q j) {x : Int} (hx : l[j]? = some x) (hp : p x = true) : Mid p l C q (j + 1) := by
  have e : (l.take (j + 1)).filter (fun x => !p x) = (l.take j).filter (fun x => !p x) := by rw [take_next hx, List.filter_append]; simp [hp]
  refine ⟨h.len, by rw [e]; exact h.kept, ?_, by have := h.le; omega, by rw [e]; exact h.ln⟩
  have := congrArg (List.drop 1) h.rest
  simpa [List.drop_drop] using this
theorem Mid.keep {p : Int → Bool} {l C : List Int} {q j : Nat} (h : Mid p l C q j) {x : Int} (hx : l[j]? = some x) (hp : p x = false) : Mid p l (C.set q x) (q + 1) (j + 1) := by
  have hj := (List.getElem?_eq_some_iff.1 hx).1
  have hle := h.le
  have hlen := h.len
  have e : (l.take (j + 1)).filter (fun x => !p x) = (l.take j).filter (fun x => !p x) ++ [x] := by rw [take_next hx, List.filter_append]; simp [hp]
  refine ⟨by rw [List.length_set]; exact h.len, ?_, ?_, by omega, ?_⟩
  · rw [e, ← h.kept, List.take_add_one, List.getElem?_set_self (by omega), List.take_set_of_le (Nat.le_refl _)]
    rfl
  · rw [List.drop_set_of_lt (by omega)]
    have := congrArg (List.drop 1) h.rest
    simpa [List.drop_drop] using this
  · rw [e, List.length_append, ← h.ln]
    rfl
theorem Mid.done {p : Int → Bool} {l C : List Int} {q : Nat} (h : Mid p l C q l.length) : C.take q = l.filter (fun x => !p x) ∧ q = (l.filter (fun x => !p x)).length := by
  have h1 := h.kept
  have h2 := h.ln
  rw [List.take_length] at h1 h2
  exact ⟨h1, h2⟩
theorem Mid.start {p : Int → Bool} {l : List Int} {i : Nat} {x : Int} (hx : l[i]? = some x) (hp : p x = true) (hb : ∀ k, k < i → ∀ y, l[k]? = some y → p y = false) : Mid p l l i (i + 1) := by
  have hi := (List.getElem?_eq_some_iff.1 hx).1
  have e0 : (l.take i).filter (fun x => !p x) = l.take i := List.filter_eq_self.2 (fun y hy => by
    obtain ⟨k, hk⟩ := List.getElem?_of_mem hy
    rw [List.getElem?_take] at hk
    split at hk
    · rename_i hki
      rw [hb k hki y hk]; rfl
    · cases hk)
  have e : (l.take (i + 1)).filter (fun x => !p x) = l.take i := by rw [take_next hx, List.filter_append, e0]; simp [hp]
  exact ⟨rfl, by rw [e], rfl, by omega, by rw [e, List.length_take]; omega⟩
theorem icell {w : World} {v : Value} {l : List Int} {j : Nat} {x : Int} (h : RdS 1 w v (ins l)) (hj : l[j]? = some x) : ∃ ad c, v = .slice (some ad) l.length c ∧ w.cell? (ad.add j) = some (.int .i64 x) := by
  obtain ⟨ad, c, hv, _, hc⟩ := h.at_ (j := j) (r := [.int .i64 x]) (by unfold ins; rw [List.getElem?_map, hj]; rfl)
  rw [ins_len] at hv
  have := hc 0 _ rfl
  rw [Nat.mul_one, Nat.add_zero] at this
  exact ⟨ad, c, hv, this⟩
set_option maxHeartbeats 1000000 in
/-- slices.IndexFunc -/
theorem index_is (w : World) (v : Value) (l : List Int) (p : Int → Bool) (g : Nat) (eg : ∀ args w, (callFunc g args).run Try.prog w = .ok (.enter g args) w) (h : RdS 1 w v (ins l)) (hn : l.length ≤ 100000)
    (hp : Hid (∀ W (x : Int), Calls Try.prog g #[.int .i64 x] W fun e w' => e = .returned (.bool (p x)) ∧ Turns [] W w')) :
    Calls Try.prog 86 #[v, .func (.func g) #[] #[]] w fun e w' => e = .returned (.int .i64 (ixFrom p l 0)) ∧ Turns [] w w' := by
  have hh := Lib.hid h
  obtain ⟨A, c, rfl, _⟩ := h.form
  rw [ins_len]
  obtain ⟨r, hr⟩ : ∃ r, ixFrom p l 0 = r := ⟨_, rfl⟩
  rw [hr]
  have hrh := Lib.hid hr
  clear h hr
  go_enter Try.func86, Try.ntmps86
  go_wp2_with fail
  go_loopw [5, 8] (fun _ v8 wr => ∃ (j : Nat), j ≤ l.length ∧ v8 = .int .i64 j ∧ ixFrom p (l.drop j) j = r ∧ Turns [] w wr) (fun _ v8 _ => l.length - (RowKit.intOf v8).toNat)
  case atStart => exact ⟨0, by omega, rfl, hrh.out, Turns.refl _ _⟩
  case round =>
    obtain ⟨j, hj, rfl, hpj, T⟩ := hrel
    by_cases hlt : j < l.length
    · have g1 : decide ((j : Int) < (l.length : Int)) = true := by simp; omega
      obtain ⟨x, hx⟩ : ∃ x, l[j]? = some x := ⟨_, List.getElem?_eq_getElem hlt⟩
      obtain ⟨ad, c', hv, L⟩ := icell hh.out hx
      injection hv with e1 e2 e3
      subst e1 e3
      have i0 := T.old L
      rw [drop_cons hx] at hpj
      unfold ixFrom at hpj
      have hch := Lib.hid (hp.out wr x)
      clear hx e2 L
      cases hq : p x with
      | true =>
        rw [hq] at hpj hch
        simp only [if_true] at hpj
        subst hpj
        go_wp2_with (first | (go_at_fn g; refine Calls.mono hch.out ?_; rintro e w2 ⟨rfl, t2⟩) | go_in)
        go_ret
        exact ⟨rfl, T.trans t2⟩
      | false =>
        rw [hq] at hpj hch
        simp only [Bool.false_eq_true, if_false] at hpj
        have hpjh := Lib.hid hpj
        clear hpj
        go_wp2_with (first | (go_at_fn g; refine Calls.mono hch.out ?_; rintro e w2 ⟨rfl, t2⟩) | go_in)
        go_roundw
        case rel => exact ⟨j + 1, by omega, by go_num, hpjh.out, T.trans t2⟩
        case measure => simp [RowKit.intOf]; omega
    · obtain rfl : j = l.length := by omega
      have g1 : decide ((l.length : Int) < (l.length : Int)) = false := by simp
      rw [List.drop_length] at hpj
      unfold ixFrom at hpj
      subst hpj
      go_wp2_with fail
      go_ret
      exact ⟨rfl, T⟩
theorem ix_any (p : Int → Bool) (l : List Int) : decide (ixFrom p l 0 ≥ 0) = l.any p := by
  rcases ixFrom_is p l 0 with ⟨h1, h2⟩ | ⟨i, x, h1, h2, h3, h4⟩
  · rw [h1, show l.any p = false from List.any_eq_false.2 (fun x hx => by rw [h2 x hx]; simp)]; rfl
  · rw [h4, show l.any p = true from List.any_eq_true.2 ⟨x, List.mem_of_getElem? h1, h2⟩]; simp
theorem contains_is (w : World) (v : Value) (l : List Int) (p : Int → Bool) (g : Nat) (eg : ∀ args w, (callFunc g args).run Try.prog w = .ok (.enter g args) w) (h : RdS 1 w v (ins l)) (hn : l.length ≤ 100000)
    (hp : Hid (∀ W (x : Int), Calls Try.prog g #[.int .i64 x] W fun e w' => e = .returned (.bool (p x)) ∧ Turns [] W w')) :
    Calls Try.prog 62 #[v, .func (.func g) #[] #[]] w fun e w' => e = .returned (.bool (l.any p)) ∧ Turns [] w w' := by
  have hI := Lib.hid (index_is w v l p g eg h hn hp)
  rw [← ix_any]
  generalize ixFrom p l 0 = r at *
  clear hp h
  go_enter Try.func62, Try.ntmps62
  go_wp2_with fail
  go_at_call 86
  refine Calls.mono (hI.out) ?_
  rintro e w1 ⟨rfl, t1⟩
  go_wp2_with fail
  go_ret
  exact ⟨rfl, t1⟩
theorem infoI : (Try.prog.info? 3).map (fun i => (i.zero, i.size, i.bytes)) = some (some (.int .i64 0), 1, 8) := by kernel_rfl
set_option maxHeartbeats 1000000 in
theorem cloneI_is (w : World) (v : Value) (l : List Int) (h : RdS 1 w v (ins l)) (hn : l.length ≤ 100000) : Calls Try.prog 72 #[v] w fun e w' => ∃ u, e = .returned u ∧ OwnS 3 1 w' u (ins l) ∧ Turns [] w w' ∧ (∀ k, u.ownBlock = some k → w.heap.size ≤ k) := by
  obtain ⟨A, c, rfl, hc, hcm⟩ := h.form
  rw [ins_len] at hc ⊢
  have hh := Lib.hid h
  have q37 : ∀ (w : World) (a : Option Addr) (n c n' c' : Nat), (binOp .eql 34 (.slice a n c) (.slice none n' c')).run Try.prog w = .ok (.bool a.isNone) w := fun w a n c n' c' => Lib.run_eql_slice_nil w _ _ a n c n' c' Try.underlying34
  clear h
  cases A with
  | none =>
    obtain ⟨A2, c2, hv2, _, _, hnil, _⟩ := hh.out
    injection hv2 with e1 e2 e3
    subst e1
    have hc0 : c = 0 := by rw [e3]; exact hnil rfl
    subst hc0
    obtain rfl : l = [] := List.eq_nil_of_length_eq_zero (by omega)
    clear hh hnil e2 e3
    go_enter Try.func72, Try.ntmps72
    go_wp2_with fail
    go_ret
    exact ⟨_, rfl, OwnS.nil _ _ _, Turns.refl _ _, by simp [Value.ownBlock]⟩
  | some ad =>
    have H := (Sep.start w).newSlice ((Turns.refl [] w).alloc (.cells #[] 3)) (own_nil_lit w 3 1) (by simp [Value.ownBlock])
    have hs0 := hh.out.mv (w' := w.alloc (.cells #[] 3)) (fun a u => ((Turns.refl [] w).alloc (.cells #[] 3)).old)
    rw [ins_len] at hs0
    have hs1 := Lib.hid hs0
    clear hs0
    go_enter Try.func72, Try.ntmps72
    go_wp2_with (at_builtin; refine stop_ ?_)
    refine Mk_.mk ?_
    refine H.append 0 rfl hs1.out l.length (by simp) (ins l) (by simp) rfl _ _ _ rfl (.int .i64 0) 8 Try.underlying34 infoI rfl (by decide) rfl rfl (ins_one _) (by omega) (by omega) ?_
    clear H hs1
    intro A1 c1 w3 H t3 _
    have O := H.own 0 rfl
    have T := H.t
    have Mi := mine_own H 0 rfl
    clear H t3
    go_wp2_with fail
    go_ret
    exact ⟨_, rfl, O, T, fun q hq => by simpa using Mi q hq⟩
end Go.Proofs.Ytohokckpheljbaa.Ft
