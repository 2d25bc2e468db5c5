/- slices of int: IndexFunc, ContainsFunc, DeleteFunc with a predicate that turns nothing. -/
import Derived.Test.YtmaielpfeajelaaYa
import Derived.Lib.MinMax
import Derived.WalkSpells
import Derived.StillTailTactics
import Derived.BigQuiet
import Derived.Deep.QuietTactic
import Derived.WalkKit
import Derived.Shelf.Abstract
import Derived.Lib.SliceRun
import Derived.Deep.LoopGhost
set_option linter.unusedVariables false
set_option linter.unusedSimpArgs false
set_option maxRecDepth 100000
namespace Go.Proofs.Ytmaielpfeajelaa.Ta
open Go.RowKit Go.MapKept Go.Shelf Hm Hs Hg Hv Hx Hy Ya
/-- where the first one is that p holds of -/
def ixFrom (p : Int → Bool) : List Int → Nat → Int
  | [], _ => -1
  | x :: r, j => if p x then (j : Int) else ixFrom p r (j + 1)
theorem ixFrom_is (p : Int → Bool) : ∀ (R : List Int) (j : Nat), (ixFrom p R j = -1 ∧ ∀ x ∈ R, p x = false) ∨ ∃ (i : Nat) (x : Int), R[i]? = some x ∧ p x = true ∧ (∀ k, k < i → ∀ y, R[k]? = some y → p y = false) ∧ ixFrom p R j = ((j + i : Nat) : Int)
  | [], j => .inl ⟨rfl, by simp⟩
  | x :: r, j => by
    unfold ixFrom
    cases h : p x with
    | true => exact .inr ⟨0, x, rfl, h, fun k hk => by omega, by simp⟩
    | false =>
      rcases ixFrom_is p r (j + 1) with ⟨h1, h2⟩ | ⟨i, y, h1, h2, h3, h4⟩
      · refine .inl ⟨by simpa using h1, fun y hy => ?_⟩
        rcases List.mem_cons.1 hy with rfl | hy
        · exact h
        · exact h2 y hy
      · refine .inr ⟨i + 1, y, by simpa using h1, h2, fun k hk z hz => ?_, ?_⟩
        · cases k with
          | zero => simp at hz; subst hz; exact h
          | succ k => exact h3 k (by omega) z (by simpa using hz)
        · simp only [Bool.false_eq_true, if_false]
          rw [h4]
          congr 1
          omega
theorem drop_cons {R : List Int} {j : Nat} {x : Int} (h : R[j]? = some x) : R.drop j = x :: R.drop (j + 1) := by
  obtain ⟨h1, rfl⟩ := List.getElem?_eq_some_iff.1 h
  exact List.drop_eq_getElem_cons h1
/-- the list, while it is gone through: q are kept ahead, j have been seen -/
structure Mid (p : Int → Bool) (l C : List Int) (q j : Nat) : Prop where
  len : C.length = l.length
  kept : C.take q = (l.take j).filter (fun x => !p x)
  rest : C.drop j = l.drop j
  le : q < j
  ln : q = ((l.take j).filter (fun x => !p x)).length
theorem Mid.at_ {p : Int → Bool} {l C : List Int} {q j : Nat} (h : Mid p l C q j) {x : Int} (hx : l[j]? = some x) : C[j]? = some x := by
  have := congrArg (fun l => l[0]?) h.rest
  simpa [List.getElem?_drop, hx] using this
theorem take_next {l : List Int} {j : Nat} {x : Int} (hx : l[j]? = some x) : l.take (j + 1) = l.take j ++ [x] := by rw [List.take_add_one, hx]; rfl
theorem Mid.skip {p : Int → Bool} {l C : List Int} {q j : Nat} (h : Mid p l C q j) {x : Int} (hx : l[j]? = some x) (hp : p x = true) : Mid p l C q (j + 1) := by
  have e : (l.take (j + 1)).filter (fun x => !p x) = (l.take j).filter (fun x => !p x) := by rw [take_next hx, List.filter_append]; simp [hp]
  refine ⟨h.len, by rw [e]; exact h.kept, ?_, by have := h.le; omega, by rw [e]; exact h.ln⟩
  have := congrArg (List.drop 1) h.rest
  simpa [List.drop_drop] using this
theorem Mid.keep {p : Int → Bool} {l C : List Int} {q j : Nat} (h : Mid p l C q j) {x : Int} (hx : l[j]? = some x) (hp : p x = false) : Mid p l (C.set q x) (q + 1) (j + 1) := by
  have hj := (List.getElem?_eq_some_iff.1 hx).1
  have hle := h.le
  have hlen := h.len
  have e : (l.take (j + 1)).filter (fun x => !p x) = (l.take j).filter (fun x => !p x) ++ [x] := by rw [take_next hx, List.filter_append]; simp [hp]
  refine ⟨by rw [List.length_set]; exact h.len, ?_, ?_, by omega, ?_⟩
  · rw [e, ← h.kept, List.take_add_one, List.getElem?_set_self (by omega), List.take_set_of_le (Nat.le_refl _)]
    rfl
  · rw [List.drop_set_of_lt (by omega)]
    have := congrArg (List.drop 1) h.rest
    simpa [List.drop_drop] using this
  · rw [e, List.length_append, ← h.ln]
    rfl
theorem Mid.done {p : Int → Bool} {l C : List Int} {q : Nat} (h : Mid p l C q l.length) : C.take q = l.filter (fun x => !p x) ∧ q = (l.filter (fun x => !p x)).length := by
  have h1 := h.kept
  have h2 := h.ln
  rw [List.take_length] at h1 h2
  exact ⟨h1, h2⟩
theorem Mid.start {p : Int → Bool} {l : List Int} {i : Nat} {x : Int} (hx : l[i]? = some x) (hp : p x = true) (hb : ∀ k, k < i → ∀ y, l[k]? = some y → p y = false) : Mid p l l i (i + 1) := by
  have hi := (List.getElem?_eq_some_iff.1 hx).1
  have e0 : (l.take i).filter (fun x => !p x) = l.take i := List.filter_eq_self.2 (fun y hy => by
    obtain ⟨k, hk⟩ := List.getElem?_of_mem hy
    rw [List.getElem?_take] at hk
    split at hk
    · rename_i hki
      rw [hb k hki y hk]; rfl
    · cases hk)
  have e : (l.take (i + 1)).filter (fun x => !p x) = l.take i := by rw [take_next hx, List.filter_append, e0]; simp [hp]
  exact ⟨rfl, by rw [e], rfl, by omega, by rw [e, List.length_take]; omega⟩
theorem icell {w : World} {v : Value} {l : List Int} {j : Nat} {x : Int} (h : RdS 1 w v (ins l)) (hj : l[j]? = some x) : ∃ ad c, v = .slice (some ad) l.length c ∧ w.cell? (ad.add j) = some (.int .i64 x) := by
  obtain ⟨ad, c, hv, _, hc⟩ := h.at_ (j := j) (r := [.int .i64 x]) (by unfold ins; rw [List.getElem?_map, hj]; rfl)
  rw [ins_len] at hv
  have := hc 0 _ rfl
  rw [Nat.mul_one, Nat.add_zero] at this
  exact ⟨ad, c, hv, this⟩
set_option maxHeartbeats 1000000 in
/-- slices.IndexFunc -/
theorem index_is (w : World) (v : Value) (l : List Int) (p : Int → Bool) (g : Nat) (eg : ∀ args w, (callFunc g args).run Try.prog w = .ok (.enter g args) w) (h : RdS 1 w v (ins l)) (hn : l.length ≤ 100000)
    (hp : Hid (∀ W (x : Int), Calls Try.prog g #[.int .i64 x] W fun e w' => e = .returned (.bool (p x)) ∧ Turns [] W w')) :
    Calls Try.prog 66 #[v, .func (.func g) #[] #[]] w fun e w' => e = .returned (.int .i64 (ixFrom p l 0)) ∧ Turns [] w w' := by
  have hh := Lib.hid h
  obtain ⟨A, c, rfl, _⟩ := h.form
  rw [ins_len]
  obtain ⟨r, hr⟩ : ∃ r, ixFrom p l 0 = r := ⟨_, rfl⟩
  rw [hr]
  have hrh := Lib.hid hr
  clear h hr
  go_enter Try.func66, Try.ntmps66
  go_wp2_with fail
  go_loopw [5, 8] (fun _ v8 wr => ∃ (j : Nat), j ≤ l.length ∧ v8 = .int .i64 j ∧ ixFrom p (l.drop j) j = r ∧ Turns [] w wr) (fun _ v8 _ => l.length - (RowKit.intOf v8).toNat)
  case atStart => exact ⟨0, by omega, rfl, hrh.out, Turns.refl _ _⟩
  case round =>
    obtain ⟨j, hj, rfl, hpj, T⟩ := hrel
    by_cases hlt : j < l.length
    · have g1 : decide ((j : Int) < (l.length : Int)) = true := by simp; omega
      obtain ⟨x, hx⟩ : ∃ x, l[j]? = some x := ⟨_, List.getElem?_eq_getElem hlt⟩
      obtain ⟨ad, c', hv, L⟩ := icell hh.out hx
      injection hv with e1 e2 e3
      subst e1 e3
      have i0 := T.old L
      rw [drop_cons hx] at hpj
      unfold ixFrom at hpj
      have hch := Lib.hid (hp.out wr x)
      clear hx e2 L
      cases hq : p x with
      | true =>
        rw [hq] at hpj hch
        simp only [if_true] at hpj
        subst hpj
        go_wp2_with (first | (go_at_fn g; refine Calls.mono hch.out ?_; rintro e w2 ⟨rfl, t2⟩) | go_in)
        go_ret
        exact ⟨rfl, T.trans t2⟩
      | false =>
        rw [hq] at hpj hch
        simp only [Bool.false_eq_true, if_false] at hpj
        have hpjh := Lib.hid hpj
        clear hpj
        go_wp2_with (first | (go_at_fn g; refine Calls.mono hch.out ?_; rintro e w2 ⟨rfl, t2⟩) | go_in)
        go_roundw
        case rel => exact ⟨j + 1, by omega, by go_num, hpjh.out, T.trans t2⟩
        case measure => simp [RowKit.intOf]; omega
    · obtain rfl : j = l.length := by omega
      have g1 : decide ((l.length : Int) < (l.length : Int)) = false := by simp
      rw [List.drop_length] at hpj
      unfold ixFrom at hpj
      subst hpj
      go_wp2_with fail
      go_ret
      exact ⟨rfl, T⟩
theorem ix_any (p : Int → Bool) (l : List Int) : decide (ixFrom p l 0 ≥ 0) = l.any p := by
  rcases ixFrom_is p l 0 with ⟨h1, h2⟩ | ⟨i, x, h1, h2, h3, h4⟩
  · rw [h1, show l.any p = false from List.any_eq_false.2 (fun x hx => by rw [h2 x hx]; simp)]; rfl
  · rw [h4, show l.any p = true from List.any_eq_true.2 ⟨x, List.mem_of_getElem? h1, h2⟩]; simp
theorem contains_is (w : World) (v : Value) (l : List Int) (p : Int → Bool) (g : Nat) (eg : ∀ args w, (callFunc g args).run Try.prog w = .ok (.enter g args) w) (h : RdS 1 w v (ins l)) (hn : l.length ≤ 100000)
    (hp : Hid (∀ W (x : Int), Calls Try.prog g #[.int .i64 x] W fun e w' => e = .returned (.bool (p x)) ∧ Turns [] W w')) :
    Calls Try.prog 49 #[v, .func (.func g) #[] #[]] w fun e w' => e = .returned (.bool (l.any p)) ∧ Turns [] w w' := by
  have hI := Lib.hid (index_is w v l p g eg h hn hp)
  rw [← ix_any]
  generalize ixFrom p l 0 = r at *
  clear hp h
  go_enter Try.func49, Try.ntmps49
  go_wp2_with fail
  go_at_call 66
  refine Calls.mono (hI.out) ?_
  rintro e w1 ⟨rfl, t1⟩
  go_wp2_with fail
  go_ret
  exact ⟨rfl, t1⟩
theorem zeroI (w : World) : (zeroValue 3).run Try.prog w = .ok (.int .i64 0) w := by kernel_rfl
theorem zeroIOne : ∀ u ∈ (Value.int .i64 0).cells, u.oneCell' = true := by
  intro u hu
  have h0 : u ∈ (Value.int .i64 0).cells.toList := Array.mem_def.1 hu
  have this : u ∈ [Value.int .i64 0] := h0
  simp at this
  subst this
  rfl
set_option maxHeartbeats 2000000 in
theorem delete_is (w : World) (v : Value) (l : List Int) (p : Int → Bool) (g : Nat) (eg : ∀ args w, (callFunc g args).run Try.prog w = .ok (.enter g args) w) (h : OwnS 3 1 w v (ins l)) (hn : l.length ≤ 100000)
    (hp : Hid (∀ W (x : Int), Calls Try.prog g #[.int .i64 x] W fun e w' => e = .returned (.bool (p x)) ∧ Turns [] W w')) :
    Calls Try.prog 56 #[v, .func (.func g) #[] #[]] w fun e w' => ∃ u, e = .returned u ∧ OwnS 3 1 w' u (ins (l.filter (fun x => !p x))) ∧ Turns v.ownBlock.toList w w' ∧ u.ownBlock = v.ownBlock := by
  have hI := index_is w v l p g eg h.reads hn hp
  have H : Sep v.ownBlock.toList w [tOwn 3 1 v (ins l)] w := by simpa [fps, tOwn] using (Got.one (T := tOwn 3 1 v (ins l)) h).sep
  generalize hFF : v.ownBlock.toList = FF at H ⊢
  obtain ⟨A, c, rfl, hcc⟩ := h.form
  clear hcc
  rw [ins_len] at H hI ⊢
  obtain ⟨X, hX⟩ : ∃ X : Ending → World → Prop, X = fun e w' => ∃ u, e = .returned u ∧ OwnS 3 1 w' u (ins (l.filter (fun x => !p x))) ∧ Turns FF w w' ∧ u.ownBlock = (Value.slice A l.length c).ownBlock := ⟨_, rfl⟩
  rw [← hX]
  have hXh : Hid (∀ w' u, OwnS 3 1 w' u (ins (l.filter (fun x => !p x))) → Turns FF w w' → u.ownBlock = (Value.slice A l.length c).ownBlock → X (.returned u) w') := Lib.hid (fun w' u h1 h2 h3 => by rw [hX]; exact ⟨u, rfl, h1, h2, h3⟩)
  have hHh := Lib.hid H
  clear hX h hFF H
  rcases ixFrom_is p l 0 with ⟨r1, r2⟩ | ⟨i, xi, r1, r2, r3, r4⟩
  · have hf : l.filter (fun x => !p x) = l := List.filter_eq_self.2 (fun x hx => by rw [r2 x hx]; rfl)
    rw [r1] at hI
    rw [hf] at hXh
    have hIh := Lib.hid hI
    clear hI r1 r2 hf
    go_enter Try.func56, Try.ntmps56
    go_wp2_with fail
    go_at_call 66
    refine Calls.mono (hIh.out) ?_
    rintro e w1 ⟨rfl, t1⟩
    have H := hHh.out.turns t1
    have hX := hXh.out _ _ (H.own 0 rfl) H.t rfl
    clear H
    go_wp2_with fail
    exact hX
  · rw [Nat.zero_add] at r4
    rw [r4] at hI
    have hIh := Lib.hid hI
    have hM := Lib.hid (Mid.start r1 r2 r3)
    have hil := (List.getElem?_eq_some_iff.1 r1).1
    have g0 : ((i : Int) == -1) = false := by simp
    clear hI r1 r2 r3 r4
    go_enter Try.func56, Try.ntmps56
    go_wp2_with fail
    go_at_call 66
    refine Calls.mono (hIh.out) ?_
    rintro e w1 ⟨rfl, t1⟩
    have H := hHh.out.turns t1
    clear hHh hIh t1
    have hHh := Lib.hid H
    clear H
    go_wp2_with fail
    have H := hHh.out
    clear hHh
    go_loopw [5, 6] (fun v5 v6 wr => ∃ (q j : Nat) (C : List Int), j ≤ l.length ∧ v5 = .int .i64 q ∧ v6 = .int .i64 j ∧ Mid p l C q j ∧ Sep FF w [tOwn 3 1 (.slice A l.length c) (ins C)] wr) (fun _ v6 _ => l.length - (RowKit.intOf v6).toNat)
    case atStart => exact ⟨i, i + 1, l, by omega, rfl, by go_num, hM.out, H⟩
    case round =>
      obtain ⟨q, j, C, hj, rfl, rfl, hMj, H1⟩ := hrel
      clear H
      have H := H1
      clear H1
      have hq := hMj.le
      have hCl := hMj.len
      have hMjh := Lib.hid hMj
      clear hMj
      by_cases hlt : j < l.length
      · have g1 : decide ((j : Int) < (l.length : Int)) = true := by simp; omega
        have g1b : decide (j < l.length) = true := decide_eq_true hlt
        obtain ⟨x, hx⟩ : ∃ x, l[j]? = some x := ⟨_, List.getElem?_eq_getElem hlt⟩
        obtain ⟨ad, c', hv, i0⟩ := icell (H.own 0 rfl).reads (hMjh.out.at_ hx)
        rw [hCl] at hv
        injection hv with e1 e2 e3
        subst e1 e3
        have hch := Lib.hid (hp.out wr x)
        have hxh := Lib.hid hx
        have hHh := Lib.hid H
        clear hx e2 H
        cases hpx : p x with
        | true =>
          rw [hpx] at hch
          have hnx := Lib.hid (hMjh.out.skip hxh.out hpx)
          go_wp2_with (first | (go_at_fn g; refine Calls.mono hch.out ?_; rintro e w2 ⟨rfl, t2⟩) | go_in)
          go_roundw
          case rel => exact ⟨q, j + 1, C, by omega, rfl, by go_num, hnx.out, hHh.out.turns t2⟩
          case measure => simp [RowKit.intOf]; omega
        | false =>
          rw [hpx] at hch
          have hnx := Lib.hid (hMjh.out.keep hxh.out hpx)
          go_wp2_with (first | (go_at_fn g; refine Calls.mono hch.out ?_; rintro e w2 ⟨rfl, t2⟩; clear i0; refine stop_ ?_) | go_in)
          refine Mk_.mk ?_
          have H2 := hHh.out.turns t2
          clear hHh
          obtain ⟨y, hy⟩ : ∃ y, C[q]? = some y := ⟨_, List.getElem?_eq_getElem (by omega)⟩
          obtain ⟨ad2, c3, hv2, hcl, hst⟩ := Hy.Sep.setAt H2 0 rfl (j := q) (r := [.int .i64 y]) (by unfold ins; rw [List.getElem?_map, hy]; rfl)
          injection hv2 with e4 e5 e6
          injection e4 with e4
          subst e4
          have z0 := hcl 0 _ rfl
          rw [Nat.mul_one, Nat.add_zero] at z0
          obtain ⟨f0, hs2⟩ := hst 0 (by omega) (ad.add q) (by rw [Nat.mul_one, Nat.add_zero])
          have H5 := hs2 (.int .i64 x)
          have er : (ins C).set q ([Value.int .i64 y].set 0 (.int .i64 x)) = ins (C.set q x) := by unfold ins; rw [List.map_set]; rfl
          rw [er] at H5
          have H5h := Lib.hid H5
          have hqj : q < l.length := by omega
          clear H2 H5 hst hs2 hcl er hy t2 e5
          go_wp2_with fail
          go_roundw
          case rel => exact ⟨q + 1, j + 1, C.set q x, by omega, by go_num, by go_num, hnx.out, H5h.out⟩
          case measure => simp [RowKit.intOf]; omega
      · obtain rfl : j = l.length := by omega
        have g1 : decide ((l.length : Int) < (l.length : Int)) = false := by simp
        obtain ⟨D1, D2⟩ := hMjh.out.done
        obtain ⟨A2, c2, hv2, hc2, _, hnil⟩ := (H.own 0 rfl).form
        rw [ins_len, hCl] at hv2 hc2
        injection hv2 with e1 e2 e3
        subst e1 e3
        cases A with
        | none => have := hnil rfl; omega
        | some ad =>
          have hc0 : ¬ c = 0 := by omega
          have hcq : ¬ c = q := by omega
          have hql : (q : Int) ≤ (l.length : Int) := by omega
          have hqc : (q : Int) ≤ (c : Int) := by omega
          have D1h := Lib.hid D1
          have D2h := Lib.hid D2
          clear D1 D2 e2 hnil hMjh hM
          have O := Lib.hid (H.own 0 rfl)
          have hqn := Lib.hid (show q < l.length by omega)
          go_wp2_with (refine Hz.wp_clear_tail O.out rfl _ rfl Try.underlying33 _ (zeroI _) rfl zeroIOne (by decide) q hqn.out (by rw [Nat.mul_one]; rfl) ?_; intro w3 o3 t3)
          replace H := H.slice 0 rfl (rows' := ins (l.filter (fun x => !p x))) (v' := .slice (some ad) q c) (by rw [show (ins C).take q = ins (C.take q) from by unfold ins; rw [List.map_take], D1h.out] at o3; exact o3) (by simpa [Value.ownBlock] using t3) (.inl rfl)
          have hX := hXh.out _ _ (H.own 0 rfl) H.t rfl
          clear H t3 o3
          go_wp2_with fail
          exact hX
end Go.Proofs.Ytmaielpfeajelaa.Ta
