/- The walks of package queue: Clone, IndexFunc, place. -/
import Derived.Test.YtoojemdehmabhaaHy
import Derived.Test.YtoojemdehmabhaaHg
import Derived.Test.YtoojemdehmabhaaProg
import Derived.KernelRfl
import Derived.Lib.MinMax
import Derived.WalkSpells
import Derived.StillTailTactics
import Derived.BigQuiet
import Derived.Deep.QuietTactic
import Derived.Shelf.SlGeneric
import Derived.Lib.Hide
import Derived.WalkKit
import Derived.Lib.SliceRun
import Derived.Deep.LoopGhost
set_option linter.unusedVariables false
set_option linter.unusedSimpArgs false
set_option maxRecDepth 100000
namespace Go.Proofs.Ytoojemdehmabhaa.Qa
open Go.RowKit Go.MapKept Go.Shelf Hm Hs Hf Hg Hx Hy Hv
/-- an item -/
structure It where
  id : Int
  key : Int
  cost : Int
  cls : Int
  until_ : Int
def It.cells (x : It) : List Value := [.int .i64 x.id, .int .i64 x.key, .int .i64 x.cost, .int .i64 x.cls, .int .i64 x.until_]
def It.v (x : It) : Value := .agg #[.int .i64 x.id, .int .i64 x.key, .int .i64 x.cost, .int .i64 x.cls, .int .i64 x.until_]
def It.zero : It := ⟨0, 0, 0, 0, 0⟩
/-- an item's cells in a slice -/
structure ICells (w : World) (ad : Addr) (m : Nat) (x : It) : Prop where
  i : w.cell? (ad.add m) = some (.int .i64 x.id)
  k : w.cell? ⟨(ad.add m).block, (ad.add m).off + 1, none⟩ = some (.int .i64 x.key)
  c : w.cell? ⟨(ad.add m).block, (ad.add m).off + 2, none⟩ = some (.int .i64 x.cost)
  s : w.cell? ⟨(ad.add m).block, (ad.add m).off + 3, none⟩ = some (.int .i64 x.cls)
  u : w.cell? ⟨(ad.add m).block, (ad.add m).off + 4, none⟩ = some (.int .i64 x.until_)
theorem ICells.turns {w w' : World} {ad : Addr} {m : Nat} {x : It} (h : ICells w ad m x) (t : Turns [] w w') : ICells w' ad m x := ⟨t.old h.i, t.old h.k, t.old h.c, t.old h.s, t.old h.u⟩
theorem icells_of {w : World} {ad : Addr} {m : Nat} {x : It} (h : ∀ i u, (It.cells x)[i]? = some u → w.cell? (ad.add (m + i)) = some u) : ICells w ad m x := by
  have h0 := h 0 _ rfl
  have h1 := h 1 _ rfl
  have h2 := h 2 _ rfl
  have h3 := h 3 _ rfl
  have h4 := h 4 _ rfl
  rw [Nat.add_zero] at h0
  rw [add_field _ _ _ (by omega)] at h1 h2 h3 h4
  exact ⟨h0, h1, h2, h3, h4⟩
theorem icells_at {w : World} {v : Value} {l : List It} {j : Nat} {x : It} (h : RdS 5 w v (l.map It.cells)) (hj : l[j]? = some x) : ∃ ad c, v = .slice (some ad) l.length c ∧ ICells w ad (j * 5) x := by
  obtain ⟨ad, c, hv, _, hc⟩ := h.at_ (j := j) (r := It.cells x) (by rw [List.getElem?_map, hj]; rfl)
  rw [List.length_map] at hv
  exact ⟨ad, c, hv, icells_of hc⟩
theorem icells_one (l : List It) : ∀ r ∈ l.map It.cells, ∀ u ∈ r, u.oneCell' = true := by
  intro r hr u hu
  obtain ⟨x, _, rfl⟩ := List.mem_map.1 hr
  simp [It.cells] at hu
  rcases hu with rfl | rfl | rfl | rfl | rfl <;> rfl
theorem infoQ : (Try.prog.info? 34).map (fun i => (i.zero, i.size, i.bytes)) = some (some (.agg #[.int .i64 0, .int .i64 0, .int .i64 0, .int .i64 0, .int .i64 0]), 5, 40) := by kernel_rfl
/-- where the first one is that p holds of -/
def ixFrom (p : It → Bool) : List It → Nat → Int
  | [], _ => -1
  | x :: r, j => if p x then (j : Int) else ixFrom p r (j + 1)
theorem ixFrom_is (p : It → Bool) : ∀ (R : List It) (j : Nat), (ixFrom p R j = -1 ∧ ∀ x ∈ R, p x = false) ∨ ∃ (i : Nat) (x : It), R[i]? = some x ∧ p x = true ∧ (∀ k, k < i → ∀ y, R[k]? = some y → p y = false) ∧ ixFrom p R j = ((j + i : Nat) : Int)
  | [], j => .inl ⟨rfl, by simp⟩
  | x :: r, j => by
    unfold ixFrom
    cases h : p x with
    | true => exact .inr ⟨0, x, rfl, h, fun k hk => by omega, by simp⟩
    | false =>
      rcases ixFrom_is p r (j + 1) with ⟨h1, h2⟩ | ⟨i, y, h1, h2, h3, h4⟩
      · refine .inl ⟨by simpa using h1, fun y hy => ?_⟩
        rcases List.mem_cons.1 hy with rfl | hy
        · exact h
        · exact h2 y hy
      · refine .inr ⟨i + 1, y, by simpa using h1, h2, fun k hk z hz => ?_, ?_⟩
        · cases k with
          | zero => simp at hz; subst hz; exact h
          | succ k => exact h3 k (by omega) z (by simpa using hz)
        · simp only [Bool.false_eq_true, if_false]
          rw [h4]
          congr 1
          omega
theorem drop_cons {R : List It} {j : Nat} {x : It} (h : R[j]? = some x) : R.drop j = x :: R.drop (j + 1) := by
  obtain ⟨h1, rfl⟩ := List.getElem?_eq_some_iff.1 h
  exact List.drop_eq_getElem_cons h1
set_option maxHeartbeats 1000000 in
/-- slices.Clone -/
theorem clone_is (w : World) (v : Value) (l : List It) (h : RdS 5 w v (l.map It.cells)) (hn : l.length ≤ 100000) : Calls Try.prog 56 #[v] w fun e w' => ∃ u, e = .returned u ∧ OwnS 34 5 w' u (l.map It.cells) ∧ Turns [] w w' ∧ (∀ k, u.ownBlock = some k → w.heap.size ≤ k) := by
  obtain ⟨A, c, rfl, hc, hcm⟩ := h.form
  rw [List.length_map] at hc ⊢
  have hh := Lib.hid h
  have q37 : ∀ (w : World) (a : Option Addr) (n c n' c' : Nat), (binOp .eql 37 (.slice a n c) (.slice none n' c')).run Try.prog w = .ok (.bool a.isNone) w := fun w a n c n' c' => Lib.run_eql_slice_nil w _ _ a n c n' c' Try.underlying37
  clear h
  cases A with
  | none =>
    obtain ⟨A2, c2, hv2, _, _, hnil, _⟩ := hh.out
    injection hv2 with e1 e2 e3
    subst e1
    have hc0 : c = 0 := by rw [e3]; exact hnil rfl
    subst hc0
    obtain rfl : l = [] := List.eq_nil_of_length_eq_zero (by omega)
    clear hh hnil e2 e3
    go_enter Try.func56, Try.ntmps56
    go_wp2_with fail
    go_ret
    exact ⟨_, rfl, OwnS.nil _ _ _, Turns.refl _ _, by simp [Value.ownBlock]⟩
  | some ad =>
    have H := (Sep.start w).newSlice ((Turns.refl _ _).alloc (.cells #[] 34)) (own_nil_lit w 34 5) (by simp [Value.ownBlock])
    have hs0 := hh.out.mv (w' := w.alloc (.cells #[] 34)) (fun a u => ((Turns.refl [] w).alloc (.cells #[] 34)).old)
    rw [List.length_map] at hs0
    have hs1 := Lib.hid hs0
    clear hs0
    go_enter Try.func56, Try.ntmps56
    go_wp2_with (at_builtin; refine stop_ ?_)
    refine Mk_.mk ?_
    refine H.append 0 rfl hs1.out l.length (by simp) (l.map It.cells) (by simp) rfl _ _ _ rfl (.agg #[.int .i64 0, .int .i64 0, .int .i64 0, .int .i64 0, .int .i64 0]) 40 Try.underlying37 infoQ rfl (by decide) rfl rfl (icells_one _) (by omega) (by omega) ?_
    clear H hs1
    intro A1 c1 w3 H t3 _
    have O := H.own 0 rfl
    have T := H.t
    have Mi := mine_own H 0 rfl
    clear H t3
    go_wp2_with fail
    go_ret
    exact ⟨_, rfl, O, T, fun q hq => by simpa using Mi q hq⟩
set_option maxHeartbeats 1000000 in
/-- slices.IndexFunc -/
theorem index_is (w : World) (v : Value) (l : List It) (p : It → Bool) (g : Nat) (cb : Array Value) (eg : ∀ args w, (callFunc g args).run Try.prog w = .ok (.enter g args) w) (h : RdS 5 w v (l.map It.cells)) (hn : l.length ≤ 100000)
    (hp : Hid (∀ W (x : It), Turns [] w W → Calls Try.prog g (#[x.v] ++ cb) W fun e w' => e = .returned (.bool (p x)) ∧ Turns [] W w')) :
    Calls Try.prog 101 #[v, .func (.func g) #[] cb] w fun e w' => e = .returned (.int .i64 (ixFrom p l 0)) ∧ Turns [] w w' := by
  have hh := Lib.hid h
  obtain ⟨A, c, rfl, _⟩ := h.form
  rw [List.length_map]
  obtain ⟨r, hr⟩ : ∃ r, ixFrom p l 0 = r := ⟨_, rfl⟩
  rw [hr]
  have hrh := Lib.hid hr
  clear h hr
  go_enter Try.func101, Try.ntmps101
  go_wp2_with fail
  go_loopw [5, 8] (fun _ v8 wr => ∃ (j : Nat), j ≤ l.length ∧ v8 = .int .i64 j ∧ ixFrom p (l.drop j) j = r ∧ Turns [] w wr) (fun _ v8 _ => l.length - (RowKit.intOf v8).toNat)
  case atStart => exact ⟨0, by omega, rfl, hrh.out, Turns.refl _ _⟩
  case round =>
    obtain ⟨j, hj, rfl, hpj, T⟩ := hrel
    by_cases hlt : j < l.length
    · have g1 : decide ((j : Int) < (l.length : Int)) = true := by simp; omega
      obtain ⟨x, hx⟩ : ∃ x, l[j]? = some x := ⟨_, List.getElem?_eq_getElem hlt⟩
      obtain ⟨ad, c', hv, L⟩ := icells_at hh.out hx
      rw [List.length_map] at hv
      injection hv with e1 e2 e3
      subst e1 e3
      obtain ⟨i0, i1, i2, i3, i4⟩ := L.turns T
      rw [drop_cons hx] at hpj
      unfold ixFrom at hpj
      have hc := hp.out wr x T
      unfold It.v at hc
      have hch := Lib.hid hc
      clear hx e2 L hc
      cases hq : p x with
      | true =>
        rw [hq] at hpj hch
        simp only [if_true] at hpj
        subst hpj
        go_wp2_with (first | (go_at_fn g; refine Calls.mono hch.out ?_; rintro e w2 ⟨rfl, t2⟩) | go_in)
        go_ret
        exact ⟨rfl, T.trans t2⟩
      | false =>
        rw [hq] at hpj hch
        simp only [Bool.false_eq_true, if_false] at hpj
        have hpjh := Lib.hid hpj
        clear hpj
        go_wp2_with (first | (go_at_fn g; refine Calls.mono hch.out ?_; rintro e w2 ⟨rfl, t2⟩) | go_in)
        go_roundw
        case rel => exact ⟨j + 1, by omega, by go_num, hpjh.out, T.trans t2⟩
        case measure => simp [RowKit.intOf]; omega
    · obtain rfl : j = l.length := by omega
      have g1 : decide ((l.length : Int) < (l.length : Int)) = false := by simp
      rw [List.drop_length] at hpj
      unfold ixFrom at hpj
      subst hpj
      go_wp2_with fail
      go_ret
      exact ⟨rfl, T⟩
end Go.Proofs.Ytoojemdehmabhaa.Qa
