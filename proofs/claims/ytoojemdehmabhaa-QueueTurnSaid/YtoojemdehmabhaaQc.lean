/- slices.IndexFunc, whose predicate may turn a thing of its own. -/
import Derived.Test.YtoojemdehmabhaaQb
set_option linter.unusedVariables false
set_option linter.unusedSimpArgs false
set_option maxRecDepth 100000
namespace Go.Proofs.Ytoojemdehmabhaa.Qc
open Go.RowKit Go.MapKept Go.Shelf Hm Hs Hf Hg Hx Hy Hv Qa Qb
abbrev tIt (v : Value) (l : List It) : Th := tOwn 34 5 v (l.map It.cells)
/-- the predicate g says p x; what it holds, behind having seen s, is T: St s T -/
def Says (P : Program) (g : Nat) (cb : Array Value) (p : It → Bool) (St : List It → Th → Prop) : Prop :=
  ∀ (s : List It) (T : Th) (W : World) (x : It), s.length ≤ 100000 → St s T → T.ok W → Calls P g (#[x.v] ++ cb) W fun e w' => e = .returned (.bool (p x)) ∧ ∃ T', St (s ++ [x]) T' ∧ Sep (fps [T]) W [T'] w'
def seen (p : It → Bool) (l : List It) : Nat := if ixFrom p l 0 = -1 then l.length else (ixFrom p l 0).toNat + 1
set_option maxHeartbeats 1000000 in
theorem index_st (w : World) (v : Value) (l : List It) (T : Th) (p : It → Bool) (g : Nat) (cb : Array Value) (St : List It → Th → Prop) (eg : ∀ args w, (callFunc g args).run Try.prog w = .ok (.enter g args) w) (h : Got [tIt v l, T] w) (hn : l.length ≤ 100000) (hT : St [] T) (hp : Says Try.prog g cb p St) :
    Calls Try.prog 101 #[v, .func (.func g) #[] cb] w fun e w' => e = .returned (.int .i64 (ixFrom p l 0)) ∧ ∃ T', St (l.take (seen p l)) T' ∧ Sep (fps [tIt v l, T]) w [tIt v l, T'] w' := by
  have H := h.sep
  generalize hFF : fps [tIt v l, T] = FF at H ⊢
  obtain ⟨A, c, rfl, _⟩ := (H.own 0 rfl).form
  rw [List.length_map] at H ⊢
  obtain ⟨X, hX⟩ : ∃ X : Ending → World → Prop, X = fun e w' => e = .returned (.int .i64 (ixFrom p l 0)) ∧ ∃ T', St (l.take (seen p l)) T' ∧ Sep FF w [tIt (.slice A l.length c) l, T'] w' := ⟨_, rfl⟩
  rw [← hX]
  have hXh : Hid (∀ w' T', St (l.take (seen p l)) T' → Sep FF w [tIt (.slice A l.length c) l, T'] w' → X (.returned (.int .i64 (ixFrom p l 0))) w') := Lib.hid (fun w' T' h1 h2 => by rw [hX]; exact ⟨rfl, T', h1, h2⟩)
  have hph := Lib.hid hp
  have hTh := Lib.hid hT
  clear hX h hFF hp hT
  obtain ⟨r, hr⟩ : ∃ r, ixFrom p l 0 = r := ⟨_, rfl⟩
  have hsn : seen p l = if r = -1 then l.length else r.toNat + 1 := by unfold seen; rw [hr]
  rw [hr] at hXh
  have hrh := Lib.hid hr
  have hsnh := Lib.hid hsn
  clear hr hsn
  go_enter Try.func101, Try.ntmps101
  go_wp2_with fail
  go_loopw [5, 8] (fun _ v8 wr => ∃ (j : Nat) (T : Th), j ≤ l.length ∧ v8 = .int .i64 j ∧ ixFrom p (l.drop j) j = r ∧ St (l.take j) T ∧ Sep FF w [tIt (.slice A l.length c) l, T] wr) (fun _ v8 _ => l.length - (RowKit.intOf v8).toNat)
  case atStart => exact ⟨0, T, by omega, rfl, hrh.out, hTh.out, H⟩
  case round =>
    obtain ⟨j, T1, hj, rfl, hpj, hT1, H1⟩ := hrel
    clear H
    have H := H1
    clear H1
    have hT1h := Lib.hid hT1
    clear hT1
    by_cases hlt : j < l.length
    · have g1 : decide ((j : Int) < (l.length : Int)) = true := by simp; omega
      obtain ⟨x, hx⟩ : ∃ x, l[j]? = some x := ⟨_, List.getElem?_eq_getElem hlt⟩
      obtain ⟨ad, c', hv, L⟩ := icells_at (H.own 0 rfl).reads hx
      injection hv with e1 e2 e3
      subst e1 e3
      obtain ⟨i0, i1, i2, i3, i4⟩ := L
      rw [drop_cons hx] at hpj
      unfold ixFrom at hpj
      have hc := hph.out (l.take j) T1 wr x (by rw [List.length_take]; omega) hT1h.out (H.at_ 1 rfl)
      rw [← take_next hx] at hc
      unfold It.v at hc
      have hch := Lib.hid hc
      clear hx e2 hc
      cases hq : p x with
      | true =>
        rw [hq] at hpj hch
        simp only [if_true] at hpj
        subst hpj
        have hs1 : seen p l = j + 1 := by rw [hsnh.out, if_neg (by omega)]; simp
        have hs1h := Lib.hid hs1
        clear hs1
        go_wp2_with (first | (go_at_fn g; refine Calls.mono hch.out ?_; rintro e w2 ⟨rfl, T2, hT2, h2⟩; replace H := (H.call [1] h2).keep [1, 0]; have hX := hXh.out _ T2 (by rw [hs1h.out]; exact hT2) H; clear H h2 hT2) | go_in)
        exact hX
      | false =>
        rw [hq] at hpj hch
        simp only [Bool.false_eq_true, if_false] at hpj
        have hpjh := Lib.hid hpj
        clear hpj
        go_wp2_with (first | (go_at_fn g; refine Calls.mono hch.out ?_; rintro e w2 ⟨rfl, T2, hT2, h2⟩; replace H := (H.call [1] h2).keep [1, 0]; have hT2h := Lib.hid hT2; clear h2 hT2) | go_in)
        go_roundw
        case rel => exact ⟨j + 1, T2, by omega, by go_num, hpjh.out, hT2h.out, H⟩
        case measure => simp [RowKit.intOf]; omega
    · obtain rfl : j = l.length := by omega
      have g1 : decide ((l.length : Int) < (l.length : Int)) = false := by simp
      rw [List.drop_length] at hpj
      unfold ixFrom at hpj
      subst hpj
      have hX := hXh.out _ T1 (by rw [hsnh.out, if_pos rfl]; exact hT1h.out) H
      clear H
      go_wp2_with fail
      exact hX
end Go.Proofs.Ytoojemdehmabhaa.Qc
