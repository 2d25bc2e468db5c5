/- The walks of annonaref04.Put and codec's readers. -/
import Derived.Test.YtohokckpheljbaaKn
set_option linter.unusedVariables false
set_option linter.unusedSimpArgs false
set_option maxRecDepth 100000
namespace Go.Proofs.Ytohokckpheljbaa.Kp
open Go.RowKit Go.MapKept Hm Hs Hr Hb Hf Hg Hv Kw Kn
theorem put_bad (w : World) (v : Value) (l : List Int) (hv : RdS 1 w v (ins l)) (hl : l.length ≤ 10000) (hb : ∀ x ∈ l, -9223372036854775808 ≤ x ∧ x ≤ 9223372036854775807) :
    Calls Try.prog 76 #[v] w fun e w' => ((l.all okNum = false ∧ e = .returned (.tuple #[.slice none 0 0, .int .i64 1])) ∨ (l.all okNum = true ∧ ∃ v', e = .returned (.tuple #[v', .int .i64 0]) ∧ OwnS 5 1 w' v' (bys (putR (l.map u64))) ∧ ∀ k, v'.ownBlock = some k → w.heap.size ≤ k)) ∧ Turns [] w w' := by
  obtain ⟨A, c, hA, _⟩ := hv.form
  simp only [ins_len] at hA
  subst hA
  go_enter Try.func76, Try.ntmps76
  go_wp2_with fail
  go_loopw [4, 5] (fun v4 v5 wr => ∃ (k : Nat), k ≤ l.length ∧ v5 = .int .i64 k ∧ OwnS 5 1 wr v4 (bys (putR ((l.take k).map u64))) ∧ (l.take k).all okNum = true ∧ Turns [] w wr ∧ (∀ j, v4.ownBlock = some j → w.heap.size ≤ j)) (fun _ v5 _ => l.length - (intOf v5).toNat)
  case atStart => exact ⟨0, by omega, rfl, by simpa [putR, bys] using OwnS.nil _ _ _, by simp, Turns.refl _ _, by simp [Value.ownBlock]⟩
  case round =>
    obtain ⟨k, hk, rfl, ho, hall, T, hn⟩ := hrel
    by_cases hlt : k < l.length
    · have g1 : decide ((k : Int) < (l.length : Int)) = true := by simp; omega
      obtain ⟨x, hx⟩ : ∃ x, l[k]? = some x := ⟨_, List.getElem?_eq_getElem hlt⟩
      obtain ⟨ad, c', hvv, _, hcell⟩ := hv.at_ (j := k) (r := [.int .i64 x]) (by unfold ins; rw [List.getElem?_map, hx]; rfl)
      injection hvv with e1 e2 e3
      subst e1 e3
      clear e2
      have i0 := T.old (hcell 0 _ rfl)
      rw [Nat.mul_one, Nat.add_zero] at i0
      have hsn : l.take (k + 1) = l.take k ++ [x] := by rw [List.take_add_one, hx]; rfl
      have hnb : putR ((l.take (k + 1)).map u64) = putR ((l.take k).map u64) ++ be8 (u64 x) := by rw [hsn, List.map_append, List.map_cons, List.map_nil, putR_snoc]
      have hxm := List.mem_of_getElem? hx
      by_cases hok : okNum x = true
      · have hall2 : (l.take (k + 1)).all okNum = true := by rw [hsn, List.all_append, hall]; simp [hok]
        have hux : IntKind.u64.wrap x = u64 x := by unfold u64; simp [IntKind.wrap, IntKind.signed, IntKind.bits]
        have hub : 0 ≤ u64 x ∧ u64 x < 18446744073709551616 := by unfold u64; omega
        have hlen : (putR ((l.take k).map u64)).length ≤ 80000 := by rw [putR_len, List.length_map, List.length_take]; omega
        generalize putR ((l.take k).map u64) = cur at *
        have hubh : Hid _ := hub
        have hnbh : Hid _ := hnb
        have hallh : Hid _ := hall2
        clear hsn hnb hall hall2 hub hxm hb hx hv hcell
        go_wp2_with fail
        go_at_call 89
        refine Calls.mono (in_is x _) ?_
        rintro e w2 ⟨rfl, t2⟩
        have j0 := t2.old i0
        go_wp2_with fail
        go_at_call 77
        refine Calls.mono (eight_is (u64 x) hubh.out _) ?_
        rintro e w3 ⟨v3, rfl, ho3, t3, hn3⟩
        have ho4 := (ho.turns t2 (by simp)).turns t3 (by simp)
        have T3 := (T.trans t2).trans t3
        have hs3 := T3.size
        have hz1 : (bys cur).length + (bys (be8 (u64 x))).length ≤ 140737488355328 := by rw [bys_len, bys_len, be8_len]; omega
        go_wp2_with (at_builtin; refine stop_ ?_)
        refine Mk_.mk ?_
        refine wp_append ho4 ho3.reads rfl _ _ _ rfl (.int .u8 0) 1 Try.underlying55 info5 rfl (by decide) rfl rfl (bys_one _) (by rw [Nat.mul_one]; exact hz1) hz1 ?_
        intro v5 w5 ho5 t5 hloc hnil
        rw [← bys_append, ← hnbh.out] at ho5
        have hn5 : ∀ j, v5.ownBlock = some j → w.heap.size ≤ j := fun j hj => by
          rcases hloc with h1 | h1
          · exact hn j (h1 ▸ hj)
          · rw [hj] at h1; injection h1 with h1; omega
        have T5 := T3.then t5 (fun j hj => .inr (hn j (by simpa using hj)))
        go_wp2_with fail
        go_roundw
        case rel => exact ⟨k + 1, by omega, by go_num, ho5, hallh.out, T5, hn5⟩
        case measure => simp [intOf]; omega
      · have hokf : okNum x = false := by simpa using hok
        have hallf : l.all okNum = false := by rw [Bool.eq_false_iff]; intro h1; rw [List.all_eq_true] at h1; exact hok (h1 x hxm)
        have hallh : Hid _ := hallf
        clear hsn hnb hall hallf hxm hb hx hv hcell hok
        go_wp2_with fail
        go_at_call 89
        refine Calls.mono (in_is x _) ?_
        rintro e w2 ⟨rfl, t2⟩
        go_wp2_with fail
        go_ret2
        exact ⟨.inl ⟨hallh.out, rfl⟩, T.trans t2⟩
    · obtain rfl : k = l.length := by omega
      have g1 : decide ((l.length : Int) < (l.length : Int)) = false := by simp
      rw [List.take_length] at ho hall
      have hallh : Hid _ := hall
      clear hall
      go_wp2_with fail
      go_ret2
      exact ⟨.inr ⟨hallh.out, _, rfl, ho, hn⟩, T⟩
end Go.Proofs.Ytohokckpheljbaa.Kp
