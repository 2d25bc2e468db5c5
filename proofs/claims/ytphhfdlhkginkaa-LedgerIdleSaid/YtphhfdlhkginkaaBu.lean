/- slices.Delete of one lease; the ledger's Settle. -/
import Derived.Test.YtphhfdlhkginkaaBj
import Derived.Test.YtphhfdlhkginkaaBl
import Derived.Test.YtphhfdlhkginkaaWg
import Derived.Deep.Slices
set_option linter.unusedVariables false
set_option linter.unusedSimpArgs false
set_option maxRecDepth 100000
namespace Go.Proofs.Ytphhfdlhkginkaa.Bu
open Go.RowKit Go.MapKept Hm Hs Hf Hx Hy Hv Hz Hu Fa Ff Fq Ba Bb Bc Bi Bj Bl
theorem zeroLs (w : World) : (zeroValue 76).run Try.prog w = .ok (.agg #[.int .i64 0, .int .i64 0]) w := by kernel_rfl
theorem zeroLsOne : ∀ u ∈ (Value.agg #[.int .i64 0, .int .i64 0]).cells, u.oneCell' = true := by
  intro u hu
  have h0 : u ∈ (Value.agg #[.int .i64 0, .int .i64 0]).cells.toList := Array.mem_def.1 hu
  have this : u ∈ [Value.int .i64 0, .int .i64 0] := h0
  simp at this
  subst this
  rfl
theorem cut_rows {α : Type} {l : List α} {i : Nat} (hi : i < l.length) : (l.take i ++ l.drop (i + 1) ++ l.drop (i + (l.length - (i + 1)))).take (l.length - 1) = l.eraseIdx i := by
  rw [List.take_append_of_le_length (by rw [List.length_append, List.length_take, List.length_drop]; omega), List.take_of_length_le (by rw [List.length_append, List.length_take, List.length_drop]; omega), List.eraseIdx_eq_take_drop_succ]
set_option maxHeartbeats 1000000 in
theorem delete_is (w : World) (v : Value) (l : List (Int × Int)) (i : Nat) (h : OwnS 76 2 w v (lss l)) (hi : i < l.length) (hn : l.length ≤ 100000) : Calls Try.prog 62 #[v, .int .i64 i, .int .i64 ((i : Int) + 1)] w fun e w' => ∃ u, e = .returned u ∧ OwnS 76 2 w' u (lss (l.eraseIdx i)) ∧ Turns v.ownBlock.toList w w' ∧ u.ownBlock = v.ownBlock := by
  obtain ⟨A, c, rfl, hc, hcm, hnil⟩ := h.form
  rw [lss_len] at *
  cases A with
  | none => have := hnil rfl; omega
  | some ad =>
    have q1 : (((i : Int)) == (i : Int) + 1) = false := by simp; omega
    have q2 : (i : Int) + 1 ≤ (l.length : Int) := by omega
    have q3 : (i : Int) ≤ (l.length : Int) := by omega
    have q4 : (i : Int) ≤ (c : Int) := by omega
    have q5 : (i : Int) + 1 ≤ (c : Int) := by omega
    have q6 : (l.length : Int) ≤ (c : Int) := by omega
    have q7 : (0 : Int) ≤ (i : Int) + 1 := by omega
    have hrd := h.reads
    obtain ⟨b, hb, hbc⟩ : ∃ b : Addr, (if c = i + 1 then some ad else some (ad.add ((i + 1) * 2))) = some b ∧ ∀ j u, (lss (l.drop (i + 1))).flatten[j]? = some u → w.cell? (b.add j) = some u := by
      by_cases hcj : c = i + 1
      · refine ⟨ad, by rw [if_pos hcj], fun j u hj => ?_⟩
        rw [List.drop_of_length_le (by omega)] at hj
        simp [lss] at hj
      · refine ⟨ad.add ((i + 1) * 2), by rw [if_neg hcj], fun j u hj => ?_⟩
        rw [Go.Deep.add_add]
        refine hrd.cells (by decide) ad _ c rfl _ u ?_
        unfold lss at hj
        rw [List.map_drop, Hu.flatten_drop (sz := 2) _ _ (fun r hr => by obtain ⟨x, _, rfl⟩ := List.mem_map.1 hr; rfl), List.getElem?_drop] at hj
        exact hj
    have hln : (l.drop (i + 1)).length = l.length - (i + 1) := List.length_drop
    have hcut := cut_rows hi
    obtain ⟨Dr, hDr⟩ : ∃ Dr, l.drop (i + 1) = Dr := ⟨_, rfl⟩
    have e1 : i + (lss Dr).length = l.length - 1 := by rw [lss_len, ← hDr, hln]; omega
    have hbh := Lib.hid hbc
    rw [hDr] at hcut hln hbh
    have hlnh := Lib.hid hln
    have e1h := Lib.hid e1
    rw [show i + (l.length - (i + 1)) = l.length - 1 from by omega] at hcut
    have hcuth := Lib.hid hcut
    clear hDr hcut hbc hrd hln e1
    have hh := Lib.hid h
    clear h hnil
    go_enter Try.func62, Try.ntmps62
    go_wp2_with fail
    have hh2 := Lib.hid (hh.out.turns (Turns.refl [] w).drew (by simp))
    have T0 := (Turns.refl [ad.block] w).drew
    have T00 := (Turns.refl [] w).drew
    clear hh
    go_wp2_with fail
    refine wp_region_flo [(0, true), (1, true), (2, true), (3, true), (4, true), (5, true), (6, false), (7, true)] (fun W => True) (by kernel_rfl) rfl (by kernel_rfl) (by intro c d v a w h; cases d <;> first | (simpa [Exit.then, Exit.inBlock, Act.put] using h) | exact h) (trivial) ?_
    generalize w.drew = w1 at *
    refine flo_read _ rfl (fun K hK => ?_)
    go_simp
    first | (refine hK _ ?_) | (refine ⟨fun W hS => ?_, hK _ ?_⟩; · (skip; try go_simp))
    clear hK K
    refine flo_read _ rfl (fun K hK => ?_)
    go_simp
    first | (refine hK _ ?_) | (refine ⟨fun W hS => ?_, hK _ ?_⟩; · (skip; try go_simp))
    clear hK K
    refine flo_read _ rfl (fun K hK => ?_)
    go_simp
    first | (refine hK _ ?_) | (refine ⟨fun W hS => ?_, hK _ ?_⟩; · (skip; try go_simp))
    clear hK K
    refine flo_read _ rfl (fun K hK => ?_)
    go_simp
    first | (refine hK _ ?_) | (refine ⟨fun W hS => ?_, hK _ ?_⟩; · (skip; try go_simp))
    clear hK K
    refine flo_read _ rfl (fun K hK => ?_)
    go_simp
    first | (refine hK _ ?_) | (refine ⟨fun W hS => ?_, hK _ ?_⟩; · (skip; try go_simp))
    clear hK K
    refine flo_read _ rfl (fun K hK => ?_)
    go_simp
    first | (refine hK _ ?_) | (refine ⟨fun W hS => ?_, hK _ ?_⟩; · (skip; try go_simp))
    clear hK K
    refine flo_alone _ rfl ?_
    refine Hu.wp_append_cut (news := lss Dr) hh2.out rfl _ _ rfl (.agg #[.int .i64 0, .int .i64 0]) 16 Try.underlying36 infoLs i ?_ b (c - (i + 1)) rfl ?_ ?_ ?_ (lss_one _) ?_
    · have := e1h.out; omega
    · rw [lss_len, hlnh.out]; rfl
    · intro r hr; obtain ⟨x, _, rfl⟩ := List.mem_map.1 hr; rfl
    · exact fun j u hj => T00.old (hbh.out j u hj)
    intro w2 o2 t2
    have T2 := T0.trans t2
    rw [e1h.out] at o2 ⊢
    have hl1 : (lss l).take i ++ lss Dr ++ (lss l).drop (l.length - 1) = lss (l.take i ++ Dr ++ l.drop (l.length - 1)) := by unfold lss; simp
    rw [hl1] at o2
    have hcut2 := hcuth.out
    generalize l.take i ++ Dr ++ l.drop (l.length - 1) = M at *
    obtain ⟨n, hnn⟩ : ∃ n, l.length - 1 = n := ⟨_, rfl⟩
    rw [hnn] at hcut2 ⊢
    have hnl : l.length = n + 1 := by omega
    have p1 : (n : Int) ≤ (c : Int) := by omega
    have p2 : (n : Int) ≤ (l.length : Int) := by omega
    have p3 : ¬ c = n := by omega
    have p3b : ¬ n = c := by omega
    have o2h := Lib.hid o2
    have hcut2h := Lib.hid hcut2
    have nlt := Lib.hid (show n < l.length by omega)
    clear o2 hcut2 hnl hnn hh2 hcuth
    go_wp2_with fail
    refine ⟨fun _ => True, fun _ h => h, trivial, ?_⟩
    refine flo_read _ rfl (fun K hK => ?_)
    go_simp
    first | (refine hK _ ?_) | (refine ⟨fun W hS => ?_, hK _ ?_⟩; · (skip; try go_simp))
    clear hK K
    refine flo_end ?_
    go_wp2_with (refine Hz.wp_clear_tail o2h.out rfl _ rfl Try.underlying36 _ (zeroLs _) rfl zeroLsOne (by decide) n nlt.out rfl ?_; intro w3 o3 t3)
    rw [show (lss M).take n = lss (M.take n) from by unfold lss; rw [List.map_take], hcut2h.out] at o3
    have T3 := T2.trans t3
    clear t3 t2 T2 T0 o2h
    go_wp2_with fail
    go_ret
    exact ⟨_, rfl, o3, by simpa [Value.ownBlock] using T3, rfl⟩

end Go.Proofs.Ytphhfdlhkginkaa.Bu
