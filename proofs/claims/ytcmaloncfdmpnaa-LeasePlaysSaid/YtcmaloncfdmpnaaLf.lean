/- The walks of the document's wallet: Drop, Spend. -/
import Derived.Test.YtcmaloncfdmpnaaLe
import Derived.Test.YtcmaloncfdmpnaaHy
set_option linter.unusedVariables false
set_option linter.unusedSimpArgs false
set_option maxRecDepth 100000
namespace Go.Proofs.Ytcmaloncfdmpnaa.Lf
open Go.RowKit Go.MapKept Hm Hs Hf Hg Hk Hx Hy Hv Hl Sm Sat Wa Lw La Lb Ld Le
def stays (g : Int) (x : Lea) : Bool := !decide (x.gen < g)
set_option maxHeartbeats 1000000 in
theorem drop_is (w : World) (d : Nat) (lv : Value) (R : List Lea) (g : Int) (h : Got (rw11 d lv R) w) (hn : R.length ≤ 100000) : Calls Try.prog 113 #[.pointer (some ⟨d, 0, none⟩), .int .i64 g] w (DOut w d lv R (R.filter (stays g)) (.int .i64 ((R.length : Int) - ((R.filter (stays g)).length : Int)))) := by
  have H := h.sep
  have hG := fun i w lv C h hc => gone_is w d lv C i h hc
  generalize hFF : fps (rw11 d lv R) = FF at H
  obtain ⟨A, c, rfl, _⟩ := (H.own 1 rfl).form
  have hX : ∀ w' lv', Sep FF w (rw11 d lv' (R.filter (stays g))) w' → DOut w d (.slice A (R.map Lea.cells).length c) R (R.filter (stays g)) (.int .i64 ((R.length : Int) - ((R.filter (stays g)).length : Int))) (.returned (.int .i64 ((R.length : Int) - ((R.filter (stays g)).length : Int)))) w' := fun w' lv' h1 => ⟨rfl, lv', by rw [hFF]; exact h1⟩
  generalize DOut w d (.slice A (R.map Lea.cells).length c) R (R.filter (stays g)) (.int .i64 ((R.length : Int) - ((R.filter (stays g)).length : Int))) = X at *
  rw [List.length_map] at H
  have hXh := Lib.hid hX
  have hGh := Lib.hid hG
  clear hX hFF h hG
  have hw0 : IntKind.i64.wrap ((R.length : Int) - 1) = (R.length : Int) - 1 := IntWalk.i64_in _ (by omega)
  have c0 : World.cell? (w) ⟨d, 0, none⟩ = some _ := (H.blk 0 rfl).cell 0
  go_enter Try.func113, Try.ntmps113
  go_wp2_with fail
  go_loopw [5, 6] (fun v5 v6 wr => ∃ (k : Nat) (lv : Value), k ≤ R.length ∧ v5 = .int .i64 (((R.drop k).length : Int) - (((R.drop k).filter (stays g)).length : Int)) ∧ v6 = .int .i64 ((k : Int) - 1) ∧ Sep FF w (rw11 d lv (R.take k ++ (R.drop k).filter (stays g))) wr) (fun _ v6 _ => (RowKit.intOf v6 + 1).toNat)
  case atStart => exact ⟨R.length, _, by omega, by simp, rfl, by simpa using H⟩
  case round =>
    obtain ⟨k, lv, hk, rfl, rfl, H1⟩ := hrel
    clear H c0
    have H := H1
    clear H1
    rcases Nat.eq_zero_or_pos k with h0 | h0
    · subst h0
      have g1 : decide (((0 : Nat) : Int) - 1 ≥ 0) = false := by simp
      have hX := hXh.out _ _ H
      clear H
      go_wp2_with fail
      exact hX
    · obtain ⟨j, rfl⟩ : ∃ j, k = j + 1 := ⟨k - 1, by omega⟩
      have e1 : ((j + 1 : Nat) : Int) - 1 = (j : Int) := by omega
      rw [e1]
      have g1 : decide ((j : Int) ≥ 0) = true := by simp
      obtain ⟨x, hx⟩ : ∃ x, R[j]? = some x := ⟨_, List.getElem?_eq_getElem (by omega)⟩
      have hdc := drop_cons hx
      have htk : (R.take j).length = j := by rw [List.length_take]; omega
      have htk1 : R.take (j + 1) = R.take j ++ [x] := by rw [List.take_add_one, hx]; rfl
      have hfl := List.length_filter_le (stays g) (R.drop (j + 1))
      have hdl := List.length_drop (i := j + 1) (l := R)
      generalize hFq : (R.drop (j + 1)).filter (stays g) = Fq at *
      have hCx : (R.take (j + 1) ++ Fq)[j]? = some x := by rw [htk1, List.append_assoc, List.getElem?_append_right (by omega), htk]; simp
      have hCl : (R.take (j + 1) ++ Fq).length ≤ R.length := by rw [List.length_append, htk1, List.length_append, htk]; simp; omega
      have hCe : (R.take (j + 1) ++ Fq).eraseIdx j = R.take j ++ Fq := by
        rw [htk1, List.append_assoc, List.eraseIdx_append_of_length_le (by omega), htk, Nat.sub_self]
        rfl
      have hC2 : R.take (j + 1) ++ Fq = R.take j ++ (x :: Fq) := by rw [htk1, List.append_assoc]; rfl
      have hst : stays g x = !decide (x.gen < g) := rfl
      have hwn : ∀ n : Int, n = ((R.drop (j + 1)).length : Int) - (Fq.length : Int) → IntKind.i64.wrap (n + 1) = n + 1 := fun n hn => IntWalk.i64_in _ (by omega)
      have hnn : ∃ n : Int, n = ((R.drop (j + 1)).length : Int) - (Fq.length : Int) := ⟨_, rfl⟩
      obtain ⟨n, hnn⟩ := hnn
      have hwn := hwn n hnn
      rw [← hnn]
      have hnnh := Lib.hid hnn
      have hdch := Lib.hid hdc
      have hFqh := Lib.hid hFq
      obtain ⟨B, c2, rfl, _⟩ := formM (H.own 1 rfl)
      obtain ⟨ad, c', hv, L⟩ := lcells_at (H.own 1 rfl).reads hCx
      generalize hC : R.take (j + 1) ++ Fq = C at *
      have hC2h := Lib.hid hC2
      injection hv with q1 q2 q3
      subst q1 q3
      have i1 := L.g
      have c0 : World.cell? (wr) ⟨d, 0, none⟩ = some _ := (H.blk 0 rfl).cell 0
      have hjC : j < C.length := (List.getElem?_eq_some_iff.1 hCx).1
      have htk1h := Lib.hid htk1
      clear hx hdc htk hfl hdl hFq hCx q2 L hnn hC htk1 hC2
      by_cases hg : x.gen < g
      · have g2 := decide_eq_true hg
        rw [g2] at hst
        have hsth := Lib.hid (show stays g x = false from hst)
        have hGc := hGh.out j wr (.slice (some ad) C.length c2) C (H.got [0, 1]) (by omega)
        rw [hCe] at hGc
        have hGch := Lib.hid hGc
        clear hg hst hGc hCe
        go_wp2_with fail
        go_at_call 145
        refine Calls.mono (hGch.out) ?_
        rintro e w2 ⟨rfl, lv2, h2⟩
        replace H := H.call [0, 1] h2
        clear h2 hGch c0 i1
        go_wp2_with fail
        go_roundw
        case rel =>
          have e3 : (R.drop j).filter (stays g) = Fq := by rw [hdch.out, List.filter_cons, hsth.out]; exact hFqh.out
          refine ⟨j, lv2, by omega, ?_, by go_num, by rw [e3]; exact H⟩
          rw [e3, hdch.out, List.length_cons, hnnh.out]
          congr 1
          omega
        case measure => simp [RowKit.intOf]
      · have g2 : decide (x.gen < g) = false := decide_eq_false hg
        rw [g2] at hst
        have hsth := Lib.hid (show stays g x = true from hst)
        clear hg hst hCe
        go_wp2_with fail
        go_roundw
        case rel =>
          have e3 : (R.drop j).filter (stays g) = x :: Fq := by rw [hdch.out, List.filter_cons, hsth.out, if_pos rfl, hFqh.out]
          refine ⟨j, .slice (some ad) C.length c2, by omega, ?_, by go_num, ?_⟩
          · rw [e3, hdch.out, List.length_cons, List.length_cons, hnnh.out]
            congr 1
            omega
          · rw [e3]
            rw [← hC2h.out]
            exact H
        case measure => simp [RowKit.intOf]
end Go.Proofs.Ytcmaloncfdmpnaa.Lf
