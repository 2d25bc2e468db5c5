/- frame.Right: whether a frame may be. -/
import Derived.Test.YtohokckpheljbaaFk
import Derived.Test.YtohokckpheljbaaFl
import Derived.Test.YtohokckpheljbaaFm
import Derived.Test.YtohokckpheljbaaFn
set_option linter.unusedVariables false
set_option linter.unusedSimpArgs false
set_option maxRecDepth 100000
namespace Go.Proofs.Ytohokckpheljbaa.Fo
open Go.RowKit Go.MapKept Go.Shelf Hm Hs Hf Hg Hx Hy Hv Fa Fb Ff Fg Fi Fj
theorem right_is (w : World) (f : Fr) (sv rv : Value) (h : TokR w f.tok sv rv) (hn : f.tok.st.length ≤ 100000) : Calls Try.prog 23 #[frv f sv rv] w fun e w' => e = .returned (.bool (rightB f)) ∧ Turns [] w w' := by
  unfold rightB
  cases hf : inB f.frm 0 63 with
  | true =>
    cases ht : inB f.to 0 63 with
    | true =>
      simp only [Bool.true_and]
      cases g1 : (f.gen == 0) with
      | true =>
        cases hb : bareB f with
        | true => rw [← hb]; exact Fn.way_is w f sv rv h hn hf ht hb
        | false => rw [← hb]; exact Fm.way_is w f sv rv h hn hf ht g1 hb
      | false =>
        by_cases hk : decide (f.tok = Tok.zero) = true ∧ inB f.gen 1 1099511627776 = true
        · exact Fl.way_is w f sv rv h hn hf ht g1 hk.1 hk.2
        · exact Fk.way_is w f sv rv h hn hf ht g1 (fun he => by
            cases hg : inB f.gen 1 1099511627776 with
            | true => exact absurd ⟨he, hg⟩ hk
            | false => rfl)
    | false =>
      have T0 := (Turns.refl [] w).alloc (.cells (frc f sv rv) 41)
      have B0 := Blk.new w (frc f sv rv) 41
      have I1 := Lib.hid (fun w => in_is f.frm 0 63 w)
      have I2 := Lib.hid (fun w => in_is f.to 0 63 w)
      rw [hf] at I1
      rw [ht] at I2
      obtain ⟨A1, c1, rfl, _⟩ := rform h.st
      obtain ⟨A3, c3, rfl, _⟩ := h.rows.form
      unfold frv
      clear h hf ht
      have x1 : World.cell? (w.alloc (.cells (frc f (.slice A1 f.tok.st.length c1) (.slice A3 f.tok.rows.length c3)) 41)) ⟨w.heap.size, 1, none⟩ = some _ := (B0).cell 1
      go_enter Try.func23, Try.ntmps23
      go_wp2_with fail
      go_at_call 60
      refine Calls.mono (I1.out _) ?_
      rintro e w1 ⟨rfl, t1⟩
      have B1 := B0.turns t1 (by simp)
      clear x1
      have x2 : World.cell? (w1) ⟨w.heap.size, 2, none⟩ = some _ := (B1).cell 2
      go_wp2_with fail
      go_at_call 60
      refine Calls.mono (I2.out _) ?_
      rintro e w2 ⟨rfl, t2⟩
      go_wp2_with fail
      go_ret
      exact ⟨rfl, (T0.trans t1).trans t2⟩
  | false =>
    have T0 := (Turns.refl [] w).alloc (.cells (frc f sv rv) 41)
    have B0 := Blk.new w (frc f sv rv) 41
    have I1 := Lib.hid (fun w => in_is f.frm 0 63 w)
    rw [hf] at I1
    obtain ⟨A1, c1, rfl, _⟩ := rform h.st
    obtain ⟨A3, c3, rfl, _⟩ := h.rows.form
    unfold frv
    clear h hf
    have x1 : World.cell? (w.alloc (.cells (frc f (.slice A1 f.tok.st.length c1) (.slice A3 f.tok.rows.length c3)) 41)) ⟨w.heap.size, 1, none⟩ = some _ := (B0).cell 1
    go_enter Try.func23, Try.ntmps23
    go_wp2_with fail
    go_at_call 60
    refine Calls.mono (I1.out _) ?_
    rintro e w1 ⟨rfl, t1⟩
    go_wp2_with fail
    go_ret
    exact ⟨rfl, T0.trans t1⟩
end Go.Proofs.Ytohokckpheljbaa.Fo
