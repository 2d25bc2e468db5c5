/- annonalaw05's Fits; the document's Same. -/
import Derived.Test.YtphhfdlhkginkaaFr
import Derived.Test.YtphhfdlhkginkaaFh
import Derived.Test.YtphhfdlhkginkaaFj
set_option linter.unusedVariables false
set_option linter.unusedSimpArgs false
set_option maxRecDepth 100000
namespace Go.Proofs.Ytphhfdlhkginkaa.Nr
open Go.RowKit Go.MapKept Go.Shelf Hm Hs Hf Hx Hy Hv Fa Fb Ff Fg Fi Fj Fq Fr_
def outB (t : Tok) : Bool := t.rows.all fun r => decide (r.out.length ≤ 100)
def fitsB (t : Tok) : Bool := decide (t.st.length ≤ 100) && (decide (t.rows.length ≤ 100) && outB t)
theorem fitsB_eq (t : Tok) : fitsB t = true ↔ fitsT t := by
  unfold fitsB fitsT outB
  simp
set_option maxHeartbeats 2000000 in
theorem fitsToken_is (w : World) (t : Tok) (sv rv : Value) (h : TokR w t sv rv) : Calls Try.prog 27 #[tkv t sv rv] w fun e w' => e = .returned (.bool (fitsB t)) ∧ Turns [] w w' := by
  have T0 := (Turns.refl [] w).alloc (.cells #[.int .i64 t.gen, .int .i64 t.hop, sv, .int .i64 t.start, rv] 60)
  have b0 := Blk.new w #[.int .i64 t.gen, .int .i64 t.hop, sv, .int .i64 t.start, rv] 60
  obtain ⟨X, hX⟩ : ∃ X : Ending → World → Prop, X = fun e w' => e = .returned (.bool (fitsB t)) ∧ Turns [] w w' := ⟨_, rfl⟩
  rw [← hX]
  have hXh : Hid (∀ b w', fitsB t = b → Turns [] w w' → X (.returned (.bool b)) w') := Lib.hid (fun b w' h t => by rw [hX]; exact ⟨by rw [h], t⟩)
  have hrh := Lib.hid h.rows
  obtain ⟨A, c, rfl, _⟩ := rform h.st
  obtain ⟨B, d, rfl, _⟩ := h.rows.form
  unfold tkv
  have c2 : World.cell? (w.alloc (.cells #[.int .i64 t.gen, .int .i64 t.hop, .slice A t.st.length c, .int .i64 t.start, .slice B t.rows.length d] 60)) ⟨w.heap.size, 2, none⟩ = some _ := (b0).cell 2
  have c4 : World.cell? (w.alloc (.cells #[.int .i64 t.gen, .int .i64 t.hop, .slice A t.st.length c, .int .i64 t.start, .slice B t.rows.length d] 60)) ⟨w.heap.size, 4, none⟩ = some _ := (b0).cell 4
  clear hX h b0
  by_cases h1 : (t.st.length : Int) > 100
  · have g1 := decide_eq_true h1
    have hX := hXh.out false _ (by unfold fitsB; rw [decide_eq_false (by omega : ¬ t.st.length ≤ 100)]; rfl) T0
    clear h1
    go_enter Try.func27, Try.ntmps27
    go_wp2_with fail
    exact hX
  · have g1 : decide ((t.st.length : Int) > 100) = false := decide_eq_false h1
    by_cases h2 : (t.rows.length : Int) > 100
    · have g2 := decide_eq_true h2
      have hX := hXh.out false _ (by unfold fitsB; rw [decide_eq_false (by omega : ¬ t.rows.length ≤ 100), Bool.false_and, Bool.and_false]) T0
      clear h1 h2
      go_enter Try.func27, Try.ntmps27
      go_wp2_with fail
      exact hX
    · have g2 : decide ((t.rows.length : Int) > 100) = false := decide_eq_false h2
      have hfo : Hid (fitsB t = outB t) := Lib.hid (by unfold fitsB; rw [decide_eq_true (by omega : t.st.length ≤ 100), decide_eq_true (by omega : t.rows.length ≤ 100)]; rfl)
      clear h1 h2
      generalize hw0 : w.alloc (.cells #[.int .i64 t.gen, .int .i64 t.hop, .slice A t.st.length c, .int .i64 t.start, .slice B t.rows.length d] 60) = w0 at *
      go_enter Try.func27, Try.ntmps27
      go_wp2_with fail
      try rw [hw0]
      clear hw0
      go_loopw [3] (fun v3 wr => ∃ (k : Nat), k ≤ t.rows.length ∧ v3 = .int .i64 k ∧ wr = w0 ∧ outB t = (t.rows.drop k).all fun r => decide (r.out.length ≤ 100)) (fun v3 _ => t.rows.length - (RowKit.intOf v3).toNat)
      case atStart => exact ⟨0, by omega, rfl, rfl, rfl⟩
      case round =>
        obtain ⟨k, hk, rfl, rfl, hin⟩ := hrel
        by_cases hlt : k < t.rows.length
        · have g7 : decide ((k : Int) < (t.rows.length : Int)) = true := decide_eq_true (by omega)
          have g7b : decide (k < t.rows.length) = true := decide_eq_true hlt
          obtain ⟨x, hx⟩ : ∃ x, t.rows[k]? = some x := ⟨_, List.getElem?_eq_getElem hlt⟩
          obtain ⟨ad, c', x', hv, hxr, Lc⟩ := hrh.out.at_ hx
          injection hv with e1 e2 e3
          subst e1 e3
          have i0 := T0.old Lc.o
          obtain ⟨A4, c4, hout, _⟩ := ls_form hxr.out
          rw [hout] at i0
          rw [drop_cons hx, List.all_cons] at hin
          clear e2 Lc
          by_cases h3 : (x.out.length : Int) > 100
          · have g3 := decide_eq_true h3
            have hX := hXh.out false _ (by rw [hfo.out, hin, decide_eq_false (by omega : ¬ x.out.length ≤ 100)]; rfl) T0
            clear h3 hin hx hout
            go_wp2_with fail
            exact hX
          · have g3 : decide ((x.out.length : Int) > 100) = false := decide_eq_false h3
            rw [decide_eq_true (by omega : x.out.length ≤ 100), Bool.true_and] at hin
            have hinh := Lib.hid hin
            clear h3 hin hx hout
            go_wp2_with fail
            go_roundw
            case rel => exact ⟨k + 1, by omega, by go_num, by first | rfl | trivial, hinh.out⟩
            case measure => simp [RowKit.intOf]; omega
        · obtain rfl : k = t.rows.length := by omega
          have g7 : decide ((t.rows.length : Int) < (t.rows.length : Int)) = false := by simp
          rw [List.drop_length] at hin
          have hX := hXh.out true _ (by rw [hfo.out, hin]; rfl) T0
          clear hin
          go_wp2_with fail
          exact hX
def sameFB (f g : Fr) : Bool := (f.kind == g.kind) && ((f.frm == g.frm) && ((f.dst == g.dst) && ((f.gen == g.gen) && ((f.hop == g.hop) && ((f.bits == g.bits) && decide (f.tok = g.tok))))))
theorem sameFB_eq (f g : Fr) : sameFB f g = decide (f = g) := by
  unfold sameFB
  obtain ⟨a1, a2, a3, a4, a5, a6, a7⟩ := f
  obtain ⟨b1, b2, b3, b4, b5, b6, b7⟩ := g
  rw [Bool.eq_iff_iff]
  simp
end Go.Proofs.Ytphhfdlhkginkaa.Nr
