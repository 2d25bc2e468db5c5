/- The law RingNth. -/
import Derived.Test.YtmaielpfeajelaaDoorRi
set_option linter.unusedVariables false
set_option linter.unusedSimpArgs false
set_option maxRecDepth 100000
namespace Go.Proofs.YtmaielpfeajelaaDoor.Rj
open Go.RowKit Go.Shelf Go.ChangeShapes Go.WideShapes Hm Hs Hv Hc Hd Hx Hy Ho Hn Ha Ra Rg Rb Rc Rd Rh Re Rf Ri
set_option maxHeartbeats 4000000 in
theorem nthLaw_go (v : Value) (l : List Int) (m xv : Int) (ok : Bool) (w : World) (hT : Tab w) (h : RdS 1 w v (ins l)) (hn : l.length ≤ 200)
    (h1 : Hid (∀ W, Turns [] w W → Calls Tryd.prog 36 #[v, .int .i64 m] W fun e w' => e = .returned (.tuple #[.int .i64 xv, .bool ok]) ∧ Turns [] W w'))
    (h2 : Hid (∀ W, Turns [] w W → Calls Tryd.prog 37 #[v, .int .i64 m] W fun e w' => e = .returned (.tuple #[.int .i64 xv, .bool ok]) ∧ Turns [] W w'))
    (hf : ok = true → (more l xv : Int) < m ∧ m ≤ (least l xv : Int)) :
    Calls Tryd.prog 6 #[v, .int .i64 m] w fun e w' => e = .returned (.bool true) ∧ Turns [] w w' := by
  have hTh := Lib.hid hT
  have hh := Lib.hid h
  have hfh := Lib.hid hf
  obtain ⟨A, c, rfl, _⟩ := h.form
  rw [ins_len] at hh h1 h2 ⊢
  have g1 : decide ((l.length : Int) > 200) = false := decide_eq_false (by omega)
  have g1b : ¬ 200 < l.length := by omega
  obtain ⟨X, hX⟩ : ∃ X : Ending → World → Prop, X = fun e w' => e = .returned (.bool true) ∧ Turns [] w w' := ⟨_, rfl⟩
  rw [← hX]
  have hXh : Hid (∀ w', Turns [] w w' → X (.returned (.bool true)) w') := Lib.hid (fun w' t => by rw [hX]; exact ⟨rfl, t⟩)
  have gok : (ok != ok) = false := by cases ok <;> rfl
  clear h hX hT hf
  go_enter Tryd.func6, Tryd.ntmps6
  go_wp2_with fail
  go_at_call 36
  refine Calls.mono (h1.out _ (Turns.refl _ _)) ?_
  rintro e w1 ⟨rfl, t1⟩
  go_wp2_with fail
  go_at_call 37
  refine Calls.mono (h2.out _ t1) ?_
  rintro e w2 ⟨rfl, t2⟩
  have T2 := t1.trans t2
  clear t1 t2 h1 h2
  go_wp2_with fail
  go_loopw [9, 10, 11] (fun v9 v10 v11 wr => ∃ (k : Nat), k ≤ l.length ∧ v11 = .int .i64 k ∧ v9 = .int .i64 (more (l.take k) xv) ∧ v10 = .int .i64 (least (l.take k) xv) ∧ Turns [] w wr) (fun _ _ v11 _ => l.length - (RowKit.intOf v11).toNat)
  case atStart => exact ⟨0, by omega, rfl, rfl, rfl, T2⟩
  case round =>
    clear T2
    obtain ⟨k, hk, rfl, rfl, rfl, T⟩ := hrel
    have hm1 := more_le (l.take k) xv
    have hm2 := least_le (l.take k) xv
    rw [List.length_take] at hm1 hm2
    by_cases hlk : k < l.length
    · have g4 : decide ((k : Int) < (l.length : Int)) = true := by simp; omega
      obtain ⟨x, hx⟩ : ∃ x, l[k]? = some x := ⟨_, List.getElem?_eq_getElem hlk⟩
      obtain ⟨ad, c', hv, L⟩ := Re.icell hh.out hx
      injection hv with e1 e2 e3
      subst e1 e3
      have i0 := T.old L
      have hmn := more_next (y := xv) hx
      have hsn := least_next (y := xv) hx
      generalize more (l.take k) xv = a at *
      generalize least (l.take k) xv = b at *
      have hmnh := Lib.hid hmn
      have hsnh := Lib.hid hsn
      have hwa : IntKind.i64.wrap ((a : Int) + 1) = ((a + 1 : Nat) : Int) := by rw [IntWalk.i64_in _ (by omega)]; omega
      have hwb : IntKind.i64.wrap ((b : Int) + 1) = ((b + 1 : Nat) : Int) := by rw [IntWalk.i64_in _ (by omega)]; omega
      clear hx L e2 hmn hsn
      by_cases c1 : x > xv
      · have q1 : decide (x > xv) = true := decide_eq_true c1
        have q2 : decide (x ≥ xv) = true := decide_eq_true (by omega)
        have e8 := hmnh.out
        have e9 := hsnh.out
        rw [if_pos c1] at e8
        rw [if_pos (by omega)] at e9
        have e8h := Lib.hid e8
        have e9h := Lib.hid e9
        clear c1 e8 e9
        go_wp2_with fail
        go_roundw
        case rel => exact ⟨k + 1, by omega, by go_num, by rw [e8h.out]; go_num, by rw [e9h.out]; go_num, T⟩
        case measure => simp [RowKit.intOf]; omega
      · have q1 : decide (x > xv) = false := decide_eq_false c1
        have e8 := hmnh.out
        rw [if_neg c1] at e8
        have e8h := Lib.hid e8
        clear e8
        by_cases c2 : x ≥ xv
        · have q2 : decide (x ≥ xv) = true := decide_eq_true c2
          have e9 := hsnh.out
          rw [if_pos c2] at e9
          have e9h := Lib.hid e9
          clear c1 c2 e9
          go_wp2_with fail
          go_roundw
          case rel => exact ⟨k + 1, by omega, by go_num, by rw [e8h.out]; rfl, by rw [e9h.out]; go_num, T⟩
          case measure => simp [RowKit.intOf]; omega
        · have q2 : decide (x ≥ xv) = false := decide_eq_false c2
          have e9 := hsnh.out
          rw [if_neg c2] at e9
          have e9h := Lib.hid e9
          clear c1 c2 e9
          go_wp2_with fail
          go_roundw
          case rel => exact ⟨k + 1, by omega, by go_num, by rw [e8h.out]; rfl, by rw [e9h.out]; rfl, T⟩
          case measure => simp [RowKit.intOf]; omega
    · obtain rfl : k = l.length := by omega
      have g4 : decide ((l.length : Int) < (l.length : Int)) = false := by simp
      rw [List.take_length] at hm1 hm2 ⊢
      generalize more l xv = a at *
      generalize least l xv = b at *
      have Ah := Lib.hid (alive_is _ (hTh.out.turns T))
      cases ok with
      | false =>
        go_wp2_with fail
        go_at_call 35
        refine Calls.mono (Ah.out) ?_
        rintro e w3 ⟨rfl, t3⟩
        have hX := hXh.out _ (T.trans t3)
        go_wp2_with fail
        exact hX
      | true =>
        obtain ⟨f1, f2⟩ := hfh.out rfl
        have q1 : decide ((a : Int) < m) = true := decide_eq_true f1
        have q2 : decide ((b : Int) ≥ m) = true := decide_eq_true f2
        go_wp2_with fail
        go_at_call 35
        refine Calls.mono (Ah.out) ?_
        rintro e w3 ⟨rfl, t3⟩
        have hX := hXh.out _ (T.trans t3)
        go_wp2_with fail
        exact hX
theorem nthLaw_is (v : Value) (l : List Int) (m : Int) (hm : -9223372036854775808 ≤ m ∧ m ≤ 9223372036854775807) (w : World) (hT : Tab w) (h : RdS 1 w v (ins l)) :
    Calls Tryd.prog 6 #[v, .int .i64 m] w fun e w' => e = .returned (.bool true) ∧ Turns [] w w' := by
  by_cases hn : l.length ≤ 200
  · obtain ⟨A, c, rfl, _⟩ := h.form
    have hl : (ins l).length = l.length := ins_len l
    by_cases h1 : m < 1 ∨ m > ((ins l).length : Int)
    · exact nthLaw_go _ l m 0 false w hT h hn (Lib.hid (fun W t => nth_no W A _ c m h1)) (Lib.hid (fun W t => rnth_no W A _ c m h1)) (fun e => by cases e)
    · rw [hl] at h1
      obtain ⟨M, rfl⟩ : ∃ M : Nat, m = M := ⟨m.toNat, by omega⟩
      obtain ⟨_, k1, k2⟩ := nth_ok (l := l) (m := M) (by omega) (by omega)
      exact nthLaw_go _ l M (nthV l M) true w hT h hn (Lib.hid (fun W t => nth_yes W _ l M (h.mv (fun a u => t.old)) (by omega) (by omega) (by omega))) (Lib.hid (fun W t => rnth_yes W _ l M (h.mv (fun a u => t.old)) (by omega) (by omega) (by omega))) (fun _ => ⟨by omega, by omega⟩)
  · obtain ⟨A, c, rfl, _⟩ := h.form
    rw [ins_len]
    have g1 : decide ((l.length : Int) > 200) = true := decide_eq_true (by omega)
    have g1b : 200 < l.length := by omega
    have Ah := Lib.hid (alive_is _ hT)
    clear h hT hn
    go_enter Tryd.func6, Tryd.ntmps6
    go_wp2_with fail
    go_at_call 35
    refine Calls.mono (Ah.out) ?_
    rintro e w3 ⟨rfl, t3⟩
    go_wp2_with fail
    go_ret
    exact ⟨rfl, t3⟩
theorem nth_opened {H : Type} (enc : TypeId × Value → H) (W : World) (hT : TabAt 0 Lib.deBruijn64tab W) {base : Nat} {v0 v1 : Value} {d0 d1 : DataW H} {p0 p1 : List MemPlace} (h0 : DataW.Trod enc Tryd.prog W 0 (fun _ => true) true 35 v0 d0 p0)
    (h1 : DataW.Trod enc Tryd.prog W 0 (fun _ => true) true 3 v1 d1 p1)
    (o0 : Value.okWide Tryd.prog W .any base 35 v0) (o1 : Value.okWide Tryd.prog W .any base 3 v1) :
    Calls Tryd.prog 6 #[v0, v1] W fun e w' => e = .returned (.bool true) ∧ Below W.heap.size W w' := by
  obtain ⟨l, hl, _⟩ := (arg_slice Tryd.underlying35 (nInt Tryd.underlying3 (by kernel_rfl)) (by kernel_rfl) h0 o0).ints
  obtain ⟨m, rfl, b1⟩ := arg_int Tryd.underlying3 (by kernel_rfl) h1 o1
  exact (nthLaw_is _ l m (int_bd b1) W hT hl).mono fun e w' ⟨he, t⟩ => ⟨he, t.isBelow⟩
end Go.Proofs.YtmaielpfeajelaaDoor.Rj
