/- The law DiskPlays. -/
import Derived.Test.YtondopjpkedojaaD6
import Derived.Test.YtondopjpkedojaaHa
set_option linter.unusedVariables false
set_option linter.unusedSimpArgs false
set_option maxRecDepth 100000
namespace Go.Proofs.Ytondopjpkedojaa.Dp
open Go.RowKit Go.MapKept Hm Hs Hr Hb Hf Dk Dr D6 Hn Ho Ha Go.ChangeShapes Go.WideShapes
theorem right_no (room : Int) (w : World) (h : room < 0 ∨ 16777216 < room) : Calls Try.prog 47 #[.int .i64 room] w fun e w' => e = .returned (.bool false) ∧ Turns [] w w' := by
  by_cases h1 : room < 0
  · have h1' : decide (room ≥ 0) = false := decide_eq_false (by omega)
    clear h h1
    go_enter Try.func47, Try.ntmps47
    go_wp2_with fail
    go_ret
    exact ⟨rfl, Turns.refl _ _⟩
  · have h1' : decide (room ≥ 0) = true := decide_eq_true (by omega)
    have h2' : decide (room ≤ 16777216) = false := decide_eq_false (by omega)
    clear h h1
    go_enter Try.func47, Try.ntmps47
    go_wp2_with fail
    go_ret
    exact ⟨rfl, Turns.refl _ _⟩
theorem right_yes (room : Int) (w : World) (h : 0 ≤ room ∧ room ≤ 16777216) : Calls Try.prog 47 #[.int .i64 room] w fun e w' => e = .returned (.bool true) ∧ Turns [] w w' := by
  have h1' : decide (room ≥ 0) = true := decide_eq_true (by omega)
  have h2' : decide (room ≤ 16777216) = true := decide_eq_true (by omega)
  clear h
  go_enter Try.func47, Try.ntmps47
  go_wp2_with fail
  go_ret
  exact ⟨rfl, Turns.refl _ _⟩
theorem plays_is (w : World) (room : Int) (A : Option Addr) (c : Nat) (acts : List Ac) (hl : FlatRow w A 3 (acts.map Ac.cells)) (hb : ∀ a ∈ acts, RdS 1 w a.v (bys a.bs)) (hk : ∀ a ∈ acts, 0 ≤ a.kind ∧ a.kind ≤ 255) :
    Calls Try.prog 8 #[.int .i64 room, .slice A acts.length c] w fun e w' => e = .returned (.bool true) ∧ Turns [] w w' := by
  go_enter Try.func8, Try.ntmps8
  go_wp2_with fail
  go_at_call 44
  refine (fits_is w A c acts hl hb).mono ?_
  rintro e w1 ⟨hf, t1⟩
  rcases hf with rfl | ⟨rfl, h60, h3000⟩
  · go_wp2_with fail
    go_at_call 45
    refine (alive_any _).mono ?_
    rintro e w2 ⟨rfl, t2⟩
    go_wp2_with fail
    go_ret
    exact ⟨rfl, t1.trans t2⟩
  · by_cases hr : room < 0 ∨ 16777216 < room
    · go_wp2_with fail
      go_at_call 46
      refine (new_bad room _ hr).mono ?_
      rintro e w2 ⟨rfl, t2⟩
      go_wp2_with fail
      go_at_call 47
      refine (right_no room _ hr).mono ?_
      rintro e w3 ⟨rfl, t3⟩
      go_wp2_with fail
      go_at_call 48
      refine (write_nil _ _).mono ?_
      rintro e w4 ⟨rfl, t4⟩
      go_wp2_with fail
      go_at_call 49
      refine (replace_nil _ _).mono ?_
      rintro e w5 ⟨rfl, t5⟩
      go_wp2_with fail
      go_at_call 50
      refine (sync_nil _).mono ?_
      rintro e w6 ⟨rfl, t6⟩
      go_wp2_with fail
      go_at_call 51
      refine (crash_nil 1 _).mono ?_
      rintro e w7 ⟨rfl, t7⟩
      go_wp2_with fail
      go_at_call 52
      refine (safe_nil _).mono ?_
      rintro e w8 ⟨rfl, t8⟩
      go_wp2_with fail
      go_at_call 53
      refine (file_nil _).mono ?_
      rintro e w9 ⟨rfl, t9⟩
      go_wp2_with fail
      go_at_call 45
      refine (alive_any _).mono ?_
      rintro e w10 ⟨rfl, t10⟩
      go_wp2_with fail
      go_ret
      exact ⟨rfl, ((((((((t1.trans t2).trans t3).trans t4).trans t5).trans t6).trans t7).trans t8).trans t9).trans t10⟩
    · have hr' : 0 ≤ room ∧ room ≤ 16777216 := by omega
      clear hr
      go_wp2_with fail
      go_at_call 46
      refine (new_ok room _ hr').mono ?_
      rintro e w2 ⟨b, rfl, h2, hb2, t2⟩
      go_wp2_with fail
      go_at_call 47
      refine (right_yes room _ hr').mono ?_
      rintro e w3 ⟨rfl, t3⟩
      go_wp2_with fail
      go_at_call 48
      refine (write_nil _ _).mono ?_
      rintro e w4 ⟨rfl, t4⟩
      go_wp2_with fail
      go_at_call 49
      refine (replace_nil _ _).mono ?_
      rintro e w5 ⟨rfl, t5⟩
      go_wp2_with fail
      go_at_call 50
      refine (sync_nil _).mono ?_
      rintro e w6 ⟨rfl, t6⟩
      go_wp2_with fail
      go_at_call 51
      refine (crash_nil 1 _).mono ?_
      rintro e w7 ⟨rfl, t7⟩
      go_wp2_with fail
      go_at_call 52
      refine (safe_nil _).mono ?_
      rintro e w8 ⟨rfl, t8⟩
      go_wp2_with fail
      go_at_call 53
      refine (file_nil _).mono ?_
      rintro e w9 ⟨rfl, t9⟩
      have T29 := ((((((t3.trans t4).trans t5).trans t6).trans t7).trans t8).trans t9)
      have T := (t1.trans t2).trans T29
      have h9 := h2.turns T29 (by simp)
      have hs1 := t1.size
      have hs2 := T.size
      clear t1 t2 t3 t4 t5 t6 t7 t8 t9 h2
      have hR : IsR (w9.alloc (.cells #[.int .i64 room, .slice none 0 0, .slice none 0 0] 67)) w9.heap.size (.slice none 0 0) (.slice none 0 0) [] [] room := ⟨Blk.new _ _ _, OwnS.nil _ _ _, OwnS.nil _ _ _⟩
      have TA := (Turns.refl [] w9).alloc (.cells #[.int .i64 room, .slice none 0 0, .slice none 0 0] 67)
      have hblt := h9.blk.lt
      have hP : Pair w.heap.size (w9.alloc (.cells #[.int .i64 room, .slice none 0 0, .slice none 0 0] 67)) b w9.heap.size room :=
        ⟨_, _, _, [], [], h9.turns TA (by simp), hR, ⟨fun k hk => by simp [foot, rfoot, Value.ownBlock] at hk ⊢; omega, fun k hk => by simp [rfoot, Value.ownBlock] at hk ⊢; omega⟩, by simpa using hr'.1, by simp; omega⟩
      have T10 := T.trans TA
      go_wp2_with fail
      generalize w9.heap.size = b' at *
      generalize w9.alloc (.cells #[.int .i64 room, .slice none 0 0, .slice none 0 0] 67) = w10 at *
      clear hR TA T T29 h9
      go_loopw [11] (fun v11 wr => ∃ (k : Nat), k ≤ acts.length ∧ v11 = .int .i64 k ∧ Pair w.heap.size wr b b' room ∧ Turns [] w wr) (fun v11 _ => acts.length - (intOf v11).toNat)
      case atStart => exact ⟨0, Nat.zero_le _, rfl, hP, T10⟩
      case round =>
        obtain ⟨k, hk1, rfl, hPr, Tr⟩ := hrel
        clear hP T10
        by_cases hlt : k < acts.length
        · have g1 : decide ((k : Int) < (acts.length : Int)) = true := by simp; omega
          obtain ⟨a, ha⟩ : ∃ a, acts[k]? = some a := ⟨_, List.getElem?_eq_getElem hlt⟩
          have hm := List.mem_of_getElem? ha
          obtain ⟨ad, rfl, _, hc⟩ := hl.at_ (j := k) (c := a.cells) (by rw [List.getElem?_map, ha]; rfl)
          have i0 := Tr.old (hc 0 _ rfl)
          have i1 := Tr.old (hc 1 _ rfl)
          have i2 := Tr.old (hc 2 _ rfl)
          rw [Nat.add_zero] at i0
          rw [add_field _ _ _ (by omega)] at i1 i2
          go_wp2_with fail
          go_at_call 54
          refine (step_is w.heap.size _ b b' room a hPr hr' (fun w' F T hF => (hb a hm).mv (fun p u hu => (up Tr T hF).old hu)) (h3000 a hm) (hk a hm)).mono ?_
          rintro e w11 ⟨rfl, hP11, F, T11, hF⟩
          have T12 := up Tr T11 hF
          go_wp2_with fail
          go_roundw
          case rel => exact ⟨k + 1, by omega, by go_num, hP11, T12⟩
          case measure => simp [intOf]; omega
        · obtain rfl : k = acts.length := by omega
          have g1 : decide ((acts.length : Int) < (acts.length : Int)) = false := by simp
          go_wp2_with fail
          go_at_call 45
          refine (alive_any _).mono ?_
          rintro e w12 ⟨rfl, t12⟩
          go_wp2_with fail
          go_ret
          exact ⟨rfl, Tr.trans t12⟩
theorem nestBytes : Nest Try.prog 63 [kSlice [kInt .u8]] := nSlice Try.underlying63 (nInt Try.underlying5 (by kernel_rfl)) (by kernel_rfl)
theorem nestAct : Nest Try.prog 70 [kInt .u8, kSlice [kInt .u8], kInt .i64] :=
  nStruct Try.underlying70 (ncons rfl (nInt Try.underlying5 (by kernel_rfl)) (ncons rfl nestBytes (ncons rfl (nInt Try.underlying3 (by kernel_rfl)) nnil rfl) rfl) rfl) (by kernel_rfl)
theorem acts_of {W : World} {v : Value} (h : kSlice [kInt .u8, kSlice [kInt .u8], kInt .i64] W v) :
    ∃ A c acts, v = .slice A (acts : List Ac).length c ∧ FlatRow W A 3 (acts.map Ac.cells) ∧ (∀ a ∈ acts, RdS 1 W a.v (bys a.bs)) ∧ (∀ a ∈ acts, 0 ≤ a.kind ∧ a.kind ≤ 255) := by
  obtain ⟨A, c, rows, hv, hc, hm, hn, hf, hk⟩ := h
  obtain ⟨acts, rfl, ha⟩ := rows_of (f := Ac.cells) (p := fun a => RdS 1 W a.v (bys a.bs) ∧ 0 ≤ a.kind ∧ a.kind ≤ 255) (fun r hr => by
    obtain ⟨v0, r0, rfl, ⟨n0, rfl, w0⟩, k0⟩ := (hk r hr).out
    obtain ⟨v1, r1, rfl, k1, k2⟩ := k0.out
    obtain ⟨v2, r2, rfl, ⟨n2, rfl, w2⟩, k3⟩ := k2.out
    obtain rfl := k3.none
    obtain ⟨l, hl, _⟩ := kSlice.bytes k1
    exact ⟨⟨n0, v1, n2, l⟩, rfl, hl, u8_bd w0⟩)
  exact ⟨A, c, acts, by rw [hv, List.length_map], hf, fun a h => (ha a h).1, fun a h => (ha a h).2⟩
theorem opened {H : Type} (enc : TypeId × Value → H) (W : World) {base : Nat} {v0 v1 : Value} {d0 d1 : DataW H} {p0 p1 : List MemPlace} (h0 : DataW.Trod enc Try.prog W 0 (fun _ => true) true 3 v0 d0 p0)
    (h1 : DataW.Trod enc Try.prog W 0 (fun _ => true) true 55 v1 d1 p1) (o0 : Value.okWide Try.prog W .any base 3 v0) (o1 : Value.okWide Try.prog W .any base 55 v1) :
    Calls Try.prog 8 #[v0, v1] W fun e w' => e = .returned (.bool true) ∧ Below W.heap.size W w' := by
  obtain ⟨room, rfl, _⟩ := arg_int Try.underlying3 (by kernel_rfl) h0 o0
  obtain ⟨A, c, acts, rfl, hf, hb, hk⟩ := acts_of (arg_slice Try.underlying55 nestAct (by kernel_rfl) h1 o1)
  exact (plays_is W room A c acts hf hb hk).mono fun e w' ⟨he, t⟩ => ⟨he, t.isBelow⟩
end Go.Proofs.Ytondopjpkedojaa.Dp
