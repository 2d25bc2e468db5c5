/- annonalaw07's alive. -/
import Derived.Test.YtknmjmhiejmjdaaVo
set_option linter.unusedVariables false
set_option linter.unusedSimpArgs false
set_option maxRecDepth 100000
namespace Go.Proofs.Ytknmjmhiejmjdaa.Vp
open Go.RowKit Go.MapKept Go.ChangeShapes Go.WideShapes Hm Hs Hr Hb Hf Hg Hv Ho Hx Dk Dr Kw Kn Kr Ks Va Vb Vc Vd Ve Vf Vs Vg Vi Vj Vl Vm Vo
theorem Sep.newDisk {F : List Nat} {w0 w w' : World} {l : List Th} (H : Sep F w0 l w) {b : Nat} {room : Int} (h : IsDisk w' b (.slice none 0 0) [] 0 room) (hb : w.heap.size ≤ b) (t : Turns [] w w') : Sep F w0 (tDk b (.slice none 0 0) [] 0 room :: l) w' :=
  H.fresh t _ h (fun k hk => by
    have : k = b := by simpa [tDk, foot, Value.ownBlock] using hk
    omega)
def sA : V4 := ⟨5, 5, 0, 2⟩
def sB : V4 := ⟨7, 5, 3, 2⟩
def sC : V4 := ⟨6, 6, 0, 2⟩
theorem chainAB : Chain [sA, sB] := by
  have h := (Chain.one (x := sA) (by decide)).snoc (x := sB) (by decide) (by decide)
  exact h
set_option maxHeartbeats 4000000 in
theorem alive_any (w : World) : Calls Try.prog 6 #[] w fun e w' => e = .returned (.bool true) ∧ Turns [] w w' := by
  have H := Sep.start w
  obtain ⟨X, hX⟩ : ∃ X : Ending → World → Prop, X = fun e w' => e = .returned (.bool true) ∧ Turns [] w w' := ⟨_, rfl⟩
  rw [← hX]
  have hXh : Hid (∀ w', Turns [] w w' → X (.returned (.bool true)) w') := Lib.hid (fun w' h => by rw [hX]; exact ⟨rfl, h⟩)
  clear hX
  go_enter Try.func6, Try.ntmps6
  go_wp2_with fail
  go_at_call 7
  refine Calls.mono (new_ok 200 _ (by omega)) ?_
  rintro e w1 ⟨b, rfl, h1, hb1, t1⟩
  replace H := Vp.Sep.newDisk H h1 hb1 t1
  clear h1 hb1 t1
  go_wp2_with fail
  go_at_call 8
  refine Calls.mono (vopen_is w1 b _ [] 0 200 [] 0 (H.got [0]) (by simp) (by intro c hc; simp at hc) (by intro j x hj; simp at hj) rfl (.inl rfl) (by simp)) ?_
  rintro e w2 (⟨h0, _⟩|⟨_, vb, fv1, sf1, rfl, h2, hs1, _⟩)
  · exact absurd h0 (by simp)
  replace H := H.call [0] h2
  obtain rfl := hs1 rfl
  clear h2 hs1
  have P1 := put_is w2 vb b z4 ⟨5, 5, 0, 2⟩ 0 fv1 [] 0 200 0 (H.got [0, 1]) (by simp) (by omega) (by decide)
  have P1h : Hid _ := P1
  clear P1
  go_wp2_with fail
  go_at_call 11
  refine Calls.mono (P1h.out) ?_
  rintro e w3 ⟨rfl, (⟨h0, _⟩|⟨_, fv2, h3⟩)⟩
  · exact absurd rfl h0
  replace H := H.call [0, 1] h3
  have P2 := vsync_is w3 vb b ⟨5, 5, 0, 2⟩ (0 + 1) fv2 ([] ++ recB ⟨5, 5, 0, 2⟩) 0 200 (H.got [0, 1]) (by rw [List.nil_append, recB_len]; omega) (by omega) (by decide) (by omega)
  have P2h : Hid _ := P2
  clear P2 P1h h3
  go_wp2_with fail
  go_at_call 14
  refine Calls.mono (P2h.out) ?_
  rintro e w4 ⟨rfl, (⟨_, h4⟩|⟨h0, _⟩)⟩
  case inr => exact absurd h0 (by omega)
  replace H := H.call [0, 1] h4
  have P3 := put_is w4 vb b ⟨5, 5, 0, 2⟩ ⟨7, 5, 3, 2⟩ (0 + 1) fv2 ([] ++ recB ⟨5, 5, 0, 2⟩) _ 200 0 (H.got [0, 1]) (by rw [List.nil_append, recB_len]; omega) (by omega) (by rw [List.nil_append, recB_len]; decide)
  have P3h : Hid _ := P3
  clear P3 P2h h4
  go_wp2_with fail
  go_at_call 11
  refine Calls.mono (P3h.out) ?_
  rintro e w5 ⟨rfl, (⟨h0, _⟩|⟨_, fv3, h5⟩)⟩
  · exact absurd rfl h0
  replace H := H.call [0, 1] h5
  have P4 := put_is w5 vb b ⟨7, 5, 3, 2⟩ ⟨6, 6, 0, 2⟩ (0 + 1 + 1) fv3 ([] ++ recB ⟨5, 5, 0, 2⟩ ++ recB ⟨7, 5, 3, 2⟩) _ 200 7 (H.got [0, 1]) (by rw [List.nil_append, List.length_append, recB_len, recB_len]; omega) (by omega) (by rw [List.nil_append, List.length_append, recB_len, recB_len]; decide)
  have P4h : Hid _ := P4
  clear P4 P3h h5
  go_wp2_with fail
  go_at_call 11
  refine Calls.mono (P4h.out) ?_
  rintro e w6 ⟨rfl, (⟨_, h6⟩|⟨h0, _⟩)⟩
  case inr => exact absurd h0 (by omega)
  replace H := H.call [0, 1] h6
  have hfile : [] ++ recB ⟨5, 5, 0, 2⟩ ++ recB ⟨7, 5, 3, 2⟩ = flat [sA, sB] := by simp [flat, sA, sB]
  have hsf : (([] ++ recB ⟨5, 5, 0, 2⟩ : List Int).length : Int) = ((32 : Nat) : Int) := by rw [List.nil_append, recB_len]
  rw [hfile, hsf] at H
  have hfl : (flat [sA, sB]).length = 64 := flat_len _
  have P5 := crash_is w6 b fv3 (flat [sA, sB]) 32 200 31 63 (H.at_ 1 rfl) (by omega) (by omega) (by rw [hfl]; decide)
  have P5h : Hid _ := P5
  have hflh : Hid ((flat [sA, sB]).length = 64) := hfl
  clear P5 P4h h6 hfile hsf hfl
  go_wp2_with fail
  go_at_call 16
  refine Calls.mono (P5h.out) ?_
  rintro e w7 ⟨rfl, fv4, d7, t7, m7⟩
  replace H := Vs.Sep.disk H 1 rfl d7 t7 m7
  obtain ⟨t, ht, hlen, hn⟩ := crash_split [sA, sB] 63 (by have := hflh.out; omega)
  have hA : ([sA, sB] : List V4).take (63 / 32) = [sA] := rfl
  rw [hA] at ht hn
  have hby : Byt ((flat [sA, sB]).take 63) := (byt_flat chainAB.ok).take 63
  have P6 := vopen_is w7 b fv4 ((flat [sA, sB]).take 63) ((63 : Nat) : Int) 200 [sA] 1 (H.got [1]) (by omega) hby (by rw [ht]; exact (Chain.one (by decide)).good t) (by omega) (.inl rfl) (by omega)
  have P6h : Hid _ := P6
  have hlenh : Hid (((flat [sA, sB]).take 63).length = 63) := hlen
  clear P6 P5h d7 t7 m7 ht hlen hn hby hA
  go_wp2_with fail
  go_at_call 8
  refine Calls.mono (P6h.out) ?_
  rintro e w8 (⟨h0, _⟩|⟨_, vb2, fv5, sf5, rfl, h8, _, hs8⟩)
  · exact absurd h0 (by simp)
  replace H := H.call [1] h8
  obtain rfl := hs8 (by rw [hlenh.out]; decide)
  have P7 := state_is w8 vb2 b (lastV [sA]) _ (H.blk 0 rfl)
  have P8 := fun w h => records_is w vb2 b (lastV [sA]) ([sA] : List V4).length h
  have P9 := fun w h => safe_is w b fv5 (((flat [sA, sB]).take 63).take (32 * [sA].length)) ((32 * [sA].length : Nat) : Int) 200 h
  have P7h : Hid _ := P7
  have P8h : Hid _ := P8
  have P9h : Hid _ := P9
  clear P7 P8 P9 h8 P6h hs8 hlenh
  go_wp2_with fail
  go_at_call 21
  refine Calls.mono (P7h.out) ?_
  rintro e w9 ⟨rfl, t9⟩
  replace H := H.turns t9
  go_wp2_with fail
  go_at_call 22
  refine Calls.mono (P8h.out w9 (H.blk 0 rfl)) ?_
  rintro e wa ⟨rfl, ta⟩
  replace H := H.turns ta
  go_wp2_with fail
  go_at_call 25
  refine Calls.mono (P9h.out wa (H.at_ 1 rfl)) ?_
  rintro e wb ⟨rfl, tb⟩
  replace H := H.turns tb
  have hX := hXh.out _ H.t
  clear H t9 ta tb
  go_wp2_with fail
  exact hX
end Go.Proofs.Ytknmjmhiejmjdaa.Vp
