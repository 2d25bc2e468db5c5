/- The law RingTells. -/
import Derived.Test.YtmaielpfeajelaaDoorRi
import Derived.Test.YtmaielpfeajelaaDoorRm
set_option linter.unusedVariables false
set_option linter.unusedSimpArgs false
set_option maxRecDepth 100000
namespace Go.Proofs.YtmaielpfeajelaaDoor.Rn
open Go.RowKit Go.Shelf Go.ChangeShapes Go.WideShapes Hm Hs Hv Hc Hd Hx Hy Ho Hn Ha Ra Rg Rb Rc Rd Rh Ri Rm
set_option maxHeartbeats 4000000 in
theorem tells_is (s : Nat) (n i : Int) (hs : U64 s) (hn : n ≤ 9223372036854775807) (w : World) (hT : Tab w) : Calls Tryd.prog 5 #[.int .u64 s, .int .i64 n, .int .i64 i] w fun e w' => e = .returned (.bool true) ∧ Turns [] w w' := by
  have hTh := Lib.hid hT
  obtain ⟨X, hX⟩ : ∃ X : Ending → World → Prop, X = fun e w' => e = .returned (.bool true) ∧ Turns [] w w' := ⟨_, rfl⟩
  rw [← hX]
  have hXh : Hid (∀ w', Turns [] w w' → X (.returned (.bool true)) w') := Lib.hid (fun w' t => by rw [hX]; exact ⟨rfl, t⟩)
  have N1 := Lib.hid (fun w h => nodes_is s hs w h)
  have N2 := Lib.hid (fun w => rnodes_is s hs w)
  have H1 := Lib.hid (fun w => has_any s i hs w)
  have H2 := Lib.hid (fun w => rhas_any s i hs w)
  have W1 := Lib.hid (fun w => with_any s i hs w)
  have W2 := Lib.hid (fun w => rwith_any s i hs w)
  have O1 := Lib.hid (fun w => without_any s i hs w)
  have O2 := Lib.hid (fun w => rwithout_any s i hs w)
  have X1 := Lib.hid (fun w h => next_any s n i hs w h)
  have X2 := Lib.hid (fun w => rnext_any s n i hs w)
  have A1 := Lib.hid (fun w => all_any n w)
  have A2 := Lib.hid (fun w => rall_any n w)
  have M1 := Lib.hid (fun w => maj_any n hn w)
  have M2 := Lib.hid (fun w => rmaj_any n hn w)
  have C1 := Lib.hid (fun w => count_is s hs w)
  rw [← nod_ones] at C1
  have hln : (nodI (nod s)).length = (nod s).length := by unfold nodI; rw [List.length_map]
  rw [← hln] at C1
  have S1 := Lib.hid (fun w v u h1 h2 => Rs.same_is w v u (nodI (nod s)) h1 h2)
  generalize nodI (nod s) = l at *
  generalize hasB s i = b at *
  generalize withN s i = wn at *
  generalize withoutN s i = on at *
  generalize nextI s n i = xn at *
  generalize allN n = an at *
  generalize majI n = mn at *
  clear hT hX hs hln
  have gb : (b == b) = true := by simp
  go_enter Tryd.func5, Tryd.ntmps5
  go_wp2_with fail
  go_at_call 21
  refine Calls.mono (N1.out _ hTh.out) ?_
  rintro e w1 ⟨v1, rfl, o1, t1, _⟩
  go_wp2_with fail
  go_at_call 22
  refine Calls.mono (N2.out _) ?_
  rintro e w2 ⟨v2, rfl, o2, t2, _⟩
  have Sh := Lib.hid (S1.out w2 v1 v2 (o1.reads.mv (fun a u => t2.old)) o2.reads)
  have T2 := t1.trans t2
  clear t1 t2 o1 o2 N1 S1
  go_wp2_with fail
  go_at_call 14
  refine Calls.mono (Sh.out) ?_
  rintro e w3 ⟨rfl, t3⟩
  go_wp2_with fail
  go_at_call 20
  refine Calls.mono (H1.out _) ?_
  rintro e w4 ⟨rfl, t4⟩
  go_wp2_with fail
  go_at_call 23
  refine Calls.mono (H2.out _) ?_
  rintro e w5 ⟨rfl, t5⟩
  go_wp2_with fail
  go_at_call 24
  refine Calls.mono (W1.out _) ?_
  rintro e w6 ⟨rfl, t6⟩
  go_wp2_with fail
  go_at_call 25
  refine Calls.mono (W2.out _) ?_
  rintro e w7 ⟨rfl, t7⟩
  go_wp2_with fail
  go_at_call 26
  refine Calls.mono (O1.out _) ?_
  rintro e w8 ⟨rfl, t8⟩
  go_wp2_with fail
  go_at_call 27
  refine Calls.mono (O2.out _) ?_
  rintro e w9 ⟨rfl, t9⟩
  have T9 := ((((((T2.trans t3).trans t4).trans t5).trans t6).trans t7).trans t8).trans t9
  have Tb := Lib.hid (hTh.out.turns T9)
  clear t3 t4 t5 t6 t7 t8 t9 T2
  go_wp2_with fail
  go_at_call 28
  refine Calls.mono (X1.out _ Tb.out) ?_
  rintro e wa ⟨rfl, ta⟩
  go_wp2_with fail
  go_at_call 29
  refine Calls.mono (X2.out _) ?_
  rintro e wb ⟨rfl, tb⟩
  go_wp2_with fail
  go_at_call 30
  refine Calls.mono (A1.out _) ?_
  rintro e wc ⟨rfl, tc⟩
  go_wp2_with fail
  go_at_call 31
  refine Calls.mono (A2.out _) ?_
  rintro e wd ⟨rfl, td⟩
  go_wp2_with fail
  go_at_call 32
  refine Calls.mono (M1.out _) ?_
  rintro e we ⟨rfl, te⟩
  go_wp2_with fail
  go_at_call 33
  refine Calls.mono (M2.out _) ?_
  rintro e wf ⟨rfl, tf⟩
  go_wp2_with fail
  go_at_call 34
  refine Calls.mono (C1.out _) ?_
  rintro e wg ⟨rfl, tg⟩
  go_wp2_with fail
  go_at_call 22
  refine Calls.mono (N2.out _) ?_
  rintro e wh ⟨v3, rfl, o3, th, _⟩
  obtain ⟨A3, c3, rfl, _⟩ := formI o3
  have Te := (((((((T9.trans ta).trans tb).trans tc).trans td).trans te).trans tf).trans tg).trans th
  clear ta tb tc td te tf tg th o3
  go_wp2_with fail
  go_at_call 35
  refine Calls.mono (alive_is _ (hTh.out.turns Te)) ?_
  rintro e wi ⟨rfl, ti⟩
  have hX := hXh.out _ (Te.trans ti)
  go_wp2_with fail
  exact hX
theorem tells_opened {H : Type} (enc : TypeId × Value → H) (W : World) (hT : TabAt 0 Lib.deBruijn64tab W) {base : Nat} {v0 v1 v2 : Value} {d0 d1 d2 : DataW H} {p0 p1 p2 : List MemPlace} (h0 : DataW.Trod enc Tryd.prog W 0 (fun _ => true) true 39 v0 d0 p0)
    (h1 : DataW.Trod enc Tryd.prog W 0 (fun _ => true) true 3 v1 d1 p1) (h2 : DataW.Trod enc Tryd.prog W 0 (fun _ => true) true 3 v2 d2 p2)
    (o0 : Value.okWide Tryd.prog W .any base 39 v0) (o1 : Value.okWide Tryd.prog W .any base 3 v1) (o2 : Value.okWide Tryd.prog W .any base 3 v2) :
    Calls Tryd.prog 5 #[v0, v1, v2] W fun e w' => e = .returned (.bool true) ∧ Below W.heap.size W w' := by
  obtain ⟨s, rfl, b0⟩ := arg_int Tryd.underlying39 (by kernel_rfl) h0 o0
  obtain ⟨n, rfl, b1⟩ := arg_int Tryd.underlying3 (by kernel_rfl) h1 o1
  obtain ⟨i, rfl, b2⟩ := arg_int Tryd.underlying3 (by kernel_rfl) h2 o2
  have c0 := u64_bd b0
  have c1 := int_bd b1
  obtain ⟨s, rfl⟩ : ∃ k : Nat, s = k := ⟨s.toNat, by omega⟩
  exact (tells_is s n i (show s < _ by omega) c1.2 W hT).mono fun e w' ⟨he, t⟩ => ⟨he, t.isBelow⟩
end Go.Proofs.YtmaielpfeajelaaDoor.Rn
