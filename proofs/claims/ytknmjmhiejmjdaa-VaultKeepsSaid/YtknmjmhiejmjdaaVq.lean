/- The law VaultOpens. -/
import Derived.Test.YtknmjmhiejmjdaaVp
import Derived.Test.YtknmjmhiejmjdaaHa
set_option linter.unusedVariables false
set_option linter.unusedSimpArgs false
set_option maxRecDepth 100000
namespace Go.Proofs.Ytknmjmhiejmjdaa.Vq
open Go.RowKit Go.MapKept Go.ChangeShapes Go.WideShapes Hm Hs Hr Hb Hf Hg Hv Ho Hx Dk Dr Kw Kn Kr Ks Va Vb Vc Vd Ve Vf Vs Vg Vi Vj Vl Vm Vo Vp Hn Ha
set_option maxHeartbeats 4000000 in
theorem opens_is (w : World) (v : Value) (l : List Int) (hv : RdS 1 w v (bys l)) (hby : Byt l) :
    Calls Try.prog 4 #[v] w fun e w' => e = .returned (.bool true) ∧ Turns [] w w' := by
  have H := Sep.start w
  obtain ⟨X, hX⟩ : ∃ X : Ending → World → Prop, X = fun e w' => e = .returned (.bool true) ∧ Turns [] w w' := ⟨_, rfl⟩
  rw [← hX]
  have hXh : Hid (∀ w', Turns [] w w' → X (.returned (.bool true)) w') := Lib.hid (fun w' h => by rw [hX]; exact ⟨rfl, h⟩)
  clear hX
  obtain ⟨A, c, hA, hlc, hcm⟩ := hv.form
  rw [bys_len] at hA hlc
  subst hA
  have hvW : Hid (∀ w', Turns [] w w' → RdS 1 w' (.slice A l.length c) (bys l)) := Lib.hid (fun w' t => hv.mv (fun a u hu => t.old hu))
  have hbyh : Hid (Byt l) := hby
  clear hv hby
  by_cases hlong : (l.length : Int) > 3000
  · have g1 := decide_eq_true hlong
    clear hlong
    go_enter Try.func4, Try.ntmps4
    go_wp2_with fail
    go_at_call 6
    refine Calls.mono (alive_any _) ?_
    rintro e w1 ⟨rfl, t1⟩
    have hX := hXh.out _ t1
    go_wp2_with fail
    exact hX
  · have g1 : decide ((l.length : Int) > 3000) = false := decide_eq_false hlong
    have hl3 : l.length ≤ 3000 := by omega
    have hl3h : Hid (l.length ≤ 3000) := hl3
    clear hlong hl3
    go_enter Try.func4, Try.ntmps4
    go_wp2_with fail
    go_at_call 7
    refine Calls.mono (new_ok 3000 _ (by omega)) ?_
    rintro e w1 ⟨b, rfl, h1, hb1, t1⟩
    have hv1 := hvW.out _ t1
    replace H := Vp.Sep.newDisk H h1 hb1 t1
    have P1 := write_ok w1 b _ _ [] l 0 3000 h1 hv1 (by simp) (by have := hl3h.out; omega) (decide_eq_false (by have := hl3h.out; simp; omega))
    have P1h : Hid _ := P1
    clear h1 hb1 t1 P1 hv1
    go_wp2_with fail
    go_at_call 23
    refine Calls.mono (P1h.out) ?_
    rintro e w2 ⟨rfl, fv2, d2, t2, m2⟩
    replace H := Vs.Sep.disk H 0 rfl d2 t2 m2
    rw [List.nil_append] at H
    clear d2 t2 m2 P1h
    have hs2 := hvW.out _ H.t
    replace H := H.newSlice ((Turns.refl _ _).alloc _) (own_empty w2) (by simp [Value.ownBlock])
    have hs3 := hvW.out _ H.t
    have hs3h : Hid _ := hs3
    clear hs2 hs3
    go_wp2_with (at_builtin; refine stop_ ?_)
    refine Mk_.mk ?_
    refine H.append 0 rfl hs3h.out l.length (by simp) (bys l) (by simp) rfl _ _ _ rfl (.int .u8 0) 1 Try.underlying39 Dk.info5 rfl (by decide) rfl rfl (bys_one _) (by have := hl3h.out; omega) (by have := hl3h.out; omega) ?_
    clear H
    intro A3 c3 w3 H t3 _
    clear t3
    replace H := H.alloc #[.int .i64 3000, .slice none 0 0, .slice A3 l.length c3] 41
    replace H := (H.split [0, 1, 2]).perm (List.Perm.refl _)
    replace H : Sep [] w [tDr w3.heap.size (.slice none 0 0) (.slice A3 l.length c3) [] l 3000, tDk b fv2 l 0 3000] (w3.alloc (.cells #[.int .i64 3000, .slice none 0 0, .slice A3 l.length c3] 41)) := by
      refine Sep.shut_ (ps := [tBlk w3.heap.size #[.int .i64 3000, .slice none 0 0, .slice A3 l.length c3] 41, tOwn 5 1 (.slice A3 l.length c3) (bys l)]) H (by intro q hq; simpa [tDr, rfoot, fps, tBlk, tOwn, Value.ownBlock] using hq) (fun hT _ => ?_)
      have h1 : Blk _ w3.heap.size #[.int .i64 3000, .slice none 0 0, .slice A3 l.length c3] 41 := hT (tBlk w3.heap.size #[.int .i64 3000, .slice none 0 0, .slice A3 l.length c3] 41) (by simp)
      have h2 : OwnS 5 1 _ (.slice A3 l.length c3) (bys l) := hT (tOwn 5 1 (.slice A3 l.length c3) (bys l)) (by simp)
      exact ⟨h1, OwnS.nil _ _ _, h2⟩
    obtain ⟨L, hg, hL⟩ := parse_ex l (l.length / 32)
    obtain ⟨n, hn⟩ : ∃ n, l.length / 32 = n := ⟨_, rfl⟩
    rw [hn] at hL
    have P2 := vopen_is (w3.alloc (.cells #[.int .i64 3000, .slice none 0 0, .slice A3 l.length c3] 41)) b fv2 l 0 3000 L n (H.got [1]) (by have := hl3h.out; omega) hbyh.out hg hn.symm hL (by have := hl3h.out; omega)
    have P3 := fun w h => dopen_is w w3.heap.size (.slice none 0 0) (.slice A3 l.length c3) [] l 3000 L n h (by have := hl3h.out; simpa using (by omega : l.length ≤ 1000000)) (by simpa using hbyh.out) (by simpa using hg) (by simpa using hn.symm) (by simpa using hL) (by have := hl3h.out; simp; omega)
    have P2h : Hid _ := P2
    have P3h : Hid _ := P3
    have hnh : Hid (l.length / 32 = n) := hn
    clear P2 P3 hn hg hL
    go_wp2_with fail
    go_at_call 8
    refine Calls.mono (P2h.out) ?_
    rintro e w4 (⟨hlt, rfl, h4⟩|⟨heq, vb, fv4, sf4, rfl, h4, hs1, hs2⟩)
    · replace H := H.call [1] h4
      clear h4 P2h
      go_wp2_with fail
      go_at_call 9
      refine Calls.mono (P3h.out w4 (H.at_ 1 rfl)) ?_
      rintro e w5 (⟨_, rfl, h5⟩|⟨h0, _⟩)
      case inr => exact absurd h0 (by omega)
      replace H := H.call1 1 rfl h5
      clear h5 P3h hlt
      have hcv : Hid (∀ (W : World) (v : Value) (l : List Int), RdS 1 W v (bys l) → (convert 39 9 v).run Try.prog W = .ok (.string (strB l)) W) := Lib.hid (fun W v l h => RdS.str (P := Try.prog) (dst := 9) h Try.underlying39 Try.underlying5 Try.underlying9)
      replace H := H.drew
      go_wp2_with fail
      go_wp2_with fail
      refine wp_region_flo [(0, false), (1, true), (2, true), (3, true), (4, true), (5, true), (6, true), (9, true), (10, true), (7, false), (8, true), (11, true), (12, true), (13, true)] (fun W => True) (by kernel_rfl) rfl (by kernel_rfl) (by intro c d v a w h; cases d <;> first | (simpa [Exit.then, Exit.inBlock, Act.put] using h) | exact h) (trivial) ?_
      generalize w5.drew = w6 at *
      refine flo_alone _ rfl ?_
      go_wp2_with fail
      go_at_call 6
      refine Calls.mono (alive_any _) ?_
      rintro e w7 ⟨rfl, t7⟩
      go_wp2_with fail
      refine ⟨fun W => Turns [] w7 W, fun W _ => trivial, Turns.refl _ _, ?_⟩
      replace H := H.turns t7
      clear t7
      have T7 := H.t
      have cv7 := hcv.out _ _ _ (hvW.out _ T7)
      refine flo_read _ rfl (fun K hK => ?_)
      go_simp
      first | (refine hK _ ?_) | (refine ⟨fun W hS => ?_, hK _ ?_⟩; · (have cvW := hcv.out _ _ _ (hvW.out _ (T7.trans hS)); try go_simp))
      clear hK K
      refine flo_read _ rfl (fun K hK => ?_)
      go_simp
      first | (refine hK _ ?_) | (refine ⟨fun W hS => ?_, hK _ ?_⟩; · (have cvW := hcv.out _ _ _ (hvW.out _ (T7.trans hS)); try go_simp))
      clear hK K
      refine flo_read _ rfl (fun K hK => ?_)
      go_simp
      first | (refine hK _ ?_) | (refine ⟨fun W hS => ?_, hK _ ?_⟩; · (have cvW := hcv.out _ _ _ (hvW.out _ (T7.trans hS)); try go_simp))
      clear hK K
      refine flo_read _ rfl (fun K hK => ?_)
      go_simp
      first | (refine hK _ ?_) | (refine ⟨fun W hS => ?_, hK _ ?_⟩; · (have cvW := hcv.out _ _ _ (hvW.out _ (T7.trans hS)); try go_simp))
      clear hK K
      refine flo_read _ rfl (fun K hK => ?_)
      go_simp
      first | (refine hK _ ?_) | (refine ⟨fun W hS => ?_, hK _ ?_⟩; · (have cvW := hcv.out _ _ _ (hvW.out _ (T7.trans hS)); try go_simp))
      clear hK K
      refine flo_read _ rfl (fun K hK => ?_)
      go_simp
      first | (refine hK _ ?_) | (refine ⟨fun W hS => ?_, hK _ ?_⟩; · (have cvW := hcv.out _ _ _ (hvW.out _ (T7.trans hS)); try go_simp))
      clear hK K
      refine flo_read _ rfl (fun K hK => ?_)
      go_simp
      first | (refine hK _ ?_) | (refine ⟨fun W hS => ?_, hK _ ?_⟩; · (have cvW := hcv.out _ _ _ (hvW.out _ (T7.trans hS)); try go_simp))
      clear hK K
      refine flo_read _ rfl (fun K hK => ?_)
      go_simp
      first | (refine hK _ ?_) | (refine ⟨fun W hS => ?_, hK _ ?_⟩; · (have cvW := hcv.out _ _ _ (hvW.out _ (T7.trans hS)); try go_simp))
      clear hK K
      clear cv7
      refine flo_alone _ rfl ?_
      go_wp2_with fail
      go_at_call 24
      refine Calls.mono (file_is _ b _ l _ _ (H.at_ 1 rfl) (by have := hl3h.out; omega)) ?_
      rintro e w8 ⟨v8, rfl, o8, t8, f8⟩
      go_wp2_with fail
      refine ⟨fun W => Turns [] w8 W, fun W h => t8.trans h, Turns.refl _ _, ?_⟩
      replace H := H.turns t8
      have cv8 := hcv.out _ _ _ o8.reads
      refine flo_read _ rfl (fun K hK => ?_)
      go_simp
      first | (refine hK _ ?_) | (refine ⟨fun W hS => ?_, hK _ ?_⟩; · (have cvW := hcv.out _ _ _ (o8.turns hS (by simp)).reads; try go_simp))
      clear hK K
      refine flo_read _ rfl (fun K hK => ?_)
      go_simp
      first | (refine hK _ ?_) | (refine ⟨fun W hS => ?_, hK _ ?_⟩; · (have cvW := hcv.out _ _ _ (o8.turns hS (by simp)).reads; try go_simp))
      clear hK K
      refine flo_read _ rfl (fun K hK => ?_)
      go_simp
      first | (refine hK _ ?_) | (refine ⟨fun W hS => ?_, hK _ ?_⟩; · (have cvW := hcv.out _ _ _ (o8.turns hS (by simp)).reads; try go_simp))
      clear hK K
      refine flo_read _ rfl (fun K hK => ?_)
      go_simp
      first | (refine hK _ ?_) | (refine ⟨fun W hS => ?_, hK _ ?_⟩; · (have cvW := hcv.out _ _ _ (o8.turns hS (by simp)).reads; try go_simp))
      clear hK K
      refine flo_end ?_
      have hX := hXh.out _ H.t
      clear H
      go_wp2_with fail
      exact hX
    · replace H := H.call [1] h4
      clear h4 P2h
      go_wp2_with fail
      go_at_call 9
      refine Calls.mono (P3h.out w4 (H.at_ 2 rfl)) ?_
      rintro e w5 (⟨h0, _⟩|⟨_, mb, lv5, sv5, lw5, sf5, ls5, rfl, h5, hs3, hs4⟩)
      · exact absurd h0 (by omega)
      replace H := H.call1 2 rfl h5
      have hj : l.take (32 * L.length) = sf5 ++ ls5 ∧ sf4 = (sf5.length : Int) := by
        rw [List.nil_append] at hs3 hs4
        have hle : 32 * L.length ≤ l.length := by have := hnh.out; omega
        rcases Nat.lt_or_ge (32 * L.length) l.length with h0 | h0
        · obtain ⟨e1, e2⟩ := hs4 h0
          rw [e1, e2, hs2 h0, List.append_nil, List.length_take]
          exact ⟨rfl, by omega⟩
        · obtain ⟨e1, e2⟩ := hs3 (by omega)
          rw [e1, e2, hs1 (by omega), List.nil_append, List.take_of_length_le h0]
          exact ⟨rfl, rfl⟩
      have hle2 : (l.take (32 * L.length)).length ≤ 1000000 := by rw [List.length_take]; have := hl3h.out; omega
      rw [hj.1] at hle2
      replace H := H.keep [2, 3, 0, 1]
      replace H : Sep [] w (fr vb b fv4 mb w3.heap.size lv5 L sv5 lw5 sf5 ls5 3000 3000) w5 := by
        have H2 : Sep [] w [tV vb b (lastV L) L.length, tDk b fv4 (l.take (32 * L.length)) sf4 3000, tM mb w3.heap.size lv5 L, tDr w3.heap.size sv5 lw5 sf5 ls5 3000] w5 := H
        rw [hj.1, hj.2] at H2
        exact H2
      have hLl : L.length ≤ 1000000 := by have := hnh.out; have := hl3h.out; omega
      have P4 := same_is w5 vb b fv4 mb w3.heap.size lv5 L sv5 lw5 sf5 ls5 3000 3000 (H.got [0, 1, 2, 3]) hle2 hLl
      have P4h : Hid _ := P4
      clear P4 h5 P3h heq hj hle2 hLl hs1 hs2 hs3 hs4
      go_wp2_with fail
      go_at_call 18
      refine Calls.mono (P4h.out) ?_
      rintro e w6 ⟨rfl, t6⟩
      replace H := H.turns t6
      go_wp2_with fail
      go_at_call 6
      refine Calls.mono (alive_any _) ?_
      rintro e w7 ⟨rfl, t7⟩
      replace H := H.turns t7
      have hX := hXh.out _ H.t
      clear H
      go_wp2_with fail
      exact hX
theorem opened {H : Type} (enc : TypeId × Value → H) (W : World) {base : Nat} {v0 : Value} {d0 : DataW H} {p0 : List MemPlace} (h0 : DataW.Trod enc Try.prog W 0 (fun _ => true) true 39 v0 d0 p0) (o0 : Value.okWide Try.prog W .any base 39 v0) :
    Calls Try.prog 4 #[v0] W fun e w' => e = .returned (.bool true) ∧ Below W.heap.size W w' := by
  obtain ⟨l, hl, hb⟩ := kSlice.bytes (arg_slice Try.underlying39 (nInt Try.underlying5 (by kernel_rfl)) (by kernel_rfl) h0 o0)
  exact (opens_is W v0 l hl hb).mono fun e w' ⟨he, t⟩ => ⟨he, t.isBelow⟩
end Go.Proofs.Ytknmjmhiejmjdaa.Vq
