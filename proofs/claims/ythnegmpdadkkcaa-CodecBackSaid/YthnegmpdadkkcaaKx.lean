/- The law CodecWrites: its walk, and its arguments opened. -/
import Derived.Test.YthnegmpdadkkcaaKa
import Derived.Test.YthnegmpdadkkcaaHa
set_option linter.unusedVariables false
set_option linter.unusedSimpArgs false
set_option maxRecDepth 100000
namespace Go.Proofs.Ythnegmpdadkkcaa.Kx
open Go.RowKit Go.MapKept Go.ChangeShapes Go.WideShapes Hm Hs Hr Hb Hf Hg Hv Ho Hn Ha Kw Kn Kp Kr Ks Ka
theorem num_empty (w : World) (b : Nat) : Calls Try.prog 14 #[.pointer (some ⟨b, 0, none⟩), .slice none 0 0] w fun e w' => e = .returned (.pointer (some ⟨b, 0, none⟩)) ∧ Turns [] w w' := by
  go_enter Try.func14, Try.ntmps14
  go_wp2_with fail
  go_loopw [6, 9] (fun v6 v9 wr => v9 = .int .i64 0 ∧ Turns [] w wr) (fun _ v9 _ => (intOf v9).toNat)
  case atStart => exact ⟨rfl, Turns.refl _ _⟩
  case round =>
    obtain ⟨rfl, T⟩ := hrel
    go_wp2_with fail
    go_ret
    exact ⟨rfl, T⟩
theorem done_wrong2 (w : World) (b : Nat) (c1 : w.cell? ⟨b, 1, none⟩ = some (.bool true)) : Calls Try.prog 15 #[.pointer (some ⟨b, 0, none⟩)] w fun e w' => e = .returned (.tuple #[.slice none 0 0, .int .i64 1]) ∧ Turns [] w w' := by
  go_enter Try.func15, Try.ntmps15
  go_wp2_with fail
  go_ret2
  exact ⟨rfl, Turns.refl _ _⟩
theorem below_rds {W w' : World} {sz : Nat} {v : Value} {rows : List (List Value)} (h : RdS sz W v rows) (k : Below W.heap.size W w') : RdS sz w' v rows := h.mv fun a u hu => old_cell k (Nat.le_refl _) hu
theorem strOf {w : World} {v : Value} {l : List Int} (h : RdS 1 w v (bys l)) : (convert 26 9 v).run Try.prog w = .ok (.string (strB l)) w :=
  RdS.str (P := Try.prog) (dst := 9) h Try.underlying26 Try.underlying5 Try.underlying9
set_option maxHeartbeats 4000000 in
theorem writes_bad (W : World) (v : Value) (l : List Int) (x : Int) (hv : RdS 1 W v (ins l)) (hb : ∀ y ∈ l, -9223372036854775808 ≤ y ∧ y ≤ 9223372036854775807) (hx : 0 ≤ x ∧ x < 18446744073709551616) (hl : l.length ≤ 150) (hbad : l.all okNum = false) :
    Calls Try.prog 3 #[v, .int .u64 x] W fun e w' => e = .returned (.bool true) ∧ Turns [] W w' := by
  obtain ⟨A, c, hA, _⟩ := hv.form
  simp only [ins_len] at hA
  subst hA
  have g1 : decide ((l.length : Int) > 150) = false := decide_eq_false (by omega)
  have hI := newW W
  have T0 := (Turns.refl [] W).alloc (.cells #[.slice none 0 0, .bool false] 28)
  have hIh : Hid _ := hI
  have T0h : Hid _ := T0
  have hvh : Hid _ := hv
  have hbh : Hid _ := hb
  have hxh : Hid _ := hx
  have hbadh : Hid _ := hbad
  clear hI T0 hv hb hx hbad
  go_enter Try.func3, Try.ntmps3
  go_wp2_with fail
  go_at_call 13
  refine Calls.mono (bits_is W.heap.size x hxh.out _ _ _ [] false hIh.out (by decide)) ?_
  rintro e w1 ⟨rfl, ⟨bv1, h1⟩, l1⟩
  have T1 := T0h.out.below l1 (Nat.le_refl _)
  go_wp2_with fail
  go_at_call 14
  refine Calls.mono (num_is W.heap.size _ _ bv1 _ false h1 _ l (below_rds hvh.out T1.isBelow) (.inl fun w' k => below_rds hvh.out (T1.isBelow.trans k)) (by simp [be8_len]; omega) hbh.out) ?_
  rintro e w2 ⟨rfl, ⟨bv2, h2⟩, l2⟩
  have T2 := T1.below l2 (Nat.le_refl _)
  rw [hbadh.out] at h2
  clear h1 l1 l2 T1 T0h hIh
  go_wp2_with fail
  go_at_call 15
  refine Calls.mono (done_wrong W.heap.size _ _ bv2 _ h2) ?_
  rintro e w3 ⟨rfl, t3⟩
  have T3 := T2.trans t3
  have h3 := h2.turns t3
  clear T2 h2 t3
  go_wp2_with fail
  go_at_call 16
  refine Calls.mono (put_bad _ _ l (below_rds hvh.out T3.isBelow) (by omega) hbh.out) ?_
  rintro e w4 ⟨hp, t4⟩
  have T4 := T3.trans t4
  have h4 := h3.turns t4
  rcases hp with ⟨_, rfl⟩ | ⟨hp, _⟩
  case inr => rw [hbadh.out] at hp; cases hp
  clear h3 t4 T3
  go_wp2_with fail
  go_at_call 17
  refine Calls.mono (eight_is x hxh.out _) ?_
  rintro e w5 ⟨v5, rfl, ho5, t5, hn5⟩
  have T5 := T4.trans t5
  have h5 := h4.turns t5
  have hs5 := T4.size
  clear h4 t5 T4
  go_wp2_with (at_builtin; refine stop_ ?_)
  refine Mk_.mk ?_
  refine wp_append ho5 (RdS.nil 1 _) rfl _ _ _ rfl (.int .u8 0) 1 Try.underlying26 info5 rfl (by decide) rfl rfl (by simp) (by rw [bys_len, be8_len]; decide) (by rw [bys_len, be8_len]; decide) ?_
  intro v6 w6 ho6 t6 hloc hnil
  have T6 := T5.then t6 (fun j hj => .inr (by have := hn5 j (by simpa using hj); omega))
  have hne6 : ∀ k, k = W.heap.size → k ∉ v5.ownBlock.toList := fun k hk hm => by
    have h7 := ho5.ne_blk (k := k) (by simpa using hm) h5.blk (by decide)
    exact h7 hk
  have hb6 := h5.blk.turns t6 (hne6 _ rfl)
  clear ho5 ho6 t6 hloc hnil hne6 hn5 T5
  have c1 : w6.cell? ⟨W.heap.size, 1, none⟩ = some _ := hb6.cell 1
  go_wp2_with fail
  go_at_call 14
  refine Calls.mono (num_empty _ _) ?_
  rintro e w7 ⟨rfl, t7⟩
  have T7 := T6.trans t7
  have hb7 := hb6.turns t7 (by simp)
  have c2 : w7.cell? ⟨W.heap.size, 1, none⟩ = some (.bool true) := hb7.cell 1
  clear c1 hb6 t7 T6
  go_wp2_with fail
  go_at_call 15
  refine Calls.mono (done_wrong2 _ _ c2) ?_
  rintro e w8 ⟨rfl, t8⟩
  have T8 := T7.trans t8
  clear c2 hb7 t8 T7
  have e2 : (u64 2) = 2 := by decide
  have hR := oneI w8 1
  have TR := (Turns.refl [] w8).alloc (.cells #[.int .i64 1] 3)
  have hRh : Hid _ := hR
  have TRh : Hid _ := TR
  clear hR TR e2
  go_wp2_with fail
  go_at_call 14
  refine Calls.mono (num_nil _ _ [1] hRh.out (by simp)) ?_
  rintro e w9 ⟨rfl, t9⟩
  have T9 := (T8.trans TRh.out).trans t9
  clear t9 TRh hRh
  go_wp2_with fail
  go_at_call 13
  refine Calls.mono (bits_nil _ _) ?_
  rintro e w10 ⟨rfl, t10⟩
  have T10 := T9.trans t10
  go_wp2_with fail
  go_at_call 15
  refine Calls.mono (done_nil _) ?_
  rintro e w11 ⟨rfl, t11⟩
  have T11 := T10.trans t11
  clear T9 T10 t10
  clear t11
  go_wp2_with fail
  go_at_call 12
  refine Calls.mono (alive_is _) ?_
  rintro e w12 ⟨rfl, t12⟩
  have T12 := T11.trans t12
  have hsn := strOf (l := []) (show RdS 1 w12 (.slice none 0 0) (bys []) from RdS.nil 1 w12)
  go_wp2_with fail
  go_ret
  exact ⟨rfl, T12⟩
set_option maxHeartbeats 4000000 in
theorem writes_ok (W : World) (v : Value) (l : List Int) (x : Int) (hv : RdS 1 W v (ins l)) (hb : ∀ y ∈ l, -9223372036854775808 ≤ y ∧ y ≤ 9223372036854775807) (hx : 0 ≤ x ∧ x < 18446744073709551616) (hl : l.length ≤ 150) (hok : l.all okNum = true) :
    Calls Try.prog 3 #[v, .int .u64 x] W fun e w' => e = .returned (.bool true) ∧ Turns [] W w' := by
  obtain ⟨A, c, hA, _⟩ := hv.form
  simp only [ins_len] at hA
  subst hA
  have g1 : decide ((l.length : Int) > 150) = false := decide_eq_false (by omega)
  have hI := newW W
  have T0 := (Turns.refl [] W).alloc (.cells #[.slice none 0 0, .bool false] 28)
  have hIh : Hid _ := hI
  have T0h : Hid _ := T0
  have hvh : Hid _ := hv
  have hbh : Hid _ := hb
  have hxh : Hid _ := hx
  have hokh : Hid _ := hok
  clear hI T0 hv hb hx hok
  go_enter Try.func3, Try.ntmps3
  go_wp2_with fail
  go_at_call 13
  refine Calls.mono (bits_is W.heap.size x hxh.out _ _ _ [] false hIh.out (by decide)) ?_
  rintro e w1 ⟨rfl, ⟨bv1, h1⟩, l1⟩
  have T1 := T0h.out.below l1 (Nat.le_refl _)
  go_wp2_with fail
  go_at_call 14
  refine Calls.mono (num_is W.heap.size _ _ bv1 _ false h1 _ l (below_rds hvh.out T1.isBelow) (.inl fun w' k => below_rds hvh.out (T1.isBelow.trans k)) (by simp [be8_len]; omega) hbh.out) ?_
  rintro e w2 ⟨rfl, ⟨bv2, h2⟩, l2⟩
  have T2 := T1.below l2 (Nat.le_refl _)
  rw [hokh.out] at h2
  rw [List.nil_append] at h2
  have hlen : (be8 x ++ putR (l.map u64)).length ≤ 2000 := by rw [List.length_append, be8_len, putR_len, List.length_map]; omega
  have hlenp : (putR (l.map u64)).length ≤ 2000 := by rw [putR_len, List.length_map]; omega
  have hpl : be8 x ++ putR (l.map u64) = be8 x ++ putR (l.map u64) := rfl
  obtain ⟨pl, hpl2⟩ : ∃ pl, putR (l.map u64) = pl := ⟨_, rfl⟩
  obtain ⟨full, hfull⟩ : ∃ full, be8 x ++ pl = full := ⟨_, rfl⟩
  rw [hpl2, hfull] at h2 hlen
  rw [hpl2] at hlenp
  have hpl2h : Hid _ := hpl2
  have hfullh : Hid _ := hfull
  clear h1 l1 l2 T1 T0h hIh hpl hpl2 hfull
  go_wp2_with fail
  go_at_call 15
  refine Calls.mono (done_ok W.heap.size _ _ bv2 _ h2 (by omega)) ?_
  rintro e w3 ⟨vb, rfl, ob3, t3, nb3⟩
  have T3 := T2.trans t3
  have h3 := h2.turns t3
  obtain ⟨Ab, cb, hvb, _⟩ := ob3.form
  rw [bys_len] at hvb
  subst hvb
  clear T2 h2 t3
  go_wp2_with fail
  go_at_call 16
  refine Calls.mono (put_bad _ _ l (below_rds hvh.out T3.isBelow) (by omega) hbh.out) ?_
  rintro e w4 ⟨hp, t4⟩
  have T4 := T3.trans t4
  have h4 := h3.turns t4
  have ob4 := ob3.turns t4 (by simp)
  rcases hp with ⟨hp, _⟩ | ⟨_, vc, rfl, oc4, nc4⟩
  case inl => rw [hokh.out] at hp; cases hp
  rw [hpl2h.out] at oc4
  obtain ⟨Ac, cc, hvc, _⟩ := oc4.form
  rw [bys_len] at hvc
  subst hvc
  have hs3 := T3.size
  clear h3 t4 T3 ob3
  go_wp2_with fail
  go_at_call 17
  refine Calls.mono (eight_is x hxh.out _) ?_
  rintro e w5 ⟨v5, rfl, oe5, t5, hn5⟩
  have T5 := T4.trans t5
  have h5 := h4.turns t5
  have hs5 := T4.size
  have ob5 := ob4.turns t5 (by simp)
  have oc5 := oc4.turns t5 (by simp)
  have hnb : ∀ k, (Value.slice Ab full.length cb).ownBlock = some k → k ∉ v5.ownBlock.toList := fun k hk hm => by
    have h7 := hn5 k (by simpa using hm)
    have h8 := ob4.lt hk
    omega
  have hnw : ∀ k, bv2.ownBlock = some k → k ∉ v5.ownBlock.toList := fun k hk hm => by
    have h7 := hn5 k (by simpa using hm)
    have h8 := h4.own.lt hk
    omega
  clear h4 t5 T4 ob4 oc4 nc4 nb3
  go_wp2_with (at_builtin; refine stop_ ?_)
  refine Mk_.mk ?_
  refine wp_append oe5 oc5.reads rfl _ _ _ rfl (.int .u8 0) 1 Try.underlying26 info5 rfl (by decide) rfl rfl (bys_one _) (by rw [bys_len, bys_len, be8_len]; omega) (by rw [bys_len, bys_len, be8_len]; omega) ?_
  intro v6 w6 ho6 t6 hloc hnil
  have T6 := T5.then t6 (fun j hj => .inr (by have := hn5 j (by simpa using hj); omega))
  have hne6 : ∀ k, k = W.heap.size → k ∉ v5.ownBlock.toList := fun k hk hm => by
    have h7 := oe5.ne_blk (k := k) (by simpa using hm) h5.blk (by decide)
    exact h7 hk
  have hb6 := h5.blk.turns t6 (hne6 _ rfl)
  have h6 : IsW W.heap.size w6 W.heap.size bv2 full (false || !true) := ⟨hb6, h5.own.turns t6 hnw, h5.nb, h5.no, T6.size⟩
  have ob6 := ob5.turns t6 hnb
  rw [← bys_append, hfullh.out] at ho6
  obtain ⟨Aw, cw, hvw, _⟩ := ho6.form
  rw [bys_len] at hvw
  subst hvw
  clear hnw oe5 t6 hloc hnil hne6 hn5 T5 hb6 h5 hnb ob5 oc5
  go_wp2_with fail
  go_at_call 14
  refine Calls.mono (num_empty _ _) ?_
  rintro e w7 ⟨rfl, t7⟩
  have T7 := T6.trans t7
  have h7 := h6.turns t7
  have ob7 := ob6.turns t7 (by simp)
  have ow7 := ho6.turns t7 (by simp)
  clear h6 t7 T6 ob6 ho6
  go_wp2_with fail
  go_at_call 15
  refine Calls.mono (done_ok W.heap.size _ _ bv2 _ h7 (by omega)) ?_
  rintro e w8 ⟨vd, rfl, od8, t8, nd8⟩
  have T8 := T7.trans t8
  have ob8 := ob7.turns t8 (by simp)
  have ow8 := ow7.turns t8 (by simp)
  obtain ⟨Ad, cd, hvd, _⟩ := od8.form
  rw [bys_len] at hvd
  subst hvd
  clear h7 t8 T7 ob7 ow7 nd8
  have e2 : (u64 2) = 2 := by decide
  have hR := oneI w8 1
  have TR := (Turns.refl [] w8).alloc (.cells #[.int .i64 1] 3)
  have hRh : Hid _ := hR
  have TRh : Hid _ := TR
  clear hR TR e2
  go_wp2_with fail
  go_at_call 14
  refine Calls.mono (num_nil _ _ [1] hRh.out (by simp)) ?_
  rintro e w9 ⟨rfl, t9⟩
  have T9 := (T8.trans TRh.out).trans t9
  have tt9 := TRh.out.trans t9
  clear t9 TRh hRh
  go_wp2_with fail
  go_at_call 13
  refine Calls.mono (bits_nil _ _) ?_
  rintro e w10 ⟨rfl, t10⟩
  have T10 := T9.trans t10
  go_wp2_with fail
  go_at_call 15
  refine Calls.mono (done_nil _) ?_
  rintro e w11 ⟨rfl, t11⟩
  have T11 := T10.trans t11
  have tt11 := (tt9.trans t10).trans t11
  clear T9 T10 t10 tt9
  clear t11
  go_wp2_with fail
  go_at_call 12
  refine Calls.mono (alive_is _) ?_
  rintro e w12 ⟨rfl, t12⟩
  have T12 := T11.trans t12
  have tt12 := tt11.trans t12
  have s1 := strOf (ob8.turns tt12 (by simp)).reads
  have s2 := strOf (ow8.turns tt12 (by simp)).reads
  have s3 := strOf (od8.turns tt12 (by simp)).reads
  clear ob8 ow8 od8 tt12 tt11
  go_wp2_with fail
  go_ret
  exact ⟨rfl, T12⟩
theorem writes_long (W : World) (v : Value) (l : List Int) (x : Int) (hv : RdS 1 W v (ins l)) (hl : 150 < l.length) :
    Calls Try.prog 3 #[v, .int .u64 x] W fun e w' => e = .returned (.bool true) ∧ Turns [] W w' := by
  obtain ⟨A, c, hA, _⟩ := hv.form
  simp only [ins_len] at hA
  subst hA
  have g1 : decide ((l.length : Int) > 150) = true := decide_eq_true (by omega)
  clear hv
  go_enter Try.func3, Try.ntmps3
  go_wp2_with fail
  go_at_call 12
  refine Calls.mono (alive_is _) ?_
  rintro e w12 ⟨rfl, t12⟩
  go_wp2_with fail
  go_ret
  exact ⟨rfl, t12⟩
theorem opened {H : Type} (enc : TypeId × Value → H) (W : World) {base : Nat} {v0 v1 : Value} {d0 d1 : DataW H} {p0 p1 : List MemPlace} (h0 : DataW.Trod enc Try.prog W 0 (fun _ => true) true 22 v0 d0 p0)
    (h1 : DataW.Trod enc Try.prog W 0 (fun _ => true) true 23 v1 d1 p1) (o0 : Value.okWide Try.prog W .any base 22 v0) (o1 : Value.okWide Try.prog W .any base 23 v1) :
    Calls Try.prog 3 #[v0, v1] W fun e w' => e = .returned (.bool true) ∧ Below W.heap.size W w' := by
  obtain ⟨l, hr, hb⟩ := kSlice.ints (arg_slice Try.underlying22 (nInt Try.underlying3 (by kernel_rfl)) (by kernel_rfl) h0 o0)
  obtain ⟨x, rfl, hx⟩ := arg_int Try.underlying23 (by kernel_rfl) h1 o1
  have hx2 := u64_bd hx
  have hx3 : 0 ≤ x ∧ x < 18446744073709551616 := by omega
  have : Calls Try.prog 3 #[v0, .int .u64 x] W fun e w' => e = .returned (.bool true) ∧ Turns [] W w' := by
    by_cases hl : l.length ≤ 150
    · by_cases hok : l.all okNum = true
      · exact writes_ok W v0 l x hr hb hx3 hl hok
      · exact writes_bad W v0 l x hr hb hx3 hl (by simpa using hok)
    · exact writes_long W v0 l x hr (by omega)
  exact this.mono fun e w' ⟨he, t⟩ => ⟨he, t.isBelow⟩
end Go.Proofs.Ythnegmpdadkkcaa.Kx
