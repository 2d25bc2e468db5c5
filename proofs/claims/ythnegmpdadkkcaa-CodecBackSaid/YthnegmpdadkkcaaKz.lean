/- The law CodecBack: its walk, and its arguments opened. -/
import Derived.Test.YthnegmpdadkkcaaKy
set_option linter.unusedVariables false
set_option linter.unusedSimpArgs false
set_option maxRecDepth 100000
namespace Go.Proofs.Ythnegmpdadkkcaa.Kz
open Go.RowKit Go.MapKept Go.ChangeShapes Go.WideShapes Hm Hs Hr Hb Hf Hg Hv Ho Hn Ha Kw Kn Kp Kr Ks Ka Kx
theorem bits_be8 {y : Int} (hy : 0 ≤ y ∧ y < 18446744073709551616) (rest : List Int) : St.bits ⟨be8 y ++ rest, false⟩ = (y, ⟨rest, false⟩) := by
  rw [bits_ok rfl (by simp [be8_len])]
  simp only
  rw [List.take_append_of_le_length (by rw [be8_len]; omega), List.take_of_length_le (by rw [be8_len]; omega), val8_be8 hy, List.drop_append_of_le_length (by rw [be8_len]; omega), List.drop_of_length_le (by rw [be8_len]; omega)]
  rfl
theorem upto_be8 {y : Int} (hy : okNum y = true) (rest : List Int) : St.upto ⟨be8 y ++ rest, false⟩ 4611686018427387904 = (y, ⟨rest, false⟩) := by
  have hy2 : 0 ≤ y ∧ y ≤ 4611686018427387904 := by unfold okNum at hy; simpa using hy
  have h := bits_be8 (y := y) (by omega) rest
  rw [Kt.upto_3 (by rw [h]) (by rw [h]; simp only; omega), h]
theorem rnum_be8 (w : World) (b : Nat) (own : Option Nat) (y : Int) (rest : List Int) (hy : okNum y = true) (i : IsRd 146 w b own ⟨be8 y ++ rest, false⟩) (hl : rest.length ≤ 100000) :
    Calls Try.prog 19 #[.pointer (some ⟨b, 0, none⟩)] w fun e w' => e = .returned (.int .i64 y) ∧ IsRd 146 w' b own ⟨rest, false⟩ ∧ Turns [b] w w' := by
  have h := Kt.num_is w b own _ i (by rw [List.length_append, be8_len]; omega)
  rw [upto_be8 hy] at h
  exact h
theorem rbits_be8 (w : World) (b : Nat) (own : Option Nat) (y : Int) (rest : List Int) (hy : 0 ≤ y ∧ y < 18446744073709551616) (i : IsRd 146 w b own ⟨be8 y ++ rest, false⟩) (hl : rest.length ≤ 100000) :
    Calls Try.prog 21 #[.pointer (some ⟨b, 0, none⟩)] w fun e w' => e = .returned (.int .u64 y) ∧ IsRd 146 w' b own ⟨rest, false⟩ ∧ Turns [b] w w' := by
  have h := rbits_is w b own _ i (by simp [be8_len]; omega)
  rw [bits_be8 hy] at h
  exact h
theorem rdone_of (w : World) (b : Nat) (own : Option Nat) (s : St) (d : Int) (i : IsRd 146 w b own s) (hd : s.done = d) : Calls Try.prog 25 #[.pointer (some ⟨b, 0, none⟩)] w fun e w' => e = .returned (.int .i64 d) ∧ Turns [] w w' := by
  have h := Kt.rdone_is w b own s i
  rw [hd] at h
  exact h
/-- three readers, apart -/
structure Tri (w : World) (b1 b2 b3 : Nat) (o1 o2 o3 : Option Nat) (s1 s2 s3 : St) : Prop where
  r1 : IsRd 146 w b1 o1 s1
  r2 : IsRd 146 w b2 o2 s2
  r3 : IsRd 146 w b3 o3 s3
  a12 : b2 ≠ b1 ∧ ∀ k, o2 = some k → k ≠ b1
  a13 : b3 ≠ b1 ∧ ∀ k, o3 = some k → k ≠ b1
  a21 : b1 ≠ b2 ∧ ∀ k, o1 = some k → k ≠ b2
  a23 : b3 ≠ b2 ∧ ∀ k, o3 = some k → k ≠ b2
  a31 : b1 ≠ b3 ∧ ∀ k, o1 = some k → k ≠ b3
  a32 : b2 ≠ b3 ∧ ∀ k, o2 = some k → k ≠ b3
theorem IsRd.away {w w' : World} {b b' : Nat} {own : Option Nat} {s : St} (h : IsRd 146 w b own s) (t : Turns [b'] w w') (ha : b ≠ b' ∧ ∀ k, own = some k → k ≠ b') : IsRd 146 w' b own s :=
  h.turns t (by simpa using ha.1) (fun k hk => by simpa using ha.2 k hk)
theorem Tri.turns {w w' : World} {b1 b2 b3 : Nat} {o1 o2 o3 : Option Nat} {s1 s2 s3 : St} (h : Tri w b1 b2 b3 o1 o2 o3 s1 s2 s3) (t : Turns [] w w') : Tri w' b1 b2 b3 o1 o2 o3 s1 s2 s3 :=
  ⟨h.r1.turns t (by simp) (by simp), h.r2.turns t (by simp) (by simp), h.r3.turns t (by simp) (by simp), h.a12, h.a13, h.a21, h.a23, h.a31, h.a32⟩
theorem Tri.on1 {w w' : World} {b1 b2 b3 : Nat} {o1 o2 o3 : Option Nat} {s1 s2 s3 s : St} (h : Tri w b1 b2 b3 o1 o2 o3 s1 s2 s3) (t : Turns [b1] w w') (i : IsRd 146 w' b1 o1 s) : Tri w' b1 b2 b3 o1 o2 o3 s s2 s3 :=
  ⟨i, IsRd.away h.r2 t h.a12, IsRd.away h.r3 t h.a13, h.a12, h.a13, h.a21, h.a23, h.a31, h.a32⟩
theorem Tri.on2 {w w' : World} {b1 b2 b3 : Nat} {o1 o2 o3 : Option Nat} {s1 s2 s3 s : St} (h : Tri w b1 b2 b3 o1 o2 o3 s1 s2 s3) (t : Turns [b2] w w') (i : IsRd 146 w' b2 o2 s) : Tri w' b1 b2 b3 o1 o2 o3 s1 s s3 :=
  ⟨IsRd.away h.r1 t h.a21, i, IsRd.away h.r3 t h.a23, h.a12, h.a13, h.a21, h.a23, h.a31, h.a32⟩
theorem Tri.on3 {w w' : World} {b1 b2 b3 : Nat} {o1 o2 o3 : Option Nat} {s1 s2 s3 s : St} (h : Tri w b1 b2 b3 o1 o2 o3 s1 s2 s3) (t : Turns [b3] w w') (i : IsRd 146 w' b3 o3 s) : Tri w' b1 b2 b3 o1 o2 o3 s1 s2 s :=
  ⟨IsRd.away h.r1 t h.a31, IsRd.away h.r2 t h.a32, i, h.a12, h.a13, h.a21, h.a23, h.a31, h.a32⟩
theorem putR_cons (x : Int) (l : List Int) : putR (x :: l) = be8 x ++ putR l := rfl
theorem u64_ok {y : Int} (h : okNum y = true) : u64 y = y := by
  have hy2 : 0 ≤ y ∧ y ≤ 4611686018427387904 := by unfold okNum at h; simpa using h
  unfold u64; omega
theorem byt_putR (l : List Int) : Byt (putR l) := by
  intro c hc
  unfold putR at hc
  obtain ⟨m, hm, hcm⟩ := List.mem_flatten.1 hc
  obtain ⟨y, _, rfl⟩ := List.mem_map.1 hm
  exact byt_be8 y c hcm
theorem Byt.append {l m : List Int} (h : Byt l) (k : Byt m) : Byt (l ++ m) := fun c hc => by rcases List.mem_append.1 hc with h1 | h1; exact h c h1; exact k c h1
theorem back_long (W : World) (v : Value) (l : List Int) (x : Int) (hv : RdS 1 W v (ins l)) (hl : 150 < l.length) :
    Calls Try.prog 5 #[v, .int .u64 x] W fun e w' => e = .returned (.bool true) ∧ Turns [] W w' := by
  obtain ⟨A, c, hA, _⟩ := hv.form
  simp only [ins_len] at hA
  subst hA
  have g1 : decide ((l.length : Int) > 150) = true := decide_eq_true (by omega)
  clear hv
  go_enter Try.func5, Try.ntmps5
  go_wp2_with fail
  go_at_call 12
  refine Calls.mono (alive_is _) ?_
  rintro e w12 ⟨rfl, t12⟩
  go_wp2_with fail
  go_ret
  exact ⟨rfl, t12⟩
set_option maxHeartbeats 4000000 in
theorem back_bad (W : World) (v : Value) (l : List Int) (x : Int) (hv : RdS 1 W v (ins l)) (hb : ∀ y ∈ l, -9223372036854775808 ≤ y ∧ y ≤ 9223372036854775807) (hx : 0 ≤ x ∧ x < 18446744073709551616) (hl : l.length ≤ 150) (hbad : l.all okNum = false) :
    Calls Try.prog 5 #[v, .int .u64 x] W fun e w' => e = .returned (.bool true) ∧ Turns [] W w' := by
  obtain ⟨A, c, hA, _⟩ := hv.form
  simp only [ins_len] at hA
  subst hA
  have g1 : decide ((l.length : Int) > 150) = false := decide_eq_false (by omega)
  have hI := newW W
  have T0 := (Turns.refl [] W).alloc (.cells #[.slice none 0 0, .bool false] 28)
  have hIh : Hid _ := hI
  have T0h : Hid _ := T0
  have hvh : Hid _ := hv
  have hbh : Hid _ := hb
  have hxh : Hid _ := hx
  have hbadh : Hid _ := hbad
  clear hI T0 hv hb hx hbad
  go_enter Try.func5, Try.ntmps5
  go_wp2_with fail
  go_at_call 14
  refine Calls.mono (num_is W.heap.size _ _ _ [] false hIh.out _ l (below_rds hvh.out T0h.out.isBelow) (.inl fun w' k => below_rds hvh.out (T0h.out.isBelow.trans k)) (by simp; omega) hbh.out) ?_
  rintro e w1 ⟨rfl, ⟨bv1, h1⟩, l1⟩
  rw [hbadh.out] at h1
  have T1 := T0h.out.below l1 (Nat.le_refl _)
  go_wp2_with fail
  go_at_call 13
  refine Calls.mono (bits_is W.heap.size x hxh.out _ _ _ _ _ h1 (by rw [List.nil_append, putR_len, List.length_map]; omega)) ?_
  rintro e w2 ⟨rfl, ⟨bv2, h2⟩, l2⟩
  have T2 := T1.below l2 (Nat.le_refl _)
  clear h1 l1 l2 T1 T0h hIh hvh hbh
  go_wp2_with fail
  go_at_call 15
  refine Calls.mono (done_wrong W.heap.size _ _ bv2 _ h2) ?_
  rintro e w3 ⟨rfl, t3⟩
  have T3 := T2.trans t3
  clear h2 T2 t3
  go_wp2_with fail
  go_at_call 12
  refine Calls.mono (alive_is _) ?_
  rintro e w12 ⟨rfl, t12⟩
  go_wp2_with fail
  go_ret
  exact ⟨rfl, T3.trans t12⟩
set_option maxHeartbeats 8000000 in
theorem back_ok (W : World) (v : Value) (l : List Int) (x : Int) (hv : RdS 1 W v (ins l)) (hb : ∀ y ∈ l, -9223372036854775808 ≤ y ∧ y ≤ 9223372036854775807) (hx : 0 ≤ x ∧ x < 18446744073709551616) (hl : l.length ≤ 150) (hok : l.all okNum = true) :
    Calls Try.prog 5 #[v, .int .u64 x] W fun e w' => e = .returned (.bool true) ∧ Turns [] W w' := by
  obtain ⟨A, c, hA, _⟩ := hv.form
  simp only [ins_len] at hA
  subst hA
  have g1 : decide ((l.length : Int) > 150) = false := decide_eq_false (by omega)
  have hmap : l.map u64 = l := by
    rw [List.all_eq_true] at hok
    exact (List.map_congr_left (fun y hy => u64_ok (hok y hy))).trans (List.map_id l)
  have hI := newW W
  have T0 := (Turns.refl [] W).alloc (.cells #[.slice none 0 0, .bool false] 28)
  have hIh : Hid _ := hI
  have T0h : Hid _ := T0
  have hvh : Hid _ := hv
  have hbh : Hid _ := hb
  have hxh : Hid _ := hx
  have hokh : Hid _ := hok
  have hmaph : Hid _ := hmap
  clear hI T0 hv hb hx hok hmap
  go_enter Try.func5, Try.ntmps5
  go_wp2_with fail
  go_at_call 14
  refine Calls.mono (num_is W.heap.size _ _ _ [] false hIh.out _ l (below_rds hvh.out T0h.out.isBelow) (.inl fun w' k => below_rds hvh.out (T0h.out.isBelow.trans k)) (by simp; omega) hbh.out) ?_
  rintro e w1 ⟨rfl, ⟨bv1, h1⟩, l1⟩
  rw [hokh.out, hmaph.out, List.nil_append] at h1
  have T1 := T0h.out.below l1 (Nat.le_refl _)
  go_wp2_with fail
  go_at_call 13
  refine Calls.mono (bits_is W.heap.size x hxh.out _ _ _ _ _ h1 (by rw [putR_len]; omega)) ?_
  rintro e w2 ⟨rfl, ⟨bv2, h2⟩, l2⟩
  have T2 := T1.below l2 (Nat.le_refl _)
  clear h1 l1 l2 T1 T0h hIh hbh
  obtain ⟨full, hfull⟩ : ∃ full, putR l ++ be8 x = full := ⟨_, rfl⟩
  have hn : full.length = 8 * l.length + 8 := by rw [← hfull, List.length_append, putR_len, be8_len]
  rw [hfull] at h2
  have hfullh : Hid _ := hfull
  have hnh : Hid _ := hn
  have hbyt : Byt full := by rw [← hfull]; exact Byt.append (byt_putR l) (byt_be8 x)
  have hbyth : Hid _ := hbyt
  have hn1 : full.length ≤ 1208 := by omega
  have hn2 : 8 ≤ full.length := by omega
  have g2 : (((full.length : Nat) : Int) != 8 * (l.length : Int) + 8) = false := by simp; omega
  have g3 : IntKind.i64.wrap (8 * (l.length : Int)) = 8 * (l.length : Int) := IntWalk.i64_in _ (by omega)
  have g4 : IntKind.i64.wrap (8 * (l.length : Int) + 8) = 8 * (l.length : Int) + 8 := IntWalk.i64_in _ (by omega)
  have g5 : IntKind.i64.wrap ((full.length : Int) - 1) = ((full.length - 1 : Nat) : Int) := by rw [IntWalk.i64_in _ (by omega)]; omega
  have ht : full.take (full.length - 1) = putR l ++ (be8 x).take 7 := by
    rw [← hfull, List.length_append, putR_len, be8_len, show 8 * l.length + 8 - 1 = (putR l).length + 7 from by rw [putR_len]; omega, List.take_length_add_append]
  have hth : Hid _ := ht
  clear hfull hn hbyt ht
  go_wp2_with fail
  go_at_call 15
  refine Calls.mono (done_ok W.heap.size _ _ bv2 _ h2 (by omega)) ?_
  rintro e w3 ⟨vb, rfl, ob, t3, nb⟩
  have T3 := T2.trans t3
  obtain ⟨Ab, cb, hvb, hcb, _⟩ := ob.form
  rw [bys_len] at hvb hcb
  subst hvb
  have hcut := RdS.take ob.reads (k := full.length - 1) (by rw [bys_len]; omega)
  rw [bys_take, hth.out] at hcut
  have hrd := ob.reads
  have hcuth : Hid _ := hcut
  have hrdh : Hid _ := hrd
  have hobh : Hid _ := ob
  have hs3 := T3.size
  clear h2 T2 t3 hcut hrd ob nb
  go_wp2_with fail
  go_at_call 18
  refine Calls.mono (Kt.read_is _ _ full hrdh.out (by omega) hbyth.out) ?_
  rintro e w4 ⟨b1, o1, rfl, i1, t4, hb1, ho1⟩
  rw [← hfullh.out] at i1
  have hlen2 : (putR l ++ (be8 x).take 7).length ≤ 1000000 := by rw [List.length_append, putR_len, List.length_take, be8_len]; omega
  have hlen2h : Hid _ := hlen2
  clear hlen2
  go_wp2_with fail
  go_at_call 18
  refine Calls.mono (Kt.read_is _ _ (putR l ++ (be8 x).take 7) (RdS.mv hcuth.out (fun a u hu => t4.old hu)) hlen2h.out (Byt.append (byt_putR l) ((byt_be8 x).take 7))) ?_
  rintro e w5 ⟨b2, o2, rfl, i2, t5, hb2, ho2⟩
  have T5 := (T3.trans t4).trans t5
  have h45 := t4.size
  have h56 := t5.size
  have hb1l : b1 < w4.heap.size := World.block_lt_of_cell? w4 _ i1.cell1.1
  have hb2l : b2 < w5.heap.size := World.block_lt_of_cell? w5 _ i2.cell1.1
  have j1 := i1.turns t5 (by simp) (by simp)
  have ho1l := i1.lt
  have ho2l := i2.lt
  have hs5 := RdS.mv (OwnS.reads hobh.out) (fun a u hu => t5.old (t4.old hu))
  have hz : OwnS 5 1 (w5.alloc (.cells #[] 5)) (.slice (some ⟨w5.heap.size, 0, none⟩) 0 0) [] := ⟨World.ownsRow_lit w5 #[] 0 (Nat.zero_le _) (by decide) rfl, by simp⟩
  have tz := (Turns.refl [] w5).alloc (.cells #[] 5)
  have hs6 : RdS 1 (w5.alloc (.cells #[] 5)) _ (bys full) := RdS.mv hs5 (fun a u hu => tz.old hu)
  have hzh : Hid _ := hz
  have hs6h : Hid _ := hs6
  clear hz hs6 hs5 hobh hcuth hrdh t4 t5 i1
  go_wp2_with (at_builtin; refine stop_ ?_)
  refine Mk_.mk ?_
  refine wp_append hzh.out hs6h.out rfl _ _ _ rfl (.int .u8 0) 1 Try.underlying26 info5 rfl (by decide) rfl rfl (bys_one _) (by rw [bys_len, List.length_nil]; omega) (by rw [bys_len, List.length_nil]; omega) ?_
  intro v7 w7 o7 t7 hloc hnil
  rw [List.nil_append] at o7
  obtain ⟨A7, c7, hv7, _⟩ := o7.form
  rw [bys_len] at hv7
  subst hv7
  have hown7 : ∀ k, (Value.slice A7 full.length c7).ownBlock = some k → w5.heap.size ≤ k := fun k hk => by
    rw [hk] at hloc; simp [Value.ownBlock] at hloc; omega
  have t57 := tz.then t7 (by simp [Value.ownBlock])
  have t57h : Hid _ := t57
  have o7h : Hid _ := o7
  have hown7h : Hid _ := hown7
  have hA1 : RdS 1 (w7.alloc (.cells #[.int .u8 0] 5)) (.slice (some ⟨w7.heap.size, 0, none⟩) 1 1) (bys [0]) := RdS.of_blk (l := [0]) (heap_alloc w7 (.cells #[.int .u8 0] 5)).1 rfl 1 (by simp) (by decide)
  have tA1 := (Turns.refl [] w7).alloc (.cells #[.int .u8 0] 5)
  have o8 := o7.turns tA1 (by simp)
  have hA1h : Hid _ := hA1
  have o8h : Hid _ := o8
  have tA1h : Hid _ := tA1
  clear hA1 tA1 o8 t57 o7 hown7 tz t7 hzh hs6h hloc hnil
  go_wp2_with (at_builtin; refine stop_ ?_)
  refine Mk_.mk ?_
  refine wp_append o8h.out hA1h.out rfl _ _ _ rfl (.int .u8 0) 1 Try.underlying26 info5 rfl (by decide) rfl rfl (bys_one _) (by rw [bys_len, bys_len, List.length_singleton]; omega) (by rw [bys_len, bys_len, List.length_singleton]; omega) ?_
  intro v9 w9 o9 t9 hloc hnil
  rw [← bys_append] at o9
  obtain ⟨A9, c9, hv9, _⟩ := o9.form
  rw [bys_len, List.length_append, List.length_singleton] at hv9
  subst hv9
  have t59 := (t57h.out.trans tA1h.out).then t9 (fun k hk => .inr (hown7h.out k (by simpa using hk)))
  have hown9 : ∀ k, (Value.slice A9 (full.length + 1) c9).ownBlock = some k → w5.heap.size ≤ k := fun k hk => by
    rcases hloc with h1 | h1
    · exact hown7h.out k (h1 ▸ hk)
    · rw [hk] at h1; injection h1 with h1; have := (t57h.out.trans tA1h.out).size; omega
  have T9 := T5.trans t59
  have k1 := j1.turns t59 (by simp) (by simp)
  have k2 := i2.turns t59 (by simp) (by simp)
  have s59 := t59.size
  clear t57h o7h hown7h hA1h tA1h o8h t9 hloc hnil j1 i2 T5
  go_wp2_with fail
  go_at_call 18
  refine Calls.mono (Kt.read_is _ _ (full ++ [0]) o9.reads (by rw [List.length_append, List.length_singleton]; omega) (Byt.append hbyth.out (by intro c hc; simp at hc; omega))) ?_
  rintro e w10 ⟨b3, o3, rfl, i3, t10, hb3, ho3⟩
  have T10 := T9.trans t10
  rw [← hfullh.out, List.append_assoc] at i3
  have hTri : Tri w10 b1 b2 b3 o1 o2 o3 ⟨putR l ++ be8 x, false⟩ ⟨putR l ++ (be8 x).take 7, false⟩ ⟨putR l ++ (be8 x ++ [0]), false⟩ :=
    ⟨k1.turns t10 (by simp) (by simp), k2.turns t10 (by simp) (by simp), i3, ⟨by omega, fun k hk => by have := ho2 k hk; omega⟩, ⟨by omega, fun k hk => by have := ho3 k hk; omega⟩,
      ⟨by omega, fun k hk => by have := ho1l k hk; omega⟩, ⟨by omega, fun k hk => by have := ho3 k hk; omega⟩, ⟨by omega, fun k hk => by have := ho1l k hk; omega⟩, ⟨by omega, fun k hk => by have := ho2l k hk; omega⟩⟩
  have hW1 : W.heap.size ≤ b1 := by omega
  have hW2 : W.heap.size ≤ b2 := by omega
  have hW3 : W.heap.size ≤ b3 := by omega
  clear k1 k2 i3 t10 T9 t59 hown9 o9 hb1 hb2 hb3 ho1 ho2 ho3 hb1l hb2l ho1l ho2l h45 h56 s59 hs3 T3 hfullh hnh hbyth hth hlen2h
  go_wp2_with fail
  go_loopw [12] (fun v12 wr => ∃ (k : Nat), k ≤ l.length ∧ v12 = .int .i64 k ∧ Tri wr b1 b2 b3 o1 o2 o3 ⟨putR (l.drop k) ++ be8 x, false⟩ ⟨putR (l.drop k) ++ (be8 x).take 7, false⟩ ⟨putR (l.drop k) ++ (be8 x ++ [0]), false⟩ ∧ Turns [] W wr) (fun v12 _ => l.length - (intOf v12).toNat)
  case atStart => exact ⟨0, Nat.zero_le _, rfl, hTri, T10⟩
  case round =>
    obtain ⟨k, hk, rfl, hT, Tr⟩ := hrel
    clear hTri T10
    by_cases hlt : k < l.length
    · have g6 : decide ((k : Int) < (l.length : Int)) = true := by simp; omega
      obtain ⟨y, hy⟩ : ∃ y, l[k]? = some y := ⟨_, List.getElem?_eq_getElem hlt⟩
      obtain ⟨ad, c', hvv, _, hcell⟩ := RdS.at_ hvh.out (j := k) (r := [.int .i64 y]) (by unfold ins; rw [List.getElem?_map, hy]; rfl)
      injection hvv with e1 e2 e3
      subst e1 e3
      clear e2
      have icW := hcell 0 _ rfl
      rw [Nat.mul_one, Nat.add_zero] at icW
      have hpl : (ad.add k).block < W.heap.size := World.block_lt_of_cell? W _ icW
      have i0 : wr.drew.cell? (ad.add k) = some (.int .i64 y) := Tr.old icW
      have hoky : okNum y = true := by have := hokh.out; rw [List.all_eq_true] at this; exact this y (List.mem_of_getElem? hy)
      have hdr : l.drop k = y :: l.drop (k + 1) := by rw [List.drop_eq_getElem?_toList_append, hy]; rfl
      rw [hdr, putR_cons, List.append_assoc, List.append_assoc, List.append_assoc] at hT
      have hpl1 : (putR (l.drop (k + 1))).length ≤ 1200 := by rw [putR_len, List.length_drop]; omega
      have ha1 : (putR (l.drop (k + 1)) ++ be8 x).length ≤ 100000 := by rw [List.length_append, be8_len]; omega
      have ha2 : (putR (l.drop (k + 1)) ++ (be8 x).take 7).length ≤ 100000 := by rw [List.length_append, List.length_take, be8_len]; omega
      have ha3 : (putR (l.drop (k + 1)) ++ (be8 x ++ [0])).length ≤ 100000 := by rw [List.length_append, List.length_append, be8_len, List.length_singleton]; omega
      have hTd := hT.turns ((Turns.refl [] wr).drew)
      have Td := Tr.drew
      have gy : (y != y) = false := by simp
      have hokyh : Hid _ := hoky
      have hah : Hid _ := And.intro ha1 (And.intro ha2 ha3)
      clear hT Tr hdr hy hcell hoky hpl1 ha1 ha2 ha3 hvh hokh
      go_wp2_with fail
      refine wp_region_flo [(0, true), (2, true), (3, true), (4, true), (5, true), (1, false), (6, true), (7, true), (8, true), (10, true), (11, true), (12, true), (13, true), (9, false), (14, true), (15, true), (16, true), (17, true), (19, true), (20, true), (21, true), (22, true), (18, false), (23, true), (24, true)] (fun W => W.cell? (ad.add k) = some (.int .i64 y)) (by kernel_rfl) rfl (by kernel_rfl) (by intro c d v a w h; cases d <;> first | (simpa [Exit.then, Exit.inBlock, Act.put] using h) | exact h) (i0) ?_
      generalize wr.drew = wd at *
      refine flo_read _ rfl (fun K hK => ?_)
      go_simp
      first | (refine hK _ ?_) | (refine ⟨fun W hS => ?_, hK _ ?_⟩; · (have x0 := hS; try go_simp))
      clear hK K
      refine flo_read _ rfl (fun K hK => ?_)
      go_simp
      first | (refine hK _ ?_) | (refine ⟨fun W hS => ?_, hK _ ?_⟩; · (have x0 := hS; try go_simp))
      clear hK K
      refine flo_read _ rfl (fun K hK => ?_)
      go_simp
      first | (refine hK _ ?_) | (refine ⟨fun W hS => ?_, hK _ ?_⟩; · (have x0 := hS; try go_simp))
      clear hK K
      refine flo_read _ rfl (fun K hK => ?_)
      go_simp
      first | (refine hK _ ?_) | (refine ⟨fun W hS => ?_, hK _ ?_⟩; · (have x0 := hS; try go_simp))
      clear hK K
      refine flo_read _ rfl (fun K hK => ?_)
      go_simp
      first | (refine hK _ ?_) | (refine ⟨fun W hS => ?_, hK _ ?_⟩; · (have x0 := hS; try go_simp))
      clear hK K
      refine flo_alone _ rfl ?_
      go_wp2_with fail
      go_at_call 19
      refine Calls.mono (rnum_be8 _ b1 o1 y _ hokyh.out hTd.r1 hah.out.1) ?_
      rintro e w11 ⟨rfl, q1, t11⟩
      go_wp2_with fail
      refine ⟨fun W => W.cell? (ad.add k) = some (.int .i64 y), fun W h => h, (t11.cell (World.block_lt_of_cell? wd _ i0) (by simp; omega)).trans i0, ?_⟩
      have i1 : w11.cell? (ad.add k) = some (.int .i64 y) := (t11.cell (World.block_lt_of_cell? wd _ i0) (by simp; omega)).trans i0
      have hT1 := hTd.on1 t11 q1
      have T11 := Td.then t11 (by simpa using hW1)
      clear hTd q1 t11 Td i0
      refine flo_read _ rfl (fun K hK => ?_)
      go_simp
      first | (refine hK _ ?_) | (refine ⟨fun W hS => ?_, hK _ ?_⟩; · (have x0 := hS; try go_simp))
      clear hK K
      refine flo_read _ rfl (fun K hK => ?_)
      go_simp
      first | (refine hK _ ?_) | (refine ⟨fun W hS => ?_, hK _ ?_⟩; · (have x0 := hS; try go_simp))
      clear hK K
      refine flo_read _ rfl (fun K hK => ?_)
      go_simp
      first | (refine hK _ ?_) | (refine ⟨fun W hS => ?_, hK _ ?_⟩; · (have x0 := hS; try go_simp))
      clear hK K
      refine flo_read _ rfl (fun K hK => ?_)
      go_simp
      first | (refine hK _ ?_) | (refine ⟨fun W hS => ?_, hK _ ?_⟩; · (have x0 := hS; try go_simp))
      clear hK K
      refine flo_read _ rfl (fun K hK => ?_)
      go_simp
      first | (refine hK _ ?_) | (refine ⟨fun W hS => ?_, hK _ ?_⟩; · (have x0 := hS; try go_simp))
      clear hK K
      refine flo_read _ rfl (fun K hK => ?_)
      go_simp
      first | (refine hK _ ?_) | (refine ⟨fun W hS => ?_, hK _ ?_⟩; · (have x0 := hS; try go_simp))
      clear hK K
      refine flo_read _ rfl (fun K hK => ?_)
      go_simp
      first | (refine hK _ ?_) | (refine ⟨fun W hS => ?_, hK _ ?_⟩; · (have x0 := hS; try go_simp))
      clear hK K
      refine flo_alone _ rfl ?_
      go_wp2_with fail
      go_at_call 19
      refine Calls.mono (rnum_be8 _ b2 o2 y _ hokyh.out hT1.r2 hah.out.2.1) ?_
      rintro e w12 ⟨rfl, q2, t12⟩
      go_wp2_with fail
      refine ⟨fun W => W.cell? (ad.add k) = some (.int .i64 y), fun W h => h, (t12.cell (World.block_lt_of_cell? w11 _ i1) (by simp; omega)).trans i1, ?_⟩
      have i2 : w12.cell? (ad.add k) = some (.int .i64 y) := (t12.cell (World.block_lt_of_cell? w11 _ i1) (by simp; omega)).trans i1
      have hT2 := hT1.on2 t12 q2
      have T12 := T11.then t12 (by simpa using hW2)
      clear hT1 q2 t12 T11 i1
      refine flo_read _ rfl (fun K hK => ?_)
      go_simp
      first | (refine hK _ ?_) | (refine ⟨fun W hS => ?_, hK _ ?_⟩; · (have x0 := hS; try go_simp))
      clear hK K
      refine flo_read _ rfl (fun K hK => ?_)
      go_simp
      first | (refine hK _ ?_) | (refine ⟨fun W hS => ?_, hK _ ?_⟩; · (have x0 := hS; try go_simp))
      clear hK K
      refine flo_read _ rfl (fun K hK => ?_)
      go_simp
      first | (refine hK _ ?_) | (refine ⟨fun W hS => ?_, hK _ ?_⟩; · (have x0 := hS; try go_simp))
      clear hK K
      refine flo_read _ rfl (fun K hK => ?_)
      go_simp
      first | (refine hK _ ?_) | (refine ⟨fun W hS => ?_, hK _ ?_⟩; · (have x0 := hS; try go_simp))
      clear hK K
      refine flo_read _ rfl (fun K hK => ?_)
      go_simp
      first | (refine hK _ ?_) | (refine ⟨fun W hS => ?_, hK _ ?_⟩; · (have x0 := hS; try go_simp))
      clear hK K
      refine flo_read _ rfl (fun K hK => ?_)
      go_simp
      first | (refine hK _ ?_) | (refine ⟨fun W hS => ?_, hK _ ?_⟩; · (have x0 := hS; try go_simp))
      clear hK K
      refine flo_read _ rfl (fun K hK => ?_)
      go_simp
      first | (refine hK _ ?_) | (refine ⟨fun W hS => ?_, hK _ ?_⟩; · (have x0 := hS; try go_simp))
      clear hK K
      refine flo_read _ rfl (fun K hK => ?_)
      go_simp
      first | (refine hK _ ?_) | (refine ⟨fun W hS => ?_, hK _ ?_⟩; · (have x0 := hS; try go_simp))
      clear hK K
      refine flo_alone _ rfl ?_
      go_wp2_with fail
      go_at_call 19
      refine Calls.mono (rnum_be8 _ b3 o3 y _ hokyh.out hT2.r3 hah.out.2.2) ?_
      rintro e w13 ⟨rfl, q3, t13⟩
      go_wp2_with fail
      refine ⟨fun W => W.cell? (ad.add k) = some (.int .i64 y), fun W h => h, (t13.cell (World.block_lt_of_cell? w12 _ i2) (by simp; omega)).trans i2, ?_⟩
      have hT3 := hT2.on3 t13 q3
      have T13 := T12.then t13 (by simpa using hW3)
      clear hT2 q3 t13 T12 i2
      refine flo_read _ rfl (fun K hK => ?_)
      go_simp
      first | (refine hK _ ?_) | (refine ⟨fun W hS => ?_, hK _ ?_⟩; · (skip; try go_simp))
      clear hK K
      refine flo_read _ rfl (fun K hK => ?_)
      go_simp
      first | (refine hK _ ?_) | (refine ⟨fun W hS => ?_, hK _ ?_⟩; · (skip; try go_simp))
      clear hK K
      refine flo_end ?_
      go_wp2_with fail
      go_roundw
      case rel => exact ⟨k + 1, by omega, by go_num, hT3, T13⟩
      case measure => simp [intOf]; omega
    · obtain rfl : k = l.length := by omega
      have g6 : decide ((l.length : Int) < (l.length : Int)) = false := by simp
      rw [List.drop_length] at hT
      have hx7 : ((be8 x).take 7).length = 7 := by rw [List.length_take, be8_len]; rfl
      have hT' : Tri wr b1 b2 b3 o1 o2 o3 ⟨be8 x ++ [], false⟩ ⟨(be8 x).take 7, false⟩ ⟨be8 x ++ [0], false⟩ := by rw [List.append_nil]; exact hT
      have hx7h : Hid _ := hx7
      clear hT hvh hokh hx7
      go_wp2_with fail
      go_at_call 12
      refine Calls.mono (alive_is _) ?_
      rintro e w11 ⟨rfl, t11⟩
      have h11 := hT'.turns t11
      have T11 := Tr.trans t11
      clear hT' t11 Tr
      go_wp2_with fail
      go_at_call 21
      refine Calls.mono (rbits_be8 _ b1 o1 x [] hxh.out h11.r1 (by simp)) ?_
      rintro e w12 ⟨rfl, q1, t12⟩
      have h12 := h11.on1 t12 q1
      have T12 := T11.then t12 (by simpa using hW1)
      clear h11 q1 t12 T11
      go_wp2_with fail
      go_at_call 25
      refine Calls.mono (rdone_of _ b1 o1 _ 0 h12.r1 (Kt.done_3 rfl rfl)) ?_
      rintro e w13 ⟨rfl, t13⟩
      have h13 := h12.turns t13
      have T13 := T12.trans t13
      clear h12 t13 T12
      go_wp2_with fail
      go_at_call 21
      refine Calls.mono (rbits_bad _ b2 o2 _ h13.r2 (.inr (by show ((be8 x).take 7).length < 8; rw [hx7h.out]; omega))) ?_
      rintro e w14 ⟨rfl, q2, t14⟩
      have h14 := h13.on2 t14 q2
      have T14 := T13.then t14 (by simpa using hW2)
      clear h13 q2 t14 T13
      go_wp2_with fail
      go_at_call 25
      refine Calls.mono (rdone_of _ b2 o2 _ 2 h14.r2 (Kt.done_1 rfl)) ?_
      rintro e w15 ⟨rfl, t15⟩
      have h15 := h14.turns t15
      have T15 := T14.trans t15
      clear h14 t15 T14
      go_wp2_with fail
      go_at_call 21
      refine Calls.mono (rbits_be8 _ b3 o3 x [0] hxh.out h15.r3 (by simp)) ?_
      rintro e w16 ⟨rfl, q3, t16⟩
      have h16 := h15.on3 t16 q3
      have T16 := T15.then t16 (by simpa using hW3)
      clear h15 q3 t16 T15
      go_wp2_with fail
      go_at_call 25
      refine Calls.mono (rdone_of _ b3 o3 _ 2 h16.r3 (Kt.done_2 (by simp))) ?_
      rintro e w17 ⟨rfl, t17⟩
      go_wp2_with fail
      go_ret
      exact ⟨rfl, T16.trans t17⟩
theorem opened {H : Type} (enc : TypeId × Value → H) (W : World) {base : Nat} {v0 v1 : Value} {d0 d1 : DataW H} {p0 p1 : List MemPlace} (h0 : DataW.Trod enc Try.prog W 0 (fun _ => true) true 22 v0 d0 p0)
    (h1 : DataW.Trod enc Try.prog W 0 (fun _ => true) true 23 v1 d1 p1) (o0 : Value.okWide Try.prog W .any base 22 v0) (o1 : Value.okWide Try.prog W .any base 23 v1) :
    Calls Try.prog 5 #[v0, v1] W fun e w' => e = .returned (.bool true) ∧ Below W.heap.size W w' := by
  obtain ⟨l, hr, hb⟩ := kSlice.ints (arg_slice Try.underlying22 (nInt Try.underlying3 (by kernel_rfl)) (by kernel_rfl) h0 o0)
  obtain ⟨x, rfl, hx⟩ := arg_int Try.underlying23 (by kernel_rfl) h1 o1
  have hx2 := u64_bd hx
  have hx3 : 0 ≤ x ∧ x < 18446744073709551616 := by omega
  have : Calls Try.prog 5 #[v0, .int .u64 x] W fun e w' => e = .returned (.bool true) ∧ Turns [] W w' := by
    by_cases hl : l.length ≤ 150
    · by_cases hok : l.all okNum = true
      · exact back_ok W v0 l x hr hb hx3 hl hok
      · exact back_bad W v0 l x hr hb hx3 hl (by simpa using hok)
    · exact back_long W v0 l x hr (by omega)
  exact this.mono fun e w' ⟨he, t⟩ => ⟨he, t.isBelow⟩
end Go.Proofs.Ythnegmpdadkkcaa.Kz
