/- The law CodecReads: its walk, and its arguments opened. -/
import Derived.Test.YthnegmpdadkkcaaKx
set_option linter.unusedVariables false
set_option linter.unusedSimpArgs false
set_option maxRecDepth 100000
namespace Go.Proofs.Ythnegmpdadkkcaa.Ky
open Go.RowKit Go.MapKept Go.ChangeShapes Go.WideShapes Hm Hs Hr Hb Hf Hg Hv Ho Hn Ha Kw Kn Kp Kr Ks Ka Kx
structure RAc where
  kind : Int
  most : Int
def RAc.cells (a : RAc) : List Value := [.int .u8 a.kind, .int .i64 a.most]
theorem reads_long (W : World) (sv v : Value) (bs : List Int) (A : Option Addr) (c : Nat) (acts : List RAc) (hs : RdS 1 W sv (bys bs)) (hv : v = .slice A acts.length c) (hl : 2000 < bs.length ∨ 150 < acts.length) :
    Calls Try.prog 4 #[sv, v] W fun e w' => e = .returned (.bool true) ∧ Turns [] W w' := by
  subst hv
  obtain ⟨B, d, hB, _⟩ := hs.form
  rw [bys_len] at hB
  subst hB
  by_cases h1 : 2000 < bs.length
  · have g1 : decide ((bs.length : Int) > 2000) = true := decide_eq_true (by omega)
    clear hs
    go_enter Try.func4, Try.ntmps4
    go_wp2_with fail
    go_at_call 12
    refine Calls.mono (alive_is _) ?_
    rintro e w12 ⟨rfl, t12⟩
    go_wp2_with fail
    go_ret
    exact ⟨rfl, t12⟩
  · have g1 : decide ((bs.length : Int) > 2000) = false := decide_eq_false (by omega)
    have g2 : decide ((acts.length : Int) > 150) = true := decide_eq_true (by omega)
    clear hs
    go_enter Try.func4, Try.ntmps4
    go_wp2_with fail
    go_at_call 12
    refine Calls.mono (alive_is _) ?_
    rintro e w12 ⟨rfl, t12⟩
    go_wp2_with fail
    go_ret
    exact ⟨rfl, t12⟩
/-- the two readers, apart -/
structure Two (w : World) (b1 b2 : Nat) (o1 o2 : Option Nat) (s : St) : Prop where
  r1 : IsRd 146 w b1 o1 s
  r2 : IsRd 42 w b2 o2 s
  n12 : b1 ≠ b2
  n1 : ∀ k, o1 = some k → k ≠ b2
  n2 : ∀ k, o2 = some k → k ≠ b1
  len : s.bytes.length ≤ 2000
theorem Two.turns {w w' : World} {b1 b2 : Nat} {o1 o2 : Option Nat} {s : St} (h : Two w b1 b2 o1 o2 s) (t : Turns [] w w') : Two w' b1 b2 o1 o2 s :=
  ⟨h.r1.turns t (by simp) (by simp), h.r2.turns t (by simp) (by simp), h.n12, h.n1, h.n2, h.len⟩
theorem Two.next {w w1 w2 : World} {b1 b2 : Nat} {o1 o2 : Option Nat} {s s' : St} (h : Two w b1 b2 o1 o2 s) (t1 : Turns [b1] w w1) (h1 : IsRd 146 w1 b1 o1 s') (t2 : Turns [b2] w1 w2) (h2 : IsRd 42 w2 b2 o2 s') (hl : s'.bytes.length ≤ s.bytes.length) : Two w2 b1 b2 o1 o2 s' :=
  ⟨h1.turns t2 (by simpa using h.n12) (fun k hk => by simpa using h.n1 k hk), h2, h.n12, h.n1, h.n2, Nat.le_trans hl h.len⟩
theorem Two.mid {w w1 : World} {b1 b2 : Nat} {o1 o2 : Option Nat} {s : St} (h : Two w b1 b2 o1 o2 s) (t1 : Turns [b1] w w1) : IsRd 42 w1 b2 o2 s :=
  h.r2.turns t1 (by simpa using fun e => h.n12 e.symm) (fun k hk => by simpa using h.n2 k hk)
theorem upto_len (s : St) (m : Int) : (s.upto m).2.bytes.length ≤ s.bytes.length := by
  have h := Kt.bits_len s
  unfold St.upto
  split
  · exact h
  · split
    · exact h
    · exact h
set_option maxHeartbeats 4000000 in
theorem reads_is (W : World) (sv v : Value) (bs : List Int) (A : Option Addr) (c : Nat) (acts : List RAc) (hs : RdS 1 W sv (bys bs)) (hbs : Byt bs) (hv : v = .slice A acts.length c) (hr : FlatRow W A 2 (acts.map RAc.cells))
    (ha : ∀ a ∈ acts, (0 ≤ a.kind ∧ a.kind ≤ 255) ∧ -9223372036854775808 ≤ a.most ∧ a.most ≤ 9223372036854775807) (hl1 : bs.length ≤ 2000) (hl2 : acts.length ≤ 150) :
    Calls Try.prog 4 #[sv, v] W fun e w' => e = .returned (.bool true) ∧ Turns [] W w' := by
  subst hv
  have hs0 := hs
  obtain ⟨B, d, hB, _⟩ := hs.form
  rw [bys_len] at hB
  subst hB
  have g1 : decide ((bs.length : Int) > 2000) = false := decide_eq_false (by omega)
  have g2 : decide ((acts.length : Int) > 150) = false := decide_eq_false (by omega)
  have hsh : Hid _ := hs
  have hrh : Hid _ := hr
  have hah : Hid _ := ha
  clear hs hr ha hs0
  go_enter Try.func4, Try.ntmps4
  go_wp2_with fail
  go_at_call 18
  refine Calls.mono (Kt.read_is _ _ bs hsh.out (by omega) hbs) ?_
  rintro e w1 ⟨b1, o1, rfl, i1, t1, hb1, ho1⟩
  have hs1 := RdS.mv hsh.out (fun a u hu => t1.old hu)
  have hz : OwnS 5 1 (w1.alloc (.cells #[] 5)) (.slice (some ⟨w1.heap.size, 0, none⟩) 0 0) [] := ⟨World.ownsRow_lit w1 #[] 0 (Nat.zero_le _) (by decide) rfl, by simp⟩
  have tz := (Turns.refl [] w1).alloc (.cells #[] 5)
  have hs2 : RdS 1 (w1.alloc (.cells #[] 5)) _ (bys bs) := hs1.mv (fun a u hu => tz.old hu)
  have i2 := i1.turns tz (by simp) (by simp)
  have hzh : Hid _ := hz
  have hs2h : Hid _ := hs2
  clear hz hs2 hs1
  go_wp2_with (at_builtin; refine stop_ ?_)
  refine Mk_.mk ?_
  refine wp_append hzh.out hs2h.out rfl _ _ _ rfl (.int .u8 0) 1 Try.underlying26 info5 rfl (by decide) rfl rfl (bys_one _) (by rw [bys_len, List.length_nil]; omega) (by rw [bys_len, List.length_nil]; omega) ?_
  intro v3 w3 o3 t3 hloc hnil
  rw [List.nil_append] at o3
  obtain ⟨A3, c3, hv3, _⟩ := o3.form
  rw [bys_len] at hv3
  subst hv3
  have t13 := tz.then t3 (by simp [Value.ownBlock])
  have j1 := i2.turns t3 (by intro h; simp [Value.ownBlock] at h; have := i1.cell1.1; have h9 := World.block_lt_of_cell? w1 _ this; simp at h9; omega) (fun k hk h => by simp [Value.ownBlock] at h; have := i1.lt k hk; omega)
  have hb1l : b1 < w1.heap.size := World.block_lt_of_cell? w1 _ i1.cell1.1
  have ho1l := i1.lt
  have hown3 : ∀ k, (Value.slice A3 bs.length c3).ownBlock = some k → w1.heap.size ≤ k := fun k hk => by
    rw [hk] at hloc; simp [Value.ownBlock] at hloc; omega
  have hlt3 : ∀ k, (Value.slice A3 bs.length c3).ownBlock = some k → k < w3.heap.size := fun k hk => o3.lt hk
  have TA := (Turns.refl [] w3).alloc (.cells #[.slice A3 bs.length c3, .bool false] 42)
  have hI2 : IsRd 42 (w3.alloc (.cells #[.slice A3 bs.length c3, .bool false] 42)) w3.heap.size (Value.slice A3 bs.length c3).ownBlock ⟨bs, false⟩ :=
    ⟨⟨_, Blk.new w3 _ _, RdS.turns o3.reads TA (by simp), rfl⟩, fun h0 => by have := hlt3 _ h0; omega, hbs, fun k hk => Nat.lt_of_lt_of_le (hlt3 k hk) TA.size⟩
  have s13 := t13.size
  have hTw : Two (w3.alloc (.cells #[.slice A3 bs.length c3, .bool false] 42)) b1 w3.heap.size o1 (Value.slice A3 bs.length c3).ownBlock ⟨bs, false⟩ :=
    ⟨j1.turns TA (by simp) (by simp), hI2, by omega, fun k hk => by have := ho1l k hk; omega, fun k hk => by have := hown3 k hk; omega, hl1⟩
  have T4 := (t1.trans t13).trans TA
  have hW1 : W.heap.size ≤ b1 := hb1
  have hW2 : W.heap.size ≤ w3.heap.size := (t1.trans t13).size
  have hTwh : Hid _ := hTw
  have T4h : Hid _ := T4
  clear hTw T4 hI2 TA hlt3 hown3 ho1l j1 t13 i2 i1 tz t1 t3 hs2h hzh hsh o3 hloc hnil hb1l ho1 s13
  go_wp2_with fail
  have hTw := hTwh.out
  have T4 := T4h.out
  clear hTwh T4h
  generalize w3.alloc (.cells #[.slice A3 bs.length c3, .bool false] 42) = w4 at *
  generalize w3.heap.size = b2 at *
  generalize (Value.slice A3 bs.length c3).ownBlock = o2 at *
  go_loopw [7] (fun v7 wr => ∃ (k : Nat) (s : St), k ≤ acts.length ∧ v7 = .int .i64 k ∧ Two wr b1 b2 o1 o2 s ∧ Turns [] W wr) (fun v7 _ => acts.length - (intOf v7).toNat)
  case atStart => exact ⟨0, _, Nat.zero_le _, rfl, hTw, T4⟩
  case round =>
    obtain ⟨k, s, hk, rfl, hTw, Tr⟩ := hrel
    by_cases hlt : k < acts.length
    · have g3 : decide ((k : Int) < (acts.length : Int)) = true := by simp; omega
      obtain ⟨a, hak⟩ : ∃ a, acts[k]? = some a := ⟨_, List.getElem?_eq_getElem hlt⟩
      obtain ⟨hkd, hmo⟩ := hah.out a (List.mem_of_getElem? hak)
      obtain ⟨ad, rfl, _, hc⟩ := FlatRow.at_ hrh.out (j := k) (c := a.cells) (by rw [List.getElem?_map, hak]; rfl)
      have i0 := Tr.old (hc 0 _ rfl)
      have i1 := Tr.old (hc 1 _ rfl)
      rw [Nat.add_zero] at i0
      have hcW := hc 1 _ rfl
      rw [add_field _ _ _ (by omega)] at i1 hcW
      have hlen := hTw.len
      obtain ⟨x, hx⟩ : ∃ x, a.kind.tmod 3 = x := ⟨_, rfl⟩
      have hx3 : x = 0 ∨ x = 1 ∨ x = 2 := by rw [Int.tmod_eq_emod_of_nonneg hkd.1] at hx; omega
      clear hak hc
      rcases hx3 with rfl | rfl | rfl
      · clear hkd
        go_wp2_with fail
        go_at_call 19
        refine Calls.mono (Kt.num_is _ b1 o1 s hTw.r1 (by omega)) ?_
        rintro e w4 ⟨rfl, j1, t4⟩
        go_wp2_with fail
        go_at_call 20
        refine Calls.mono (Kt.dnum_is _ b2 o2 s (hTw.mid t4) (by omega)) ?_
        rintro e w5 ⟨rfl, j2, t5⟩
        have h5 := hTw.next t4 j1 t5 j2 (upto_len _ _)
        have T5 := (Tr.then t4 (by simpa using hW1)).then t5 (by simpa using hW2)
        clear hTw j1 j2 t4 t5
        generalize (s.upto 4611686018427387904).2 = s' at *
        go_wp2_with fail
        go_at_call 25
        refine Calls.mono (Kt.rdone_is _ b1 o1 s' h5.r1) ?_
        rintro e w6 ⟨rfl, t6⟩
        go_wp2_with fail
        go_at_call 26
        refine Calls.mono (Kt.ddone_is _ b2 o2 s' (h5.r2.turns t6 (by simp) (by simp))) ?_
        rintro e w7 ⟨rfl, t7⟩
        have h7 := (h5.turns t6).turns t7
        have T7 := (T5.trans t6).trans t7
        go_wp2_with fail
        go_roundw
        case rel => exact ⟨k + 1, s', by omega, by go_num, h7, T7⟩
        case measure => simp [intOf]; omega
      · clear hkd
        go_wp2_with fail
        go_at_call 21
        refine Calls.mono (rbits_is _ b1 o1 s hTw.r1 (by omega)) ?_
        rintro e w4 ⟨rfl, j1, t4⟩
        go_wp2_with fail
        go_at_call 22
        refine Calls.mono (dbits_is _ b2 o2 s (hTw.mid t4) (by omega)) ?_
        rintro e w5 ⟨rfl, j2, t5⟩
        have h5 := hTw.next t4 j1 t5 j2 (Kt.bits_len _)
        have T5 := (Tr.then t4 (by simpa using hW1)).then t5 (by simpa using hW2)
        clear hTw j1 j2 t4 t5
        generalize s.bits.2 = s' at *
        go_wp2_with fail
        go_at_call 25
        refine Calls.mono (Kt.rdone_is _ b1 o1 s' h5.r1) ?_
        rintro e w6 ⟨rfl, t6⟩
        go_wp2_with fail
        go_at_call 26
        refine Calls.mono (Kt.ddone_is _ b2 o2 s' (h5.r2.turns t6 (by simp) (by simp))) ?_
        rintro e w7 ⟨rfl, t7⟩
        have h7 := (h5.turns t6).turns t7
        have T7 := (T5.trans t6).trans t7
        go_wp2_with fail
        go_roundw
        case rel => exact ⟨k + 1, s', by omega, by go_num, h7, T7⟩
        case measure => simp [intOf]; omega
      · clear hkd
        have hTd := hTw.turns ((Turns.refl [] wr).drew)
        have Td := Tr.drew
        have i2 : wr.drew.cell? ⟨(ad.add (k * 2)).block, (ad.add (k * 2)).off + 1, none⟩ = some (.int .i64 a.most) := i1
        have hpW : (ad.add (k * 2)).block < W.heap.size := World.block_lt_of_cell? W ⟨(ad.add (k * 2)).block, (ad.add (k * 2)).off + 1, none⟩ hcW
        go_wp2_with fail
        refine wp_region_flo [(0, true), (1, true), (2, true), (3, true), (4, true), (5, true), (7, true), (8, true), (9, true), (10, true), (11, true), (12, true), (6, false), (13, false), (14, true), (15, true)] (fun W => W.cell? ⟨(ad.add (k * 2)).block, (ad.add (k * 2)).off + 1, none⟩ = some (.int .i64 a.most)) (by kernel_rfl) rfl (by kernel_rfl) (by intro c d v a w h; cases d <;> first | (simpa [Exit.then, Exit.inBlock, Act.put] using h) | exact h) (i2) ?_
        clear hTw Tr i0 i1
        generalize wr.drew = wd at *
        refine flo_read _ rfl (fun K hK => ?_)
        go_simp
        first | (refine hK _ ?_) | (refine ⟨fun W hS => ?_, hK _ ?_⟩; · (have x0 := hS; try go_simp))
        clear hK K
        refine flo_read _ rfl (fun K hK => ?_)
        go_simp
        first | (refine hK _ ?_) | (refine ⟨fun W hS => ?_, hK _ ?_⟩; · (have x0 := hS; try go_simp))
        clear hK K
        refine flo_read _ rfl (fun K hK => ?_)
        go_simp
        first | (refine hK _ ?_) | (refine ⟨fun W hS => ?_, hK _ ?_⟩; · (have x0 := hS; try go_simp))
        clear hK K
        refine flo_read _ rfl (fun K hK => ?_)
        go_simp
        first | (refine hK _ ?_) | (refine ⟨fun W hS => ?_, hK _ ?_⟩; · (have x0 := hS; try go_simp))
        clear hK K
        refine flo_read _ rfl (fun K hK => ?_)
        go_simp
        first | (refine hK _ ?_) | (refine ⟨fun W hS => ?_, hK _ ?_⟩; · (have x0 := hS; try go_simp))
        clear hK K
        refine flo_read _ rfl (fun K hK => ?_)
        go_simp
        first | (refine hK _ ?_) | (refine ⟨fun W hS => ?_, hK _ ?_⟩; · (have x0 := hS; try go_simp))
        clear hK K
        refine flo_read _ rfl (fun K hK => ?_)
        go_simp
        first | (refine hK _ ?_) | (refine ⟨fun W hS => ?_, hK _ ?_⟩; · (have x0 := hS; try go_simp))
        clear hK K
        refine flo_read _ rfl (fun K hK => ?_)
        go_simp
        first | (refine hK _ ?_) | (refine ⟨fun W hS => ?_, hK _ ?_⟩; · (have x0 := hS; try go_simp))
        clear hK K
        refine flo_read _ rfl (fun K hK => ?_)
        go_simp
        first | (refine hK _ ?_) | (refine ⟨fun W hS => ?_, hK _ ?_⟩; · (have x0 := hS; try go_simp))
        clear hK K
        refine flo_read _ rfl (fun K hK => ?_)
        go_simp
        first | (refine hK _ ?_) | (refine ⟨fun W hS => ?_, hK _ ?_⟩; · (have x0 := hS; try go_simp))
        clear hK K
        refine flo_read _ rfl (fun K hK => ?_)
        go_simp
        first | (refine hK _ ?_) | (refine ⟨fun W hS => ?_, hK _ ?_⟩; · (have x0 := hS; try go_simp))
        clear hK K
        refine flo_read _ rfl (fun K hK => ?_)
        go_simp
        first | (refine hK _ ?_) | (refine ⟨fun W hS => ?_, hK _ ?_⟩; · (have x0 := hS; try go_simp))
        clear hK K
        refine flo_alone _ rfl ?_
        go_wp2_with fail
        go_at_call 23
        refine Calls.mono (Kt.upto_is a.most hmo _ b1 o1 s hTd.r1 (by omega)) ?_
        rintro e w4 ⟨rfl, j1, t4⟩
        go_wp2_with fail
        refine ⟨fun W => W.cell? ⟨(ad.add (k * 2)).block, (ad.add (k * 2)).off + 1, none⟩ = some (.int .i64 a.most), fun W h => h, (t4.cell (World.block_lt_of_cell? wd ⟨(ad.add (k * 2)).block, (ad.add (k * 2)).off + 1, none⟩ i2) (by simp; omega)).trans i2, ?_⟩
        have i3 : w4.cell? ⟨(ad.add (k * 2)).block, (ad.add (k * 2)).off + 1, none⟩ = some (.int .i64 a.most) := (t4.cell (World.block_lt_of_cell? wd ⟨(ad.add (k * 2)).block, (ad.add (k * 2)).off + 1, none⟩ i2) (by simp; omega)).trans i2
        refine flo_alone _ rfl ?_
        go_wp2_with fail
        go_at_call 24
        refine Calls.mono (Kt.dupto_is a.most hmo _ b2 o2 s (hTd.mid t4) (by omega)) ?_
        rintro e w5 ⟨rfl, j2, t5⟩
        go_wp2_with fail
        refine ⟨fun W => W.cell? ⟨(ad.add (k * 2)).block, (ad.add (k * 2)).off + 1, none⟩ = some (.int .i64 a.most), fun W h => h, (t5.cell (World.block_lt_of_cell? w4 ⟨(ad.add (k * 2)).block, (ad.add (k * 2)).off + 1, none⟩ i3) (by simp; omega)).trans i3, ?_⟩
        have h5 := hTd.next t4 j1 t5 j2 (upto_len _ _)
        have T5 := (Td.then t4 (by simpa using hW1)).then t5 (by simpa using hW2)
        clear hTd j1 j2 t4 t5 i2 i3
        generalize (s.upto a.most).2 = s' at *
        refine flo_read _ rfl (fun K hK => ?_)
        go_simp
        first | (refine hK _ ?_) | (refine ⟨fun W hS => ?_, hK _ ?_⟩; · (skip; try go_simp))
        clear hK K
        refine flo_read _ rfl (fun K hK => ?_)
        go_simp
        first | (refine hK _ ?_) | (refine ⟨fun W hS => ?_, hK _ ?_⟩; · (skip; try go_simp))
        clear hK K
        refine flo_end ?_
        go_wp2_with fail
        go_at_call 25
        refine Calls.mono (Kt.rdone_is _ b1 o1 s' h5.r1) ?_
        rintro e w6 ⟨rfl, t6⟩
        go_wp2_with fail
        go_at_call 26
        refine Calls.mono (Kt.ddone_is _ b2 o2 s' (h5.r2.turns t6 (by simp) (by simp))) ?_
        rintro e w7 ⟨rfl, t7⟩
        have h7 := (h5.turns t6).turns t7
        have T7 := (T5.trans t6).trans t7
        go_wp2_with fail
        go_roundw
        case rel => exact ⟨k + 1, s', by omega, by go_num, h7, T7⟩
        case measure => simp [intOf]; omega
    · obtain rfl : k = acts.length := by omega
      have g3 : decide ((acts.length : Int) < (acts.length : Int)) = false := by simp
      clear hTw hah hrh
      go_wp2_with fail
      go_at_call 12
      refine Calls.mono (alive_is _) ?_
      rintro e w12 ⟨rfl, t12⟩
      go_wp2_with fail
      go_at_call 19
      refine Calls.mono (Kt.rnum_nil _) ?_
      rintro e w13 ⟨rfl, t13⟩
      go_wp2_with fail
      go_at_call 21
      refine Calls.mono (rbits_nil _) ?_
      rintro e w14 ⟨rfl, t14⟩
      go_wp2_with fail
      go_at_call 23
      refine Calls.mono (Kt.upto_nil _ _) ?_
      rintro e w15 ⟨rfl, t15⟩
      go_wp2_with fail
      go_at_call 25
      refine Calls.mono (Kt.rdone_nil _) ?_
      rintro e w16 ⟨rfl, t16⟩
      go_wp2_with fail
      go_ret
      exact ⟨rfl, ((((Tr.trans t12).trans t13).trans t14).trans t15).trans t16⟩
theorem nestRAct : Nest Try.prog 44 [kInt .u8, kInt .i64] :=
  nStruct Try.underlying44 (ncons rfl (nInt Try.underlying5 (by kernel_rfl)) (ncons rfl (nInt Try.underlying3 (by kernel_rfl)) nnil rfl) rfl) (by kernel_rfl)
theorem acts_of {W : World} {v : Value} (h : kSlice [kInt .u8, kInt .i64] W v) :
    ∃ A c acts, v = .slice A (acts : List RAc).length c ∧ FlatRow W A 2 (acts.map RAc.cells) ∧ ∀ a ∈ acts, (0 ≤ a.kind ∧ a.kind ≤ 255) ∧ -9223372036854775808 ≤ a.most ∧ a.most ≤ 9223372036854775807 := by
  obtain ⟨A, c, rows, hv, hc, hm, hn, hf, hk⟩ := h
  obtain ⟨acts, rfl, ha⟩ := rows_of (f := RAc.cells) (p := fun a => (0 ≤ a.kind ∧ a.kind ≤ 255) ∧ -9223372036854775808 ≤ a.most ∧ a.most ≤ 9223372036854775807) (fun r hr => by
    obtain ⟨v0, r0, rfl, ⟨n0, rfl, w0⟩, k0⟩ := (hk r hr).out
    obtain ⟨v2, r2, rfl, ⟨n2, rfl, w2⟩, k3⟩ := k0.out
    obtain rfl := k3.none
    exact ⟨⟨n0, n2⟩, rfl, u8_bd w0, int_bd w2⟩)
  exact ⟨A, c, acts, by rw [hv, List.length_map], hf, ha⟩
theorem opened {H : Type} (enc : TypeId × Value → H) (W : World) {base : Nat} {v0 v1 : Value} {d0 d1 : DataW H} {p0 p1 : List MemPlace} (h0 : DataW.Trod enc Try.prog W 0 (fun _ => true) true 26 v0 d0 p0)
    (h1 : DataW.Trod enc Try.prog W 0 (fun _ => true) true 37 v1 d1 p1) (o0 : Value.okWide Try.prog W .any base 26 v0) (o1 : Value.okWide Try.prog W .any base 37 v1) :
    Calls Try.prog 4 #[v0, v1] W fun e w' => e = .returned (.bool true) ∧ Below W.heap.size W w' := by
  obtain ⟨bs, hr, hb⟩ := kSlice.bytes (arg_slice Try.underlying26 (nInt Try.underlying5 (by kernel_rfl)) (by kernel_rfl) h0 o0)
  obtain ⟨A, c, acts, hv, hf, ha⟩ := acts_of (arg_slice Try.underlying37 nestRAct (by kernel_rfl) h1 o1)
  have : Calls Try.prog 4 #[v0, v1] W fun e w' => e = .returned (.bool true) ∧ Turns [] W w' := by
    by_cases hl : bs.length ≤ 2000 ∧ acts.length ≤ 150
    · exact reads_is W v0 v1 bs A c acts hr hb hv hf ha hl.1 hl.2
    · exact reads_long W v0 v1 bs A c acts hr hv (by omega)
  exact this.mono fun e w' ⟨he, t⟩ => ⟨he, t.isBelow⟩
end Go.Proofs.Ythnegmpdadkkcaa.Ky
