/- The law ElectPlays: its walk, and its arguments opened. -/
import Derived.Test.YthnegmpdadkkcaaEr
import Derived.Test.YthnegmpdadkkcaaHa
set_option linter.unusedVariables false
set_option linter.unusedSimpArgs false
set_option maxRecDepth 100000
namespace Go.Proofs.Ythnegmpdadkkcaa.Et
open Go.RowKit Go.MapKept Go.ChangeShapes Go.WideShapes Hm Hs Hr Hc Hd Hf Hg Hv Ho Hn Ha Rg Cn El Em En Eo Ep Es Er
structure EAc where
  kind : Int
  g : Int
  t : Nat
def EAc.cells (a : EAc) : List Value := [.int .u8 a.kind, .int .i64 a.g, .int .u64 a.t]
theorem stand_nil2 (w : World) : Calls Try.prog 45 #[.pointer none] w fun x w' => x = .returned (.tuple #[.agg #[.bool false, .int .i64 0, .int .u64 0, .bool false], .int .i64 1]) ∧ Turns [] w w' := stand_nil w
theorem take_nil2 (w : World) : Calls Try.prog 46 #[.pointer none, .int .i64 1, .int .u64 1] w fun x w' => x = .returned (.agg #[.bool false, .int .i64 0, .int .u64 0, .bool false]) ∧ Turns [] w w' := take_nil 1 1 w
theorem plays_long (W : World) (n i P R : Int) (A : Option Addr) (c : Nat) (acts : List EAc) (hl : 120 < acts.length) :
    Calls Try.prog 7 #[.agg #[.int .i64 n, .int .i64 i, .int .i64 P, .int .i64 R], .slice A acts.length c] W fun e w' => e = .returned (.bool true) ∧ Turns [] W w' := by
  have T0 := (Turns.refl [] W).alloc (.cells #[.int .i64 n, .int .i64 i, .int .i64 P, .int .i64 R] 63)
  have g1 : decide ((acts.length : Int) > 120) = true := decide_eq_true (by omega)
  go_enter Try.func7, Try.ntmps7
  go_wp2_with fail
  go_at_call 38
  refine Calls.mono (Er.alive_is _) ?_
  rintro e w1 ⟨rfl, t1⟩
  go_wp2_with fail
  go_ret
  exact ⟨rfl, T0.trans t1⟩
set_option maxHeartbeats 4000000 in
theorem plays_bad (W : World) (n i P R : Int) (A : Option Addr) (c : Nat) (acts : List EAc) (hl : acts.length ≤ 120) (hbad : ¬ newOk n i P R) :
    Calls Try.prog 7 #[.agg #[.int .i64 n, .int .i64 i, .int .i64 P, .int .i64 R], .slice A acts.length c] W fun e w' => e = .returned (.bool true) ∧ Turns [] W w' := by
  have T0 := (Turns.refl [] W).alloc (.cells #[.int .i64 n, .int .i64 i, .int .i64 P, .int .i64 R] 63)
  have a0 := Blk.new W #[.int .i64 n, .int .i64 i, .int .i64 P, .int .i64 R] 63
  have g1 : decide ((acts.length : Int) > 120) = false := decide_eq_false (by omega)
  have hbh : Hid _ := hbad
  clear hbad
  go_enter Try.func7, Try.ntmps7
  go_wp2_with fail
  go_at_call 39
  refine Calls.mono (new_bad n i P R hbh.out _) ?_
  rintro e w1 ⟨rfl, t1⟩
  have a1 := a0.turns t1 (by simp)
  have T1 := T0.trans t1
  have c0 : w1.cell? ⟨W.heap.size, 0, none⟩ = some (.int .i64 n) := a1.cell 0
  have c1 : w1.cell? ⟨W.heap.size, 1, none⟩ = some (.int .i64 i) := a1.cell 1
  have c2 : w1.cell? ⟨W.heap.size, 2, none⟩ = some (.int .i64 P) := a1.cell 2
  have c3 : w1.cell? ⟨W.heap.size, 3, none⟩ = some (.int .i64 R) := a1.cell 3
  clear T0 t1 a0 a1
  go_wp2_with fail
  go_at_call 40
  refine Calls.mono (dnew_bad n i P R hbh.out _) ?_
  rintro e w2 ⟨rfl, t2⟩
  have T2 := T1.trans t2
  clear T1 t2 c0 c1 c2 c3
  go_wp2_with fail
  go_loopw [9] (fun v9 wr => v9 = .int .i64 0 ∧ Turns [] W wr) (fun v9 _ => (intOf v9).toNat)
  case atStart => exact ⟨rfl, T2⟩
  case round =>
    obtain ⟨rfl, Tr⟩ := hrel
    clear T2
    rcases (by omega : (0 < acts.length) ∨ ¬ (0 < acts.length)) with hz | hz
    · have g2 : decide ((0 : Int) < (acts.length : Int)) = true := decide_eq_true (by omega)
      go_wp2_with fail
      go_at_call 45
      refine Calls.mono (stand_nil2 _) ?_
      rintro e w3 ⟨rfl, t3⟩
      have T3 := (Tr.trans t3).alloc (.cells #[.bool false, .int .i64 0, .int .u64 0, .bool false] 77)
      have q3 := Blk.new w3 #[.bool false, .int .i64 0, .int .u64 0, .bool false] 77
      clear Tr t3
      go_wp2_with fail
      go_at_call 38
      refine Calls.mono (Er.alive_is _) ?_
      rintro e w4 ⟨rfl, t4⟩
      have T4 := T3.trans t4
      have q4 := q3.turns t4 (by simp)
      have c0 : w4.cell? ⟨w3.heap.size, 0, none⟩ = some (.bool false) := q4.cell 0
      have c1 : w4.cell? ⟨w3.heap.size, 1, none⟩ = some (.int .i64 0) := q4.cell 1
      have c2 : w4.cell? ⟨w3.heap.size, 2, none⟩ = some (.int .u64 0) := q4.cell 2
      have c3 : w4.cell? ⟨w3.heap.size, 3, none⟩ = some (.bool false) := q4.cell 3
      clear T3 t4 q3 q4
      go_wp2_with fail
      go_at_call 46
      refine Calls.mono (take_nil2 _) ?_
      rintro e w5 ⟨rfl, t5⟩
      have T5 := T4.trans t5
      clear c0 c1 c2 c3 T4 t5
      go_wp2_with fail
      go_at_call 47
      refine Calls.mono (raise_nil _ _) ?_
      rintro e w6 ⟨rfl, t6⟩
      go_wp2_with fail
      go_at_call 41
      refine Calls.mono (promised_nil _) ?_
      rintro e w7 ⟨rfl, t7⟩
      go_wp2_with fail
      go_at_call 43
      refine Calls.mono (round_nil _) ?_
      rintro e w8 ⟨rfl, t8⟩
      go_wp2_with fail
      go_at_call 44
      refine Calls.mono (standing_nil _) ?_
      rintro e w9 ⟨rfl, t9⟩
      go_wp2_with fail
      go_ret
      exact ⟨rfl, (((T5.trans t6).trans t7).trans t8).trans t9⟩
    · have g2 : decide ((0 : Int) < (acts.length : Int)) = false := decide_eq_false (by omega)
      go_wp2_with fail
      go_at_call 45
      refine Calls.mono (stand_nil2 _) ?_
      rintro e w3 ⟨rfl, t3⟩
      have T3 := (Tr.trans t3).alloc (.cells #[.bool false, .int .i64 0, .int .u64 0, .bool false] 77)
      have q3 := Blk.new w3 #[.bool false, .int .i64 0, .int .u64 0, .bool false] 77
      clear Tr t3
      go_wp2_with fail
      go_at_call 38
      refine Calls.mono (Er.alive_is _) ?_
      rintro e w4 ⟨rfl, t4⟩
      have T4 := T3.trans t4
      have q4 := q3.turns t4 (by simp)
      have c0 : w4.cell? ⟨w3.heap.size, 0, none⟩ = some (.bool false) := q4.cell 0
      have c1 : w4.cell? ⟨w3.heap.size, 1, none⟩ = some (.int .i64 0) := q4.cell 1
      have c2 : w4.cell? ⟨w3.heap.size, 2, none⟩ = some (.int .u64 0) := q4.cell 2
      have c3 : w4.cell? ⟨w3.heap.size, 3, none⟩ = some (.bool false) := q4.cell 3
      clear T3 t4 q3 q4
      go_wp2_with fail
      go_at_call 46
      refine Calls.mono (take_nil2 _) ?_
      rintro e w5 ⟨rfl, t5⟩
      have T5 := T4.trans t5
      clear c0 c1 c2 c3 T4 t5
      go_wp2_with fail
      go_at_call 47
      refine Calls.mono (raise_nil _ _) ?_
      rintro e w6 ⟨rfl, t6⟩
      go_wp2_with fail
      go_at_call 41
      refine Calls.mono (promised_nil _) ?_
      rintro e w7 ⟨rfl, t7⟩
      go_wp2_with fail
      go_at_call 43
      refine Calls.mono (round_nil _) ?_
      rintro e w8 ⟨rfl, t8⟩
      go_wp2_with fail
      go_at_call 44
      refine Calls.mono (standing_nil _) ?_
      rintro e w9 ⟨rfl, t9⟩
      go_wp2_with fail
      go_ret
      exact ⟨rfl, (((T5.trans t6).trans t7).trans t8).trans t9⟩
set_option maxHeartbeats 4000000 in
theorem plays_ok (W : World) (N I : Nat) (P R : Int) (A : Option Addr) (c : Nat) (acts : List EAc) (hl : acts.length ≤ 120) (hok : newOk N I P R) (hf : FlatRow W A 3 (acts.map EAc.cells)) (ht : ∀ a ∈ acts, a.t < 18446744073709551616) :
    Calls Try.prog 7 #[.agg #[.int .i64 N, .int .i64 I, .int .i64 P, .int .i64 R], .slice A acts.length c] W fun e w' => e = .returned (.bool true) ∧ Turns [] W w' := by
  have T0 := (Turns.refl [] W).alloc (.cells #[.int .i64 N, .int .i64 I, .int .i64 P, .int .i64 R] 63)
  have a0 := Blk.new W #[.int .i64 N, .int .i64 I, .int .i64 P, .int .i64 R] 63
  have g1 : decide ((acts.length : Int) > 120) = false := decide_eq_false (by omega)
  have hokE : (⟨N, I, P, R, 0, 0⟩ : El).ok := ⟨by have := hok.hn; show 1 ≤ N ∧ N ≤ 64; omega, by have := hok.hi; show I < N; omega, hok.hp, hok.hr, .inl rfl, by show (0 : Nat) < _; omega⟩
  have hbh : Hid _ := hok
  have hokEh : Hid _ := hokE
  have hfh : Hid _ := hf
  have hth : Hid _ := ht
  clear hok hokE hf ht
  go_enter Try.func7, Try.ntmps7
  go_wp2_with fail
  go_at_call 39
  refine Calls.mono (new_ok N I P R hbh.out _) ?_
  rintro e w1 ⟨b1, rfl, h1, hb1, t1⟩
  have a1 := a0.turns t1 (by simp)
  have T1 := T0.trans t1
  have c0 : w1.cell? ⟨W.heap.size, 0, none⟩ = some (.int .i64 N) := a1.cell 0
  have c1 : w1.cell? ⟨W.heap.size, 1, none⟩ = some (.int .i64 I) := a1.cell 1
  have c2 : w1.cell? ⟨W.heap.size, 2, none⟩ = some (.int .i64 P) := a1.cell 2
  have c3 : w1.cell? ⟨W.heap.size, 3, none⟩ = some (.int .i64 R) := a1.cell 3
  have hb1' : W.heap.size ≤ b1 := by simp at hb1; omega
  clear t1 a0 a1 hb1
  go_wp2_with fail
  go_at_call 40
  refine Calls.mono (dnew_ok N I P R hbh.out _) ?_
  rintro e w2 ⟨b2, rfl, h2, hb2, t2⟩
  have T2 := T1.trans t2
  have hp : Pair w2 b1 b2 ⟨N, I, P, R, 0, 0⟩ := ⟨Blk.turns h1 t2 (by simp), h2⟩
  have hb2' : W.heap.size ≤ b2 := Nat.le_trans T1.size hb2
  clear T0 T1 t2 c0 c1 c2 c3 h1 h2 hb2 hbh
  go_wp2_with fail
  go_loopw [9] (fun v9 wr => ∃ (k : Nat) (e : El), k ≤ acts.length ∧ v9 = .int .i64 k ∧ Pair wr b1 b2 e ∧ e.ok ∧ Turns [] W wr) (fun v9 _ => acts.length - (intOf v9).toNat)
  case atStart => exact ⟨0, _, Nat.zero_le _, rfl, hp, hokEh.out, T2⟩
  case round =>
    obtain ⟨k, e, hk, rfl, hpr, hoe, Tr⟩ := hrel
    clear T2 hp hokEh
    by_cases hlt : k < acts.length
    · have g2 : decide ((k : Int) < (acts.length : Int)) = true := by simp; omega
      obtain ⟨a, ha⟩ : ∃ a, acts[k]? = some a := ⟨_, List.getElem?_eq_getElem hlt⟩
      have hta := hth.out a (List.mem_of_getElem? ha)
      obtain ⟨ad, rfl, _, hc⟩ := FlatRow.at_ hfh.out (j := k) (c := a.cells) (by rw [List.getElem?_map, ha]; rfl)
      have i0 := Tr.old (hc 0 _ rfl)
      have i1 := Tr.old (hc 1 _ rfl)
      have i2 := Tr.old (hc 2 _ rfl)
      rw [Nat.add_zero] at i0
      rw [add_field _ _ _ (by omega)] at i1 i2
      have htah : Hid _ := hta
      have hoeh : Hid _ := hoe
      clear hc ha hth hfh hta hoe
      go_wp2_with fail
      go_at_call 41
      refine Calls.mono (promised_is _ b1 e hpr.h1) ?_
      rintro e w3 ⟨rfl, t3⟩
      have p3 := hpr.turns t3
      have T3 := Tr.trans t3
      replace i0 := t3.old i0
      replace i1 := t3.old i1
      replace i2 := t3.old i2
      clear hpr Tr t3
      go_wp2_with fail
      go_at_call 42
      refine Calls.mono (step_is _ b1 b2 e a.kind a.g a.t p3 hoeh.out htah.out) ?_
      rintro e w4 ⟨rfl, ⟨e', p4, ho4, hP4⟩, t4⟩
      have T4 := T3.then t4 (by simp; omega)
      have g3 : decide (e'.P < e.P) = false := decide_eq_false (by omega)
      have p5 : Pair w4.drew b1 b2 e' := ⟨Blk.drew p4.h1, Blk.drew p4.h2⟩
      have T5 := T4.drew
      have ho4h : Hid _ := ho4
      clear p3 T3 t4 i0 i1 i2 ho4 hP4 T4
      go_wp2_with fail
      refine wp_region_flo [(0, true), (1, true), (2, true), (3, true), (5, true), (6, true), (7, true), (8, true), (4, false), (9, true), (10, true), (11, true), (12, true), (14, true), (15, true), (16, true), (17, true), (13, false), (18, true), (19, true), (20, true), (21, true), (23, true), (24, true), (25, true), (26, true), (22, false), (27, true), (28, true), (29, true), (30, true), (32, true), (31, false), (33, true), (34, true)] (fun W => Blk W b2 e'.cells 75) (by kernel_rfl) rfl (by kernel_rfl) (by intro c d v a w h; cases d <;> first | (simpa [Exit.then, Exit.inBlock, Act.put] using h) | exact h) (p5.h2) ?_
      clear p4
      generalize w4.drew = w5 at *
      have x2 : w5.cell? ⟨b2, 2, none⟩ = some (.int .i64 e'.P) := Blk.cell p5.h2 2
      have x3 : w5.cell? ⟨b2, 3, none⟩ = some (.int .i64 e'.R) := Blk.cell p5.h2 3
      have x4 : w5.cell? ⟨b2, 4, none⟩ = some (.int .i64 e'.B) := Blk.cell p5.h2 4
      refine flo_read _ rfl (fun K hK => ?_)
      go_simp
      first | (refine hK _ ?_) | (refine ⟨fun W hS => ?_, hK _ ?_⟩; · (have x2 : W.cell? ⟨b2, 2, none⟩ = some (.int .i64 e'.P) := hS.cell 2; try go_simp))
      clear hK K
      refine flo_read _ rfl (fun K hK => ?_)
      go_simp
      first | (refine hK _ ?_) | (refine ⟨fun W hS => ?_, hK _ ?_⟩; · (have x2 : W.cell? ⟨b2, 2, none⟩ = some (.int .i64 e'.P) := hS.cell 2; try go_simp))
      clear hK K
      refine flo_read _ rfl (fun K hK => ?_)
      go_simp
      first | (refine hK _ ?_) | (refine ⟨fun W hS => ?_, hK _ ?_⟩; · (have x2 : W.cell? ⟨b2, 2, none⟩ = some (.int .i64 e'.P) := hS.cell 2; try go_simp))
      clear hK K
      refine flo_read _ rfl (fun K hK => ?_)
      go_simp
      first | (refine hK _ ?_) | (refine ⟨fun W hS => ?_, hK _ ?_⟩; · (have x2 : W.cell? ⟨b2, 2, none⟩ = some (.int .i64 e'.P) := hS.cell 2; try go_simp))
      clear hK K
      refine flo_read _ rfl (fun K hK => ?_)
      go_simp
      first | (refine hK _ ?_) | (refine ⟨fun W hS => ?_, hK _ ?_⟩; · (have x2 : W.cell? ⟨b2, 2, none⟩ = some (.int .i64 e'.P) := hS.cell 2; try go_simp))
      clear hK K
      refine flo_read _ rfl (fun K hK => ?_)
      go_simp
      first | (refine hK _ ?_) | (refine ⟨fun W hS => ?_, hK _ ?_⟩; · (have x2 : W.cell? ⟨b2, 2, none⟩ = some (.int .i64 e'.P) := hS.cell 2; try go_simp))
      clear hK K
      refine flo_read _ rfl (fun K hK => ?_)
      go_simp
      first | (refine hK _ ?_) | (refine ⟨fun W hS => ?_, hK _ ?_⟩; · (have x2 : W.cell? ⟨b2, 2, none⟩ = some (.int .i64 e'.P) := hS.cell 2; try go_simp))
      clear hK K
      refine flo_read _ rfl (fun K hK => ?_)
      go_simp
      first | (refine hK _ ?_) | (refine ⟨fun W hS => ?_, hK _ ?_⟩; · (have x2 : W.cell? ⟨b2, 2, none⟩ = some (.int .i64 e'.P) := hS.cell 2; try go_simp))
      clear hK K
      clear x2 x3 x4
      refine flo_alone _ rfl ?_
      go_wp2_with fail
      go_at_call 41
      refine Calls.mono (promised_is _ b1 e' p5.h1) ?_
      rintro e w6 ⟨rfl, t6⟩
      go_wp2_with fail
      refine ⟨fun W => Blk W b2 e'.cells 75, fun W h => h, Blk.turns p5.h2 t6 (by simp), ?_⟩
      have p6 := p5.turns t6
      have T6 := T5.trans t6
      clear p5 T5 t6
      have x3 : w6.cell? ⟨b2, 3, none⟩ = some (.int .i64 e'.R) := Blk.cell p6.h2 3
      refine flo_read _ rfl (fun K hK => ?_)
      go_simp
      first | (refine hK _ ?_) | (refine ⟨fun W hS => ?_, hK _ ?_⟩; · (have x3 : W.cell? ⟨b2, 3, none⟩ = some (.int .i64 e'.R) := hS.cell 3; try go_simp))
      clear hK K
      refine flo_read _ rfl (fun K hK => ?_)
      go_simp
      first | (refine hK _ ?_) | (refine ⟨fun W hS => ?_, hK _ ?_⟩; · (have x3 : W.cell? ⟨b2, 3, none⟩ = some (.int .i64 e'.R) := hS.cell 3; try go_simp))
      clear hK K
      refine flo_read _ rfl (fun K hK => ?_)
      go_simp
      first | (refine hK _ ?_) | (refine ⟨fun W hS => ?_, hK _ ?_⟩; · (have x3 : W.cell? ⟨b2, 3, none⟩ = some (.int .i64 e'.R) := hS.cell 3; try go_simp))
      clear hK K
      refine flo_read _ rfl (fun K hK => ?_)
      go_simp
      first | (refine hK _ ?_) | (refine ⟨fun W hS => ?_, hK _ ?_⟩; · (have x3 : W.cell? ⟨b2, 3, none⟩ = some (.int .i64 e'.R) := hS.cell 3; try go_simp))
      clear hK K
      refine flo_read _ rfl (fun K hK => ?_)
      go_simp
      first | (refine hK _ ?_) | (refine ⟨fun W hS => ?_, hK _ ?_⟩; · (have x3 : W.cell? ⟨b2, 3, none⟩ = some (.int .i64 e'.R) := hS.cell 3; try go_simp))
      clear hK K
      refine flo_read _ rfl (fun K hK => ?_)
      go_simp
      first | (refine hK _ ?_) | (refine ⟨fun W hS => ?_, hK _ ?_⟩; · (have x3 : W.cell? ⟨b2, 3, none⟩ = some (.int .i64 e'.R) := hS.cell 3; try go_simp))
      clear hK K
      refine flo_read _ rfl (fun K hK => ?_)
      go_simp
      first | (refine hK _ ?_) | (refine ⟨fun W hS => ?_, hK _ ?_⟩; · (have x3 : W.cell? ⟨b2, 3, none⟩ = some (.int .i64 e'.R) := hS.cell 3; try go_simp))
      clear hK K
      refine flo_read _ rfl (fun K hK => ?_)
      go_simp
      first | (refine hK _ ?_) | (refine ⟨fun W hS => ?_, hK _ ?_⟩; · (have x3 : W.cell? ⟨b2, 3, none⟩ = some (.int .i64 e'.R) := hS.cell 3; try go_simp))
      clear hK K
      clear x3
      refine flo_alone _ rfl ?_
      go_wp2_with fail
      go_at_call 43
      refine Calls.mono (round_is _ b1 e' p6.h1) ?_
      rintro e w7 ⟨rfl, t7⟩
      go_wp2_with fail
      refine ⟨fun W => Blk W b2 e'.cells 75, fun W h => h, Blk.turns p6.h2 t7 (by simp), ?_⟩
      have p7 := p6.turns t7
      have T7 := T6.trans t7
      clear p6 T6 t7
      have x4 : w7.cell? ⟨b2, 4, none⟩ = some (.int .i64 e'.B) := Blk.cell p7.h2 4
      refine flo_read _ rfl (fun K hK => ?_)
      go_simp
      first | (refine hK _ ?_) | (refine ⟨fun W hS => ?_, hK _ ?_⟩; · (have x4 : W.cell? ⟨b2, 4, none⟩ = some (.int .i64 e'.B) := hS.cell 4; try go_simp))
      clear hK K
      refine flo_read _ rfl (fun K hK => ?_)
      go_simp
      first | (refine hK _ ?_) | (refine ⟨fun W hS => ?_, hK _ ?_⟩; · (have x4 : W.cell? ⟨b2, 4, none⟩ = some (.int .i64 e'.B) := hS.cell 4; try go_simp))
      clear hK K
      refine flo_read _ rfl (fun K hK => ?_)
      go_simp
      first | (refine hK _ ?_) | (refine ⟨fun W hS => ?_, hK _ ?_⟩; · (have x4 : W.cell? ⟨b2, 4, none⟩ = some (.int .i64 e'.B) := hS.cell 4; try go_simp))
      clear hK K
      refine flo_read _ rfl (fun K hK => ?_)
      go_simp
      first | (refine hK _ ?_) | (refine ⟨fun W hS => ?_, hK _ ?_⟩; · (have x4 : W.cell? ⟨b2, 4, none⟩ = some (.int .i64 e'.B) := hS.cell 4; try go_simp))
      clear hK K
      refine flo_read _ rfl (fun K hK => ?_)
      go_simp
      first | (refine hK _ ?_) | (refine ⟨fun W hS => ?_, hK _ ?_⟩; · (have x4 : W.cell? ⟨b2, 4, none⟩ = some (.int .i64 e'.B) := hS.cell 4; try go_simp))
      clear hK K
      refine flo_read _ rfl (fun K hK => ?_)
      go_simp
      first | (refine hK _ ?_) | (refine ⟨fun W hS => ?_, hK _ ?_⟩; · (have x4 : W.cell? ⟨b2, 4, none⟩ = some (.int .i64 e'.B) := hS.cell 4; try go_simp))
      clear hK K
      refine flo_read _ rfl (fun K hK => ?_)
      go_simp
      first | (refine hK _ ?_) | (refine ⟨fun W hS => ?_, hK _ ?_⟩; · (have x4 : W.cell? ⟨b2, 4, none⟩ = some (.int .i64 e'.B) := hS.cell 4; try go_simp))
      clear hK K
      refine flo_read _ rfl (fun K hK => ?_)
      go_simp
      first | (refine hK _ ?_) | (refine ⟨fun W hS => ?_, hK _ ?_⟩; · (have x4 : W.cell? ⟨b2, 4, none⟩ = some (.int .i64 e'.B) := hS.cell 4; try go_simp))
      clear hK K
      clear x4
      refine flo_alone _ rfl ?_
      go_wp2_with fail
      go_at_call 44
      refine Calls.mono (standing_is _ b1 e' p7.h1) ?_
      rintro e w8 ⟨rfl, t8⟩
      go_wp2_with fail
      refine ⟨fun W => Blk W b2 e'.cells 75, fun W h => h, Blk.turns p7.h2 t8 (by simp), ?_⟩
      have p8 := p7.turns t8
      have T8 := T7.trans t8
      clear p7 T7 t8
      refine flo_read _ rfl (fun K hK => ?_)
      go_simp
      first | (refine hK _ ?_) | (refine ⟨fun W hS => ?_, hK _ ?_⟩; · (skip; try go_simp))
      clear hK K
      refine flo_read _ rfl (fun K hK => ?_)
      go_simp
      first | (refine hK _ ?_) | (refine ⟨fun W hS => ?_, hK _ ?_⟩; · (skip; try go_simp))
      clear hK K
      refine flo_read _ rfl (fun K hK => ?_)
      go_simp
      first | (refine hK _ ?_) | (refine ⟨fun W hS => ?_, hK _ ?_⟩; · (skip; try go_simp))
      clear hK K
      refine flo_read _ rfl (fun K hK => ?_)
      go_simp
      first | (refine hK _ ?_) | (refine ⟨fun W hS => ?_, hK _ ?_⟩; · (skip; try go_simp))
      clear hK K
      refine flo_read _ rfl (fun K hK => ?_)
      go_simp
      first | (refine hK _ ?_) | (refine ⟨fun W hS => ?_, hK _ ?_⟩; · (skip; try go_simp))
      clear hK K
      refine flo_alone _ rfl ?_
      go_wp2_with fail
      go_at_call 41
      refine Calls.mono (promised_is _ b1 e' p8.h1) ?_
      rintro e w9 ⟨rfl, t9⟩
      go_wp2_with fail
      refine ⟨fun W => Blk W b2 e'.cells 75, fun W h => h, Blk.turns p8.h2 t9 (by simp), ?_⟩
      have p9 := p8.turns t9
      have T9 := T8.trans t9
      clear p8 T8 t9
      refine flo_read _ rfl (fun K hK => ?_)
      go_simp
      first | (refine hK _ ?_) | (refine ⟨fun W hS => ?_, hK _ ?_⟩; · (skip; try go_simp))
      clear hK K
      refine flo_read _ rfl (fun K hK => ?_)
      go_simp
      first | (refine hK _ ?_) | (refine ⟨fun W hS => ?_, hK _ ?_⟩; · (skip; try go_simp))
      clear hK K
      refine flo_end ?_
      go_wp2_with fail
      go_roundw
      case rel => exact ⟨k + 1, e', by omega, by go_num, p9, ho4h.out, T9⟩
      case measure => simp [intOf]; omega
    · obtain rfl : k = acts.length := by omega
      have g2 : decide ((acts.length : Int) < (acts.length : Int)) = false := by simp
      clear hpr hoe hth hfh
      go_wp2_with fail
      go_at_call 45
      refine Calls.mono (stand_nil2 _) ?_
      rintro e w3 ⟨rfl, t3⟩
      have T3 := (Tr.trans t3).alloc (.cells #[.bool false, .int .i64 0, .int .u64 0, .bool false] 77)
      have q3 := Blk.new w3 #[.bool false, .int .i64 0, .int .u64 0, .bool false] 77
      clear Tr t3
      go_wp2_with fail
      go_at_call 38
      refine Calls.mono (Er.alive_is _) ?_
      rintro e w4 ⟨rfl, t4⟩
      have T4 := T3.trans t4
      have q4 := q3.turns t4 (by simp)
      have c0 : w4.cell? ⟨w3.heap.size, 0, none⟩ = some (.bool false) := q4.cell 0
      have c1 : w4.cell? ⟨w3.heap.size, 1, none⟩ = some (.int .i64 0) := q4.cell 1
      have c2 : w4.cell? ⟨w3.heap.size, 2, none⟩ = some (.int .u64 0) := q4.cell 2
      have c3 : w4.cell? ⟨w3.heap.size, 3, none⟩ = some (.bool false) := q4.cell 3
      clear T3 t4 q3 q4
      go_wp2_with fail
      go_at_call 46
      refine Calls.mono (take_nil2 _) ?_
      rintro e w5 ⟨rfl, t5⟩
      have T5 := T4.trans t5
      clear c0 c1 c2 c3 T4 t5
      go_wp2_with fail
      go_at_call 47
      refine Calls.mono (raise_nil _ _) ?_
      rintro e w6 ⟨rfl, t6⟩
      go_wp2_with fail
      go_at_call 41
      refine Calls.mono (promised_nil _) ?_
      rintro e w7 ⟨rfl, t7⟩
      go_wp2_with fail
      go_at_call 43
      refine Calls.mono (round_nil _) ?_
      rintro e w8 ⟨rfl, t8⟩
      go_wp2_with fail
      go_at_call 44
      refine Calls.mono (standing_nil _) ?_
      rintro e w9 ⟨rfl, t9⟩
      go_wp2_with fail
      go_ret
      exact ⟨rfl, (((T5.trans t6).trans t7).trans t8).trans t9⟩
theorem flatFour : Nest Try.prog 63 [kInt .i64, kInt .i64, kInt .i64, kInt .i64] := nArray (n := 4) Try.underlying63 (nInt Try.underlying3 (by kernel_rfl)) (by kernel_rfl)
theorem nestEAct : Nest Try.prog 73 [kInt .u8, kInt .i64, kInt .u64] :=
  nStruct Try.underlying73 (ncons rfl (nInt Try.underlying5 (by kernel_rfl)) (ncons rfl (nInt Try.underlying3 (by kernel_rfl)) (ncons rfl (nInt Try.underlying23 (by kernel_rfl)) nnil rfl) rfl) rfl) (by kernel_rfl)
theorem acts_of {W : World} {v : Value} (h : kSlice [kInt .u8, kInt .i64, kInt .u64] W v) :
    ∃ A c acts, v = .slice A (acts : List EAc).length c ∧ FlatRow W A 3 (acts.map EAc.cells) ∧ ∀ a ∈ acts, a.t < 18446744073709551616 := by
  obtain ⟨A, c, rows, hv, hc, hm, hn, hf, hk⟩ := h
  obtain ⟨acts, rfl, ha⟩ := rows_of (f := EAc.cells) (p := fun a => a.t < 18446744073709551616) (fun r hr => by
    obtain ⟨v0, r0, rfl, ⟨n0, rfl, w0⟩, k0⟩ := (hk r hr).out
    obtain ⟨v1, r1, rfl, ⟨n1, rfl, w1⟩, k1⟩ := k0.out
    obtain ⟨v2, r2, rfl, ⟨n2, rfl, w2⟩, k2⟩ := k1.out
    obtain rfl := k2.none
    have hb := u64_bd w2
    obtain ⟨m, rfl⟩ := Int.eq_ofNat_of_zero_le hb.1
    exact ⟨⟨n0, n1, m⟩, rfl, by show m < _; omega⟩)
  exact ⟨A, c, acts, by rw [hv, List.length_map], hf, ha⟩
theorem opened {H : Type} (enc : TypeId × Value → H) (W : World) {base : Nat} {v0 v1 : Value} {d0 d1 : DataW H} {p0 p1 : List MemPlace} (h0 : DataW.Trod enc Try.prog W 0 (fun _ => true) true 63 v0 d0 p0)
    (h1 : DataW.Trod enc Try.prog W 0 (fun _ => true) true 64 v1 d1 p1) (o0 : Value.okWide Try.prog W .any base 63 v0) (o1 : Value.okWide Try.prog W .any base 64 v1) :
    Calls Try.prog 7 #[v0, v1] W fun e w' => e = .returned (.bool true) ∧ Below W.heap.size W w' := by
  obtain ⟨cs, rfl, kk⟩ := arg_array Try.underlying63 flatFour h0 o0
  obtain ⟨A, c, acts, rfl, hf, ha⟩ := acts_of (arg_slice Try.underlying64 nestEAct (by kernel_rfl) h1 o1)
  obtain ⟨v0, r0, rfl, ⟨n, rfl, w0⟩, k0⟩ := kk.out
  obtain ⟨v1, r1, rfl, ⟨i, rfl, w1⟩, k1⟩ := k0.out
  obtain ⟨v2, r2, rfl, ⟨P, rfl, w2⟩, k2⟩ := k1.out
  obtain ⟨v3, r3, rfl, ⟨R, rfl, w3⟩, k3⟩ := k2.out
  obtain rfl := k3.none
  have : Calls Try.prog 7 #[.agg #[.int .i64 n, .int .i64 i, .int .i64 P, .int .i64 R], .slice A acts.length c] W fun e w' => e = .returned (.bool true) ∧ Turns [] W w' := by
    by_cases hl : acts.length ≤ 120
    · by_cases hok : newOk n i P R
      · obtain ⟨N, rfl⟩ := Int.eq_ofNat_of_zero_le (by have := hok.hn; omega : 0 ≤ n)
        obtain ⟨I, rfl⟩ := Int.eq_ofNat_of_zero_le hok.hi.1
        exact plays_ok W N I P R A c acts hl hok hf ha
      · exact plays_bad W n i P R A c acts hl hok
    · exact plays_long W n i P R A c acts (by omega)
  exact this.mono fun e w' ⟨he, t⟩ => ⟨he, t.isBelow⟩
end Go.Proofs.Ythnegmpdadkkcaa.Et
