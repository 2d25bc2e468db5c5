/- Writer.Bits and Writer.Num again (printed by gen/vk.py out of XKw and XKn), with one block more that stays. -/
import Derived.Test.YtknmjmhiejmjdaaKn
set_option linter.unusedVariables false
set_option linter.unusedSimpArgs false
set_option maxRecDepth 100000
namespace Go.Proofs.Ytknmjmhiejmjdaa.Vk
open Go.RowKit Go.MapKept Hm Hs Hr Hb Hf Hg Hv
open Kw (be8 be8_snoc be8_len putR putR_snoc putR_len u64 okNum info5 low)
structure IsQ (n p : Nat) (w : World) (b : Nat) (bv : Value) (bytes : List Int) (wrong : Bool) : Prop where
  blk : Blk w b #[bv, .bool wrong] 89
  own : OwnS 5 1 w bv (bys bytes)
  nb : n ≤ b
  no : ∀ k, bv.ownBlock = some k → n ≤ k
  nw : n ≤ w.heap.size
  hp : b ≠ p
  hq : ∀ k, bv.ownBlock = some k → k ≠ p
  pl : p < w.heap.size
theorem IsQ.toW {n p : Nat} {w : World} {b : Nat} {bv : Value} {bytes : List Int} {wrong : Bool} (h : IsQ n p w b bv bytes wrong) : Kw.IsW n w b bv bytes wrong := ⟨h.blk, h.own, h.nb, h.no, h.nw⟩
theorem IsQ.turns {n p : Nat} {w w' : World} {b : Nat} {bv : Value} {bytes : List Int} {wrong : Bool} (h : IsQ n p w b bv bytes wrong) (t : Turns [] w w') : IsQ n p w' b bv bytes wrong :=
  ⟨h.blk.turns t (by simp), h.own.turns t (by simp), h.nb, h.no, Nat.le_trans h.nw t.size, h.hp, h.hq, Nat.lt_of_lt_of_le h.pl t.size⟩
structure BelowP (n p : Nat) (w w' : World) : Prop where
  lo : Below n w w'
  kp : w'.heap[p]? = w.heap[p]?
theorem BelowP.refl (n p : Nat) (w w2 : World) (h : w = w2 := by rfl) : BelowP n p w w2 := h ▸ ⟨Below.refl _ _, rfl⟩
theorem BelowP.trans {n p : Nat} {a b c : World} (h : BelowP n p a b) (k : BelowP n p b c) : BelowP n p a c := ⟨h.lo.trans k.lo, k.kp.trans h.kp⟩
theorem BelowP.drew {n p : Nat} {a b : World} (h : BelowP n p a b) : BelowP n p a b.drew := ⟨h.lo.drew, h.kp⟩
theorem BelowP.alloc {n p : Nat} {a w : World} (h : BelowP n p a w) (hn : n ≤ w.heap.size) (hp : p < w.heap.size) (o : Obj) : BelowP n p a (w.alloc o) := ⟨h.lo.alloc hn o, (Below.heap_alloc _ _ _ hp).trans h.kp⟩
theorem BelowP.setCell {n p : Nat} {a w : World} (h : BelowP n p a w) {q : Addr} (hn : n ≤ q.block) (hp : p ≠ q.block) (u : Value) : BelowP n p a (w.setCell q u) := ⟨h.lo.setCell hn u, (Below.heap_setCell _ _ _ _ hp).trans h.kp⟩
theorem lowP {F : List Nat} {n p : Nat} {w w' : World} (t : Turns F w w') (h : ∀ k ∈ F, n ≤ k) (hp : p ∉ F) (hn : n ≤ w.heap.size) (hl : p < w.heap.size) : BelowP n p w w' := ⟨low t h hn, t.block p hl hp⟩
set_option maxHeartbeats 2000000 in
theorem bits_is (n p : Nat) (x : Int) (hx : 0 ≤ x ∧ x < 18446744073709551616) (w : World) (b : Nat) (bv : Value) (bytes : List Int) (wrong : Bool) (h : IsQ n p w b bv bytes wrong) (hl : bytes.length ≤ 1000000) :
    Calls Try.prog 50 #[.pointer (some ⟨b, 0, none⟩), .int .u64 x] w fun e w' => e = .returned (.pointer (some ⟨b, 0, none⟩)) ∧ (∃ bv', IsQ n p w' b bv' (bytes ++ be8 x) wrong) ∧ BelowP n p w w' := by
  obtain ⟨hx0, hx1⟩ := hx
  go_enter Try.func50, Try.ntmps50
  go_wp2_with fail
  go_loopw [5, 8] (fun v5 v8 wr => ∃ (k : Nat) (bv' : Value), k ≤ 8 ∧ v8 = .int .i64 k ∧ IsQ n p wr b bv' (bytes ++ (be8 x).take k) wrong ∧ BelowP n p w wr) (fun _ v8 _ => 8 - (intOf v8).toNat)
  case atStart => exact ⟨0, bv, by omega, rfl, by simpa using h, BelowP.refl _ _ _ _⟩
  case round =>
    obtain ⟨k, bv', hk, rfl, hW, hlow⟩ := hrel
    clear h
    by_cases hlt : k < 8
    · have g1 : decide ((k : Int) < 8) = true := by simp; omega
      have hnext := be8_snoc x hlt
      obtain ⟨N, hN⟩ : ∃ N, 8 * (7 - k) = N := ⟨_, rfl⟩
      have hw2 : IntKind.i64.wrap (7 - (k : Int)) = ((7 - k : Nat) : Int) := by rw [IntWalk.i64_in _ (by omega)]; omega
      have hw1 : IntKind.i64.wrap (8 * ((7 - k : Nat) : Int)) = (N : Int) := by rw [IntWalk.i64_in _ (by omega)]; omega
      have hsh : Op.shift .shr .u64 x .i64 (N : Int) = pure (.int .u64 (x / 2 ^ N)) := by
        rw [shift_shr_any .u64 .i64 x (N : Int) (by omega)]
        have : min ((N : Int).toNat) (IntKind.bits .u64) = N := by show min ((N : Int).toNat) 64 = N; omega
        rw [this]
      obtain ⟨y, hy⟩ : ∃ y, x / 2 ^ N % 256 = y := ⟨_, rfl⟩
      have hyw : IntKind.u8.wrap (x / 2 ^ N) = y := by rw [← hy]; simp [IntKind.wrap, IntKind.signed, IntKind.bits]
      rw [hN, hy] at hnext
      clear hN hy
      have hlen : (bytes ++ (be8 x).take k).length ≤ 1000008 := by rw [List.length_append, List.length_take, be8_len]; omega
      have hap : bytes ++ (be8 x).take (k + 1) = (bytes ++ (be8 x).take k) ++ [y] := by rw [hnext, List.append_assoc]
      generalize bytes ++ (be8 x).take k = cur at *
      clear hnext
      have hWd : IsQ n p wr.drew b bv' cur wrong := ⟨hW.blk, hW.own, hW.nb, hW.no, hW.nw, hW.hp, hW.hq, hW.pl⟩
      have hlowd : BelowP n p w wr.drew := hlow.drew
      have hapne : ∀ j, bv'.ownBlock = some j → j ≠ b := fun j hj => hW.own.ne_blk hj hW.blk (by decide)
      go_wp2_with fail
      refine wp_region_flo2 [(0, true, [11, 12]), (1, true, [11, 12]), (2, true, [11, 12]), (3, true, [11, 12]), (4, true, [11]), (5, true, [11, 12]), (6, true, [11, 12]), (7, true, [11, 12]), (8, true, [11, 12]), (9, true, [11, 12]), (10, true, [12]), (11, false, []), (12, false, []), (13, true, [15]), (14, true, []), (15, false, [])] (fun j W => j = 11 → Blk W b #[bv', .bool wrong] 89) (by kernel_rfl) rfl (by kernel_rfl) (by intro c d v a w h; cases d <;> first | (simpa [Exit.then, Exit.inBlock, Act.put] using h) | exact h) ?_
      clear hW hlow
      generalize wr.drew = w1 at *
      have d0 : w1.cell? ⟨b, 0, none⟩ = some _ := hWd.blk.cell 0
      first
        | (refine flo2_read _ rfl (fun _ => True) trivial (fun _ _ _ _ => trivial) (fun K hK => ?_); go_simp; first | (refine hK _ ?_) | (refine ⟨fun W _ => ?_, hK _ ?_⟩; · (go_simp)) | (refine ⟨fun W => ?_, hK _ ?_⟩; · (go_simp)))
        | (refine flo2_read _ rfl (fun W => W = _) rfl (by simp) (fun K hK => ?_); go_simp; first | (refine hK _ ?_) | (refine ⟨fun W hS => ?_, hK _ ?_⟩; · (subst hS; go_simp)) | (refine ⟨?_, hK _ ?_⟩; · (go_simp)))
      clear hK K
      first
        | (refine flo2_read _ rfl (fun _ => True) trivial (fun _ _ _ _ => trivial) (fun K hK => ?_); go_simp; first | (refine hK _ ?_) | (refine ⟨fun W _ => ?_, hK _ ?_⟩; · (go_simp)) | (refine ⟨fun W => ?_, hK _ ?_⟩; · (go_simp)))
        | (refine flo2_read _ rfl (fun W => W = _) rfl (by simp) (fun K hK => ?_); go_simp; first | (refine hK _ ?_) | (refine ⟨fun W hS => ?_, hK _ ?_⟩; · (subst hS; go_simp)) | (refine ⟨?_, hK _ ?_⟩; · (go_simp)))
      clear hK K
      first
        | (refine flo2_read _ rfl (fun _ => True) trivial (fun _ _ _ _ => trivial) (fun K hK => ?_); go_simp; first | (refine hK _ ?_) | (refine ⟨fun W _ => ?_, hK _ ?_⟩; · (go_simp)) | (refine ⟨fun W => ?_, hK _ ?_⟩; · (go_simp)))
        | (refine flo2_read _ rfl (fun W => W = _) rfl (by simp) (fun K hK => ?_); go_simp; first | (refine hK _ ?_) | (refine ⟨fun W hS => ?_, hK _ ?_⟩; · (subst hS; go_simp)) | (refine ⟨?_, hK _ ?_⟩; · (go_simp)))
      clear hK K
      first
        | (refine flo2_read _ rfl (fun _ => True) trivial (fun _ _ _ _ => trivial) (fun K hK => ?_); go_simp; first | (refine hK _ ?_) | (refine ⟨fun W _ => ?_, hK _ ?_⟩; · (go_simp)) | (refine ⟨fun W => ?_, hK _ ?_⟩; · (go_simp)))
        | (refine flo2_read _ rfl (fun W => W = _) rfl (by simp) (fun K hK => ?_); go_simp; first | (refine hK _ ?_) | (refine ⟨fun W hS => ?_, hK _ ?_⟩; · (subst hS; go_simp)) | (refine ⟨?_, hK _ ?_⟩; · (go_simp)))
      clear hK K
      refine flo2_read _ rfl (fun W => Blk W b #[bv', .bool wrong] 89) (hWd.blk) (by simp) (fun K hK => ?_)
      go_simp
      first | (refine hK _ ?_) | (refine ⟨fun W hS => ?_, hK _ ?_⟩; · (have x0 : W.cell? ⟨b, 0, none⟩ = some _ := hS.cell 0; try go_simp))
      clear hK K
      first
        | (refine flo2_read _ rfl (fun _ => True) trivial (fun _ _ _ _ => trivial) (fun K hK => ?_); go_simp; first | (refine hK _ ?_) | (refine ⟨fun W _ => ?_, hK _ ?_⟩; · (go_simp)) | (refine ⟨fun W => ?_, hK _ ?_⟩; · (go_simp)))
        | (refine flo2_read _ rfl (fun W => W = _) rfl (by simp) (fun K hK => ?_); go_simp; first | (refine hK _ ?_) | (refine ⟨fun W hS => ?_, hK _ ?_⟩; · (subst hS; go_simp)) | (refine ⟨?_, hK _ ?_⟩; · (go_simp)))
      clear hK K
      first
        | (refine flo2_read _ rfl (fun _ => True) trivial (fun _ _ _ _ => trivial) (fun K hK => ?_); go_simp; first | (refine hK _ ?_) | (refine ⟨fun W _ => ?_, hK _ ?_⟩; · (go_simp)) | (refine ⟨fun W => ?_, hK _ ?_⟩; · (go_simp)))
        | (refine flo2_read _ rfl (fun W => W = _) rfl (by simp) (fun K hK => ?_); go_simp; first | (refine hK _ ?_) | (refine ⟨fun W hS => ?_, hK _ ?_⟩; · (subst hS; go_simp)) | (refine ⟨?_, hK _ ?_⟩; · (go_simp)))
      clear hK K
      first
        | (refine flo2_read _ rfl (fun _ => True) trivial (fun _ _ _ _ => trivial) (fun K hK => ?_); go_simp; first | (refine hK _ ?_) | (refine ⟨fun W _ => ?_, hK _ ?_⟩; · (go_simp)) | (refine ⟨fun W => ?_, hK _ ?_⟩; · (go_simp)))
        | (refine flo2_read _ rfl (fun W => W = _) rfl (by simp) (fun K hK => ?_); go_simp; first | (refine hK _ ?_) | (refine ⟨fun W hS => ?_, hK _ ?_⟩; · (subst hS; go_simp)) | (refine ⟨?_, hK _ ?_⟩; · (go_simp)))
      clear hK K
      first
        | (refine flo2_read _ rfl (fun _ => True) trivial (fun _ _ _ _ => trivial) (fun K hK => ?_); go_simp; first | (refine hK _ ?_) | (refine ⟨fun W _ => ?_, hK _ ?_⟩; · (go_simp)) | (refine ⟨fun W => ?_, hK _ ?_⟩; · (go_simp)))
        | (refine flo2_read _ rfl (fun W => W = _) rfl (by simp) (fun K hK => ?_); go_simp; first | (refine hK _ ?_) | (refine ⟨fun W hS => ?_, hK _ ?_⟩; · (subst hS; go_simp)) | (refine ⟨?_, hK _ ?_⟩; · (go_simp)))
      clear hK K
      first
        | (refine flo2_read _ rfl (fun _ => True) trivial (fun _ _ _ _ => trivial) (fun K hK => ?_); go_simp; first | (refine hK _ ?_) | (refine ⟨fun W _ => ?_, hK _ ?_⟩; · (go_simp)) | (refine ⟨fun W => ?_, hK _ ?_⟩; · (go_simp)))
        | (refine flo2_read _ rfl (fun W => W = _) rfl (by simp) (fun K hK => ?_); go_simp; first | (refine hK _ ?_) | (refine ⟨fun W hS => ?_, hK _ ?_⟩; · (subst hS; go_simp)) | (refine ⟨?_, hK _ ?_⟩; · (go_simp)))
      clear hK K
      first
        | (refine flo2_read _ rfl (fun _ => True) trivial (fun _ _ _ _ => trivial) (fun K hK => ?_); go_simp; first | (refine hK _ ?_) | (refine ⟨fun W _ => ?_, hK _ ?_⟩; · (go_simp)) | (refine ⟨fun W => ?_, hK _ ?_⟩; · (go_simp)))
        | (refine flo2_read _ rfl (fun W => W = _) rfl (by simp) (fun K hK => ?_); go_simp; first | (refine hK _ ?_) | (refine ⟨fun W hS => ?_, hK _ ?_⟩; · (subst hS; go_simp)) | (refine ⟨?_, hK _ ?_⟩; · (go_simp)))
      clear hK K
      clear d0
      refine flo2_alone _ rfl ?_
      go_wp2_with fail
      have A1 := (Turns.refl [] w1).alloc (.cells #[.int .u8 y] 5)
      have R1 : RdS 1 (w1.alloc (.cells #[.int .u8 y] 5)) (.slice (some ⟨w1.heap.size, 0, none⟩) 1 1) (bys [y]) := RdS.of_blk (l := [y]) (heap_alloc w1 (.cells #[.int .u8 y] 5)).1 rfl 1 (by simp) (by decide)
      have hW2 := hWd.turns A1
      have hlow2 := hlowd.alloc hWd.nw hWd.pl (.cells #[.int .u8 y] 5)
      refine ⟨fun _ => hW2.blk, _, fun _ _ h => h, ?_⟩
      clear hWd hlowd A1
      generalize w1.alloc (.cells #[.int .u8 y] 5) = w2 at *
      refine flo2_alone _ rfl ?_
      refine wp_append hW2.own R1 rfl _ _ _ rfl (.int .u8 0) 1 Try.underlying39 info5 rfl (by decide) rfl rfl (bys_one _) (by simp; omega) (by simp; omega) ?_
      intro v3 w3 ho3 t3 hloc hnil
      obtain ⟨A3, c3, hv3, _⟩ := ho3.form
      generalize (bys cur ++ bys [y]).length = L at hv3
      subst hv3
      have hb3 := hW2.blk.turns t3 (fun hm => hapne b (by simpa using hm) rfl)
      have hlow3 := hlow2.trans (lowP t3 (fun j hj => hW2.no j (by simpa using hj)) (fun hj => hW2.hq p (by simpa using hj) rfl) hW2.nw hW2.pl)
      have hn3 : ∀ j, (Value.slice A3 L c3).ownBlock = some j → n ≤ j := fun j hj => by
        rcases hloc with h1 | h1
        · exact hW2.no j (h1 ▸ hj)
        · rw [hj] at h1; injection h1 with h1; have := hW2.nw; omega
      have hq3 : ∀ j, (Value.slice A3 L c3).ownBlock = some j → j ≠ p := fun j hj => by
        rcases hloc with h1 | h1
        · exact hW2.hq j (h1 ▸ hj)
        · rw [hj] at h1; injection h1 with h1; have := hW2.pl; omega
      have hpl3 : p < w3.heap.size := by have := t3.size; have := hW2.pl; omega
      have hnw3 : n ≤ w3.heap.size := by have := t3.size; have := hW2.nw; omega
      rw [← bys_append, ← hap] at ho3
      go_wp2_with fail
      refine ⟨by simp, _, fun _ _ h => h, ?_⟩
      first
        | (refine flo2_read _ rfl (fun _ => True) trivial (fun _ _ _ _ => trivial) (fun K hK => ?_); go_simp; first | (refine hK _ ?_) | (refine ⟨fun W _ => ?_, hK _ ?_⟩; · (go_simp)) | (refine ⟨fun W => ?_, hK _ ?_⟩; · (go_simp)))
        | (refine flo2_read _ rfl (fun W => W = _) rfl (by simp) (fun K hK => ?_); go_simp; first | (refine hK _ ?_) | (refine ⟨fun W hS => ?_, hK _ ?_⟩; · (subst hS; go_simp)) | (refine ⟨?_, hK _ ?_⟩; · (go_simp)))
      clear hK K
      first
        | (refine flo2_read _ rfl (fun _ => True) trivial (fun _ _ _ _ => trivial) (fun K hK => ?_); go_simp; first | (refine hK _ ?_) | (refine ⟨fun W _ => ?_, hK _ ?_⟩; · (go_simp)) | (refine ⟨fun W => ?_, hK _ ?_⟩; · (go_simp)))
        | (refine flo2_read _ rfl (fun W => W = _) rfl (by simp) (fun K hK => ?_); go_simp; first | (refine hK _ ?_) | (refine ⟨fun W hS => ?_, hK _ ?_⟩; · (subst hS; go_simp)) | (refine ⟨?_, hK _ ?_⟩; · (go_simp)))
      clear hK K
      have f3 := hb3.frozen 0
      have d3 : w3.cell? ⟨b, 0, none⟩ = some _ := hb3.cell 0
      refine flo2_alone _ rfl ?_
      go_wp2_with fail
      have hb4 := hb3.set 0 (.slice A3 L c3)
      have hne3 : ∀ j, (Value.slice A3 L c3).ownBlock = some j → j ≠ b := fun j hj => ho3.ne_blk hj hb3 (by decide)
      have ho4 := ho3.turns ((Turns.refl [b] w3).setCell (p := ⟨b, 0, none⟩) (by simp) (.slice A3 L c3)) (fun j hj => by simpa using hne3 j hj)
      have hlow4 := hlow3.setCell (q := ⟨b, 0, none⟩) hW2.nb (fun h0 => hW2.hp h0.symm) (.slice A3 L c3)
      refine ⟨by simp, _, fun _ _ h => h, ?_⟩
      refine flo2_end ?_
      go_wp2_with fail
      go_roundw
      case rel => exact ⟨k + 1, _, by omega, by go_num, ⟨hb4, ho4, hW2.nb, hn3, by simpa [World.setCell] using hnw3, hW2.hp, hq3, by simpa [World.setCell] using hpl3⟩, hlow4⟩
      case measure => simp [intOf]; omega
    · obtain rfl : k = 8 := by omega
      have hW8 : IsQ n p wr b bv' (bytes ++ be8 x) wrong := by
        have e : (be8 x).take 8 = be8 x := List.take_of_length_le (by rw [be8_len]; omega)
        rw [e] at hW; exact hW
      go_wp2_with fail
      go_ret
      exact ⟨rfl, ⟨bv', hW8⟩, hlow⟩
set_option maxHeartbeats 1000000 in
theorem num_is (n p : Nat) (w : World) (b : Nat) (bv : Value) (bytes : List Int) (wrong : Bool) (h : IsQ n p w b bv bytes wrong) (v : Value) (l : List Int) (hv : RdS 1 w v (ins l)) (hvn : ∀ w', w'.heap[p]? = w.heap[p]? → RdS 1 w' v (ins l)) (hl : bytes.length + 8 * l.length ≤ 100000)
    (hb : ∀ x ∈ l, -9223372036854775808 ≤ x ∧ x ≤ 9223372036854775807) :
    Calls Try.prog 44 #[.pointer (some ⟨b, 0, none⟩), v] w fun e w' => e = .returned (.pointer (some ⟨b, 0, none⟩)) ∧ (∃ bv', IsQ n p w' b bv' (bytes ++ putR (l.map u64)) (wrong || !(l.all okNum))) ∧ BelowP n p w w' := by
  obtain ⟨A, c, hA, _⟩ := hv.form
  simp only [ins_len] at hA
  subst hA
  go_enter Try.func44, Try.ntmps44
  go_wp2_with fail
  go_loopw [6, 9] (fun v6 v9 wr => ∃ (k : Nat) (bv' : Value), k ≤ l.length ∧ v9 = .int .i64 k ∧ IsQ n p wr b bv' (bytes ++ putR ((l.take k).map u64)) (wrong || !((l.take k).all okNum)) ∧ BelowP n p w wr ∧ (k = 0 → Turns [] w wr)) (fun _ v9 _ => l.length - (intOf v9).toNat)
  case atStart => exact ⟨0, bv, by omega, rfl, by simpa [putR] using h, BelowP.refl _ _ _ _, fun _ => Turns.refl _ _⟩
  case round =>
    obtain ⟨k, bv', hk, rfl, hW, hlow, hz⟩ := hrel
    clear h
    by_cases hlt : k < l.length
    · have g1 : decide ((k : Int) < (l.length : Int)) = true := by simp; omega
      obtain ⟨x, hx⟩ : ∃ x, l[k]? = some x := ⟨_, List.getElem?_eq_getElem hlt⟩
      have hvr : RdS 1 wr (.slice A l.length c) (ins l) := by
        exact hvn _ hlow.kp
      clear hz
      obtain ⟨ad, c', hvv, _, hcell⟩ := hvr.at_ (j := k) (r := [.int .i64 x]) (by unfold ins; rw [List.getElem?_map, hx]; rfl)
      injection hvv with e1 e2 e3
      subst e1 e3
      have i0 := hcell 0 _ rfl
      rw [Nat.mul_one, Nat.add_zero] at i0
      have hsn : l.take (k + 1) = l.take k ++ [x] := by rw [List.take_add_one, hx]; rfl
      have hxb := hb x (List.mem_of_getElem? hx)
      have hcl : (bytes ++ putR ((l.take k).map u64)).length ≤ 1000000 := by rw [List.length_append, putR_len, List.length_map, List.length_take]; omega
      have hnb : bytes ++ putR ((l.take (k + 1)).map u64) = (bytes ++ putR ((l.take k).map u64)) ++ be8 (u64 x) := by rw [hsn, List.map_append, List.map_cons, List.map_nil, putR_snoc, List.append_assoc]
      have hnw : (wrong || !((l.take (k + 1)).all okNum)) = ((wrong || !((l.take k).all okNum)) || !(okNum x)) := by
        rw [hsn, List.all_append]; simp [Bool.or_assoc]
      generalize bytes ++ putR ((l.take k).map u64) = cur at *
      generalize (wrong || !((l.take k).all okNum)) = wr0 at *
      have hux : IntKind.u64.wrap x = u64 x := by unfold u64; simp [IntKind.wrap, IntKind.signed, IntKind.bits]
      have hub : 0 ≤ u64 x ∧ u64 x < 18446744073709551616 := by unfold u64; omega
      have hubh : Hid _ := hub
      have hll : l.length ≤ 100000 := by omega
      clear e2
      clear hsn hvn hb hx hv hvr hl hxb hub hcell
      by_cases hok : okNum x = true
      · have hok2 : 0 ≤ x ∧ x ≤ 4611686018427387904 := by unfold okNum at hok; simpa using hok
        have g2 : decide (x < 0) = false := decide_eq_false (by omega)
        have g3 : decide (x > 4611686018427387904) = false := decide_eq_false (by omega)
        rw [hok, Bool.not_true, Bool.or_false] at hnw
        have hnwh : Hid _ := hnw
        have hnbh : Hid _ := hnb
        clear hok hnw hnb
        go_wp2_with fail
        go_at_call 50
        refine Calls.mono (Vk.bits_is n p _ hubh.out _ b bv' cur wr0 hW hcl) ?_
        rintro e w2 ⟨rfl, ⟨bv2, h2⟩, l2⟩
        go_wp2_with fail
        go_roundw
        case rel => exact ⟨k + 1, bv2, by omega, by go_num, by rw [hnbh.out, hnwh.out]; exact h2, hlow.trans l2, fun h0 => by omega⟩
        case measure => simp [intOf]; omega
      · have hok2 : x < 0 ∨ x > 4611686018427387904 := by
          unfold okNum at hok
          have : ¬ (0 ≤ x ∧ x ≤ 4611686018427387904) := by simpa using hok
          omega
        have hokf : okNum x = false := by simpa using hok
        rw [hokf, Bool.not_false, Bool.or_true] at hnw
        have hnwh : Hid _ := hnw
        have hnbh : Hid _ := hnb
        have g4 : (decide (x < 0) = true) ∨ (decide (x < 0) = false ∧ decide (x > 4611686018427387904) = true) := by
          by_cases h1 : x < 0
          · exact .inl (decide_eq_true h1)
          · exact .inr ⟨decide_eq_false h1, decide_eq_true (by omega)⟩
        have d1 : wr.cell? ⟨b, 1, none⟩ = some _ := hW.blk.cell 1
        have f1 := hW.blk.frozen 1
        have hne : ∀ j, bv'.ownBlock = some j → j ≠ b := fun j hj => hW.own.ne_blk hj hW.blk (by decide)
        have hW2 : IsQ n p (wr.setCell ⟨b, 1, none⟩ (.bool true)) b bv' cur true := ⟨hW.blk.set 1 (.bool true), hW.own.turns ((Turns.refl [b] wr).setCell (p := ⟨b, 1, none⟩) (by simp) (.bool true)) (fun j hj => by simpa using hne j hj), hW.nb, hW.no, by simpa [World.setCell] using hW.nw, hW.hp, hW.hq, by simpa [World.setCell] using hW.pl⟩
        have hlow2 := hlow.setCell (q := ⟨b, 1, none⟩) hW.nb (fun h0 => hW.hp h0.symm) (.bool true)
        clear hok hokf hok2 hnw hnb hW hlow hne
        rcases g4 with g4 | ⟨g4, g5⟩
        all_goals
          go_wp2_with fail
          go_at_call 50
          refine (bits_is n p _ hubh.out _ b bv' cur true hW2 hcl).mono ?_
          rintro e w2 ⟨rfl, ⟨bv2, h2⟩, l2⟩
          go_wp2_with fail
          go_roundw
          case rel => exact ⟨k + 1, bv2, by omega, by go_num, by rw [hnbh.out, hnwh.out]; exact h2, hlow2.trans l2, fun h0 => by omega⟩
          case measure => simp [intOf]; omega
    · obtain rfl : k = l.length := by omega
      have g1 : decide ((l.length : Int) < (l.length : Int)) = false := by simp
      rw [List.take_length] at hW
      go_wp2_with fail
      go_ret
      exact ⟨rfl, ⟨bv', hW⟩, hlow⟩
end Go.Proofs.Ytknmjmhiejmjdaa.Vk
