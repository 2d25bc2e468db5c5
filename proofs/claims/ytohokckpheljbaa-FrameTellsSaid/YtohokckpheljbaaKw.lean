/- The walks of codec's Writer. -/
import Derived.Test.YtohokckpheljbaaProg
import Derived.Test.YtohokckpheljbaaHb
import Derived.Test.YtohokckpheljbaaHg
import Derived.Test.YtohokckpheljbaaHr
import Derived.Test.YtohokckpheljbaaHv
import Derived.Deep.LoopGhost
import Derived.Lib.MinMax
import Derived.KernelRfl
import Derived.Lib.Hide
import Derived.WalkSpells
set_option linter.unusedVariables false
set_option linter.unusedSimpArgs false
set_option maxRecDepth 100000
namespace Go.Proofs.Ytohokckpheljbaa.Kw
open Go.RowKit Go.MapKept Hm Hs Hr Hb Hf Hg Hv
theorem info5 : (Try.prog.info? 5).map (fun i => (i.zero, i.size, i.bytes)) = some (some (.int .u8 0), 1, 1) := by kernel_rfl
/-- eight bytes, the greatest first -/
def be8 (x : Int) : List Int := (List.range 8).map fun k => x / 2 ^ (8 * (7 - k)) % 256
theorem be8_len (x : Int) : (be8 x).length = 8 := by simp [be8]
theorem be8_snoc (x : Int) {k : Nat} (hk : k < 8) : (be8 x).take (k + 1) = (be8 x).take k ++ [x / 2 ^ (8 * (7 - k)) % 256] := by
  rw [List.take_add_one]
  congr 1
  unfold be8
  rw [List.getElem?_map, List.getElem?_range hk]
  rfl
/-- A writer, whose blocks all lie behind n. -/
structure IsW (n : Nat) (w : World) (b : Nat) (bv : Value) (bytes : List Int) (wrong : Bool) : Prop where
  blk : Blk w b #[bv, .bool wrong] 98
  own : OwnS 5 1 w bv (bys bytes)
  nb : n ≤ b
  no : ∀ k, bv.ownBlock = some k → n ≤ k
  nw : n ≤ w.heap.size
theorem IsW.turns {n : Nat} {w w' : World} {b : Nat} {bv : Value} {bytes : List Int} {wrong : Bool} (h : IsW n w b bv bytes wrong) (t : Turns [] w w') : IsW n w' b bv bytes wrong :=
  ⟨h.blk.turns t (by simp), h.own.turns t (by simp), h.nb, h.no, Nat.le_trans h.nw t.size⟩
theorem low {F : List Nat} {n : Nat} {w w' : World} (t : Turns F w w') (h : ∀ k ∈ F, n ≤ k) (hn : n ≤ w.heap.size) : Below n w w' :=
  ⟨t.os, t.tape, t.output, t.size, fun k hk => t.block k (by omega) (fun hF => by have := h k hF; omega)⟩
theorem bits_nil (x : Int) (w : World) : Calls Try.prog 56 #[.pointer none, .int .u64 x] w fun e w' => e = .returned (.pointer none) ∧ Turns [] w w' := by
  go_enter Try.func56, Try.ntmps56
  go_wp2_with fail
  go_ret
  exact ⟨rfl, Turns.refl _ _⟩
set_option maxHeartbeats 2000000 in
theorem bits_is (n : Nat) (x : Int) (hx : 0 ≤ x ∧ x < 18446744073709551616) (w : World) (b : Nat) (bv : Value) (bytes : List Int) (wrong : Bool) (h : IsW n w b bv bytes wrong) (hl : bytes.length ≤ 1000000) :
    Calls Try.prog 56 #[.pointer (some ⟨b, 0, none⟩), .int .u64 x] w fun e w' => e = .returned (.pointer (some ⟨b, 0, none⟩)) ∧ (∃ bv', IsW n w' b bv' (bytes ++ be8 x) wrong) ∧ Below n w w' := by
  obtain ⟨hx0, hx1⟩ := hx
  go_enter Try.func56, Try.ntmps56
  go_wp2_with fail
  go_loopw [5, 8] (fun v5 v8 wr => ∃ (k : Nat) (bv' : Value), k ≤ 8 ∧ v8 = .int .i64 k ∧ IsW n wr b bv' (bytes ++ (be8 x).take k) wrong ∧ Below n w wr) (fun _ v8 _ => 8 - (intOf v8).toNat)
  case atStart => exact ⟨0, bv, by omega, rfl, by simpa using h, Below.refl _ _⟩
  case round =>
    obtain ⟨k, bv', hk, rfl, hW, hlow⟩ := hrel
    clear h
    by_cases hlt : k < 8
    · have g1 : decide ((k : Int) < 8) = true := by simp; omega
      have hnext := be8_snoc x hlt
      obtain ⟨N, hN⟩ : ∃ N, 8 * (7 - k) = N := ⟨_, rfl⟩
      have hw2 : IntKind.i64.wrap (7 - (k : Int)) = ((7 - k : Nat) : Int) := by rw [IntWalk.i64_in _ (by omega)]; omega
      have hw1 : IntKind.i64.wrap (8 * ((7 - k : Nat) : Int)) = (N : Int) := by rw [IntWalk.i64_in _ (by omega)]; omega
      have hsh : Op.shift .shr .u64 x .i64 (N : Int) = pure (.int .u64 (x / 2 ^ N)) := by
        rw [shift_shr_any .u64 .i64 x (N : Int) (by omega)]
        have : min ((N : Int).toNat) (IntKind.bits .u64) = N := by show min ((N : Int).toNat) 64 = N; omega
        rw [this]
      obtain ⟨y, hy⟩ : ∃ y, x / 2 ^ N % 256 = y := ⟨_, rfl⟩
      have hyw : IntKind.u8.wrap (x / 2 ^ N) = y := by rw [← hy]; simp [IntKind.wrap, IntKind.signed, IntKind.bits]
      rw [hN, hy] at hnext
      clear hN hy
      have hlen : (bytes ++ (be8 x).take k).length ≤ 1000008 := by rw [List.length_append, List.length_take, be8_len]; omega
      have hap : bytes ++ (be8 x).take (k + 1) = (bytes ++ (be8 x).take k) ++ [y] := by rw [hnext, List.append_assoc]
      generalize bytes ++ (be8 x).take k = cur at *
      clear hnext
      have hWd : IsW n wr.drew b bv' cur wrong := ⟨hW.blk, hW.own, hW.nb, hW.no, hW.nw⟩
      have hlowd : Below n w wr.drew := hlow.drew
      have hapne : ∀ j, bv'.ownBlock = some j → j ≠ b := fun j hj => hW.own.ne_blk hj hW.blk (by decide)
      go_wp2_with fail
      refine wp_region_flo2 [(0, true, [11, 12]), (1, true, [11, 12]), (2, true, [11, 12]), (3, true, [11, 12]), (4, true, [11]), (5, true, [11, 12]), (6, true, [11, 12]), (7, true, [11, 12]), (8, true, [11, 12]), (9, true, [11, 12]), (10, true, [12]), (11, false, []), (12, false, []), (13, true, [15]), (14, true, []), (15, false, [])] (fun j W => j = 11 → Blk W b #[bv', .bool wrong] 98) (by kernel_rfl) rfl (by kernel_rfl) (by intro c d v a w h; cases d <;> first | (simpa [Exit.then, Exit.inBlock, Act.put] using h) | exact h) ?_
      clear hW hlow
      generalize wr.drew = w1 at *
      have d0 : w1.cell? ⟨b, 0, none⟩ = some _ := hWd.blk.cell 0
      first
        | (refine flo2_read _ rfl (fun _ => True) trivial (fun _ _ _ _ => trivial) (fun K hK => ?_); go_simp; first | (refine hK _ ?_) | (refine ⟨fun W _ => ?_, hK _ ?_⟩; · (go_simp)) | (refine ⟨fun W => ?_, hK _ ?_⟩; · (go_simp)))
        | (refine flo2_read _ rfl (fun W => W = _) rfl (by simp) (fun K hK => ?_); go_simp; first | (refine hK _ ?_) | (refine ⟨fun W hS => ?_, hK _ ?_⟩; · (subst hS; go_simp)) | (refine ⟨?_, hK _ ?_⟩; · (go_simp)))
      clear hK K
      first
        | (refine flo2_read _ rfl (fun _ => True) trivial (fun _ _ _ _ => trivial) (fun K hK => ?_); go_simp; first | (refine hK _ ?_) | (refine ⟨fun W _ => ?_, hK _ ?_⟩; · (go_simp)) | (refine ⟨fun W => ?_, hK _ ?_⟩; · (go_simp)))
        | (refine flo2_read _ rfl (fun W => W = _) rfl (by simp) (fun K hK => ?_); go_simp; first | (refine hK _ ?_) | (refine ⟨fun W hS => ?_, hK _ ?_⟩; · (subst hS; go_simp)) | (refine ⟨?_, hK _ ?_⟩; · (go_simp)))
      clear hK K
      first
        | (refine flo2_read _ rfl (fun _ => True) trivial (fun _ _ _ _ => trivial) (fun K hK => ?_); go_simp; first | (refine hK _ ?_) | (refine ⟨fun W _ => ?_, hK _ ?_⟩; · (go_simp)) | (refine ⟨fun W => ?_, hK _ ?_⟩; · (go_simp)))
        | (refine flo2_read _ rfl (fun W => W = _) rfl (by simp) (fun K hK => ?_); go_simp; first | (refine hK _ ?_) | (refine ⟨fun W hS => ?_, hK _ ?_⟩; · (subst hS; go_simp)) | (refine ⟨?_, hK _ ?_⟩; · (go_simp)))
      clear hK K
      first
        | (refine flo2_read _ rfl (fun _ => True) trivial (fun _ _ _ _ => trivial) (fun K hK => ?_); go_simp; first | (refine hK _ ?_) | (refine ⟨fun W _ => ?_, hK _ ?_⟩; · (go_simp)) | (refine ⟨fun W => ?_, hK _ ?_⟩; · (go_simp)))
        | (refine flo2_read _ rfl (fun W => W = _) rfl (by simp) (fun K hK => ?_); go_simp; first | (refine hK _ ?_) | (refine ⟨fun W hS => ?_, hK _ ?_⟩; · (subst hS; go_simp)) | (refine ⟨?_, hK _ ?_⟩; · (go_simp)))
      clear hK K
      refine flo2_read _ rfl (fun W => Blk W b #[bv', .bool wrong] 98) (hWd.blk) (by simp) (fun K hK => ?_)
      go_simp
      first | (refine hK _ ?_) | (refine ⟨fun W hS => ?_, hK _ ?_⟩; · (have x0 : W.cell? ⟨b, 0, none⟩ = some _ := hS.cell 0; try go_simp))
      clear hK K
      first
        | (refine flo2_read _ rfl (fun _ => True) trivial (fun _ _ _ _ => trivial) (fun K hK => ?_); go_simp; first | (refine hK _ ?_) | (refine ⟨fun W _ => ?_, hK _ ?_⟩; · (go_simp)) | (refine ⟨fun W => ?_, hK _ ?_⟩; · (go_simp)))
        | (refine flo2_read _ rfl (fun W => W = _) rfl (by simp) (fun K hK => ?_); go_simp; first | (refine hK _ ?_) | (refine ⟨fun W hS => ?_, hK _ ?_⟩; · (subst hS; go_simp)) | (refine ⟨?_, hK _ ?_⟩; · (go_simp)))
      clear hK K
      first
        | (refine flo2_read _ rfl (fun _ => True) trivial (fun _ _ _ _ => trivial) (fun K hK => ?_); go_simp; first | (refine hK _ ?_) | (refine ⟨fun W _ => ?_, hK _ ?_⟩; · (go_simp)) | (refine ⟨fun W => ?_, hK _ ?_⟩; · (go_simp)))
        | (refine flo2_read _ rfl (fun W => W = _) rfl (by simp) (fun K hK => ?_); go_simp; first | (refine hK _ ?_) | (refine ⟨fun W hS => ?_, hK _ ?_⟩; · (subst hS; go_simp)) | (refine ⟨?_, hK _ ?_⟩; · (go_simp)))
      clear hK K
      first
        | (refine flo2_read _ rfl (fun _ => True) trivial (fun _ _ _ _ => trivial) (fun K hK => ?_); go_simp; first | (refine hK _ ?_) | (refine ⟨fun W _ => ?_, hK _ ?_⟩; · (go_simp)) | (refine ⟨fun W => ?_, hK _ ?_⟩; · (go_simp)))
        | (refine flo2_read _ rfl (fun W => W = _) rfl (by simp) (fun K hK => ?_); go_simp; first | (refine hK _ ?_) | (refine ⟨fun W hS => ?_, hK _ ?_⟩; · (subst hS; go_simp)) | (refine ⟨?_, hK _ ?_⟩; · (go_simp)))
      clear hK K
      first
        | (refine flo2_read _ rfl (fun _ => True) trivial (fun _ _ _ _ => trivial) (fun K hK => ?_); go_simp; first | (refine hK _ ?_) | (refine ⟨fun W _ => ?_, hK _ ?_⟩; · (go_simp)) | (refine ⟨fun W => ?_, hK _ ?_⟩; · (go_simp)))
        | (refine flo2_read _ rfl (fun W => W = _) rfl (by simp) (fun K hK => ?_); go_simp; first | (refine hK _ ?_) | (refine ⟨fun W hS => ?_, hK _ ?_⟩; · (subst hS; go_simp)) | (refine ⟨?_, hK _ ?_⟩; · (go_simp)))
      clear hK K
      first
        | (refine flo2_read _ rfl (fun _ => True) trivial (fun _ _ _ _ => trivial) (fun K hK => ?_); go_simp; first | (refine hK _ ?_) | (refine ⟨fun W _ => ?_, hK _ ?_⟩; · (go_simp)) | (refine ⟨fun W => ?_, hK _ ?_⟩; · (go_simp)))
        | (refine flo2_read _ rfl (fun W => W = _) rfl (by simp) (fun K hK => ?_); go_simp; first | (refine hK _ ?_) | (refine ⟨fun W hS => ?_, hK _ ?_⟩; · (subst hS; go_simp)) | (refine ⟨?_, hK _ ?_⟩; · (go_simp)))
      clear hK K
      first
        | (refine flo2_read _ rfl (fun _ => True) trivial (fun _ _ _ _ => trivial) (fun K hK => ?_); go_simp; first | (refine hK _ ?_) | (refine ⟨fun W _ => ?_, hK _ ?_⟩; · (go_simp)) | (refine ⟨fun W => ?_, hK _ ?_⟩; · (go_simp)))
        | (refine flo2_read _ rfl (fun W => W = _) rfl (by simp) (fun K hK => ?_); go_simp; first | (refine hK _ ?_) | (refine ⟨fun W hS => ?_, hK _ ?_⟩; · (subst hS; go_simp)) | (refine ⟨?_, hK _ ?_⟩; · (go_simp)))
      clear hK K
      clear d0
      refine flo2_alone _ rfl ?_
      go_wp2_with fail
      have A1 := (Turns.refl [] w1).alloc (.cells #[.int .u8 y] 5)
      have R1 : RdS 1 (w1.alloc (.cells #[.int .u8 y] 5)) (.slice (some ⟨w1.heap.size, 0, none⟩) 1 1) (bys [y]) := RdS.of_blk (l := [y]) (heap_alloc w1 (.cells #[.int .u8 y] 5)).1 rfl 1 (by simp) (by decide)
      have hW2 := hWd.turns A1
      have hlow2 := hlowd.alloc hWd.nw (.cells #[.int .u8 y] 5)
      refine ⟨fun _ => hW2.blk, _, fun _ _ h => h, ?_⟩
      clear hWd hlowd A1
      generalize w1.alloc (.cells #[.int .u8 y] 5) = w2 at *
      refine flo2_alone _ rfl ?_
      refine wp_append hW2.own R1 rfl _ _ _ rfl (.int .u8 0) 1 Try.underlying55 info5 rfl (by decide) rfl rfl (bys_one _) (by simp; omega) (by simp; omega) ?_
      intro v3 w3 ho3 t3 hloc hnil
      obtain ⟨A3, c3, hv3, _⟩ := ho3.form
      generalize (bys cur ++ bys [y]).length = L at hv3
      subst hv3
      have hb3 := hW2.blk.turns t3 (fun hm => hapne b (by simpa using hm) rfl)
      have hlow3 := hlow2.trans (low t3 (fun j hj => hW2.no j (by simpa using hj)) hW2.nw)
      have hn3 : ∀ j, (Value.slice A3 L c3).ownBlock = some j → n ≤ j := fun j hj => by
        rcases hloc with h1 | h1
        · exact hW2.no j (h1 ▸ hj)
        · rw [hj] at h1; injection h1 with h1; have := hW2.nw; omega
      have hnw3 : n ≤ w3.heap.size := by have := t3.size; have := hW2.nw; omega
      rw [← bys_append, ← hap] at ho3
      go_wp2_with fail
      refine ⟨by simp, _, fun _ _ h => h, ?_⟩
      first
        | (refine flo2_read _ rfl (fun _ => True) trivial (fun _ _ _ _ => trivial) (fun K hK => ?_); go_simp; first | (refine hK _ ?_) | (refine ⟨fun W _ => ?_, hK _ ?_⟩; · (go_simp)) | (refine ⟨fun W => ?_, hK _ ?_⟩; · (go_simp)))
        | (refine flo2_read _ rfl (fun W => W = _) rfl (by simp) (fun K hK => ?_); go_simp; first | (refine hK _ ?_) | (refine ⟨fun W hS => ?_, hK _ ?_⟩; · (subst hS; go_simp)) | (refine ⟨?_, hK _ ?_⟩; · (go_simp)))
      clear hK K
      first
        | (refine flo2_read _ rfl (fun _ => True) trivial (fun _ _ _ _ => trivial) (fun K hK => ?_); go_simp; first | (refine hK _ ?_) | (refine ⟨fun W _ => ?_, hK _ ?_⟩; · (go_simp)) | (refine ⟨fun W => ?_, hK _ ?_⟩; · (go_simp)))
        | (refine flo2_read _ rfl (fun W => W = _) rfl (by simp) (fun K hK => ?_); go_simp; first | (refine hK _ ?_) | (refine ⟨fun W hS => ?_, hK _ ?_⟩; · (subst hS; go_simp)) | (refine ⟨?_, hK _ ?_⟩; · (go_simp)))
      clear hK K
      have f3 := hb3.frozen 0
      have d3 : w3.cell? ⟨b, 0, none⟩ = some _ := hb3.cell 0
      refine flo2_alone _ rfl ?_
      go_wp2_with fail
      have hb4 := hb3.set 0 (.slice A3 L c3)
      have hne3 : ∀ j, (Value.slice A3 L c3).ownBlock = some j → j ≠ b := fun j hj => ho3.ne_blk hj hb3 (by decide)
      have ho4 := ho3.turns ((Turns.refl [b] w3).setCell (p := ⟨b, 0, none⟩) (by simp) (.slice A3 L c3)) (fun j hj => by simpa using hne3 j hj)
      have hlow4 := hlow3.setCell (p := ⟨b, 0, none⟩) hW2.nb (.slice A3 L c3)
      refine ⟨by simp, _, fun _ _ h => h, ?_⟩
      refine flo2_end ?_
      go_wp2_with fail
      go_roundw
      case rel => exact ⟨k + 1, _, by omega, by go_num, ⟨hb4, ho4, hW2.nb, hn3, by simpa [World.setCell] using hnw3⟩, hlow4⟩
      case measure => simp [intOf]; omega
    · obtain rfl : k = 8 := by omega
      have hW8 : IsW n wr b bv' (bytes ++ be8 x) wrong := by
        have e : (be8 x).take 8 = be8 x := List.take_of_length_le (by rw [be8_len]; omega)
        rw [e] at hW; exact hW
      go_wp2_with fail
      go_ret
      exact ⟨rfl, ⟨bv', hW8⟩, hlow⟩
/-- slices.Clone[[]byte,byte]: nil of nil; else a slice of the call's own. -/
theorem sclone_nil (w : World) : Calls Try.prog 81 #[.slice none 0 0] w fun e w' => e = .returned (.slice none 0 0) ∧ Turns [] w w' := by
  have hnn := Lib.run_eql_slice_nil (P := Try.prog)
  go_enter Try.func81, Try.ntmps81
  go_wp2_with fail
  go_ret
  exact ⟨rfl, Turns.refl _ _⟩
theorem sclone_is (w : World) (sv : Value) (l : List Int) (hs : RdS 1 w sv (bys l)) (hl : l.length ≤ 16777216) : Calls Try.prog 81 #[sv] w
    fun e w' => ∃ v, e = .returned v ∧ OwnS 5 1 w' v (bys l) ∧ Turns [] w w' ∧ ∀ k, v.ownBlock = some k → w.heap.size ≤ k := by
  have hs0 := hs
  obtain ⟨A, c, rfl, _, _, hn, _⟩ := hs
  cases A with
  | none =>
    have hc := hn rfl
    subst hc
    have hl0 : l = [] := by
      obtain ⟨A2, c2, e2, h2, _, _⟩ := hs0
      injection e2 with _ e3 e4
      have : (bys l).length = 0 := by omega
      rw [bys_len] at this
      exact List.eq_nil_of_length_eq_zero this
    subst hl0
    refine (sclone_nil w).mono ?_
    rintro e w' ⟨rfl, t⟩
    exact ⟨_, rfl, OwnS.nil _ _ _, t, by simp [Value.ownBlock]⟩
  | some ad =>
    have hz : OwnS 5 1 (w.alloc (.cells #[] 5)) (.slice (some ⟨w.heap.size, 0, none⟩) 0 0) [] := ⟨World.ownsRow_lit w #[] 0 (Nat.zero_le _) (by decide) rfl, by simp⟩
    have hs1 : RdS 1 (w.alloc (.cells #[] 5)) _ (bys l) := hs0.mv (fun a u hu => ((Turns.refl [] w).alloc _).old hu)
    have hnn := Lib.run_eql_slice_nil (P := Try.prog)
    simp only [bys_len] at *
    go_enter Try.func81, Try.ntmps81
    go_wp2_with (at_builtin; refine wp_append hz hs1 rfl _ _ _ rfl (.int .u8 0) 1 Try.underlying55 info5 rfl (by decide) rfl rfl (bys_one _) (by simp; omega) (by simp; omega) ?_; intro fv' w2 ho2 t2 hloc hnil; obtain ⟨A2, c2', hfv2, _⟩ := ho2.form; simp only [List.nil_append, bys_len] at hfv2; subst hfv2)
    have T0 := (Turns.refl [] w).alloc (.cells #[] 5)
    have hlo : ∀ k, (Value.slice A2 l.length c2').ownBlock = some k → w.heap.size ≤ k := fun k hk => by rw [hk] at hloc; simp [Value.ownBlock] at hloc; omega
    have T2 := T0.then t2 (by intro k hk; simp [Value.ownBlock] at hk; omega)
    go_wp2_with fail
    go_ret
    exact ⟨_, rfl, by simpa using ho2, T2, hlo⟩
def okNum (x : Int) : Bool := decide (0 ≤ x ∧ x ≤ 4611686018427387904)
/-- numbers' bytes -/
def putR (l : List Int) : List Int := (l.map be8).flatten
theorem putR_snoc (l : List Int) (x : Int) : putR (l ++ [x]) = putR l ++ be8 x := by unfold putR; rw [List.map_append, List.flatten_append]; simp
theorem putR_len : ∀ l : List Int, (putR l).length = 8 * l.length
  | [] => rfl
  | x :: l => by
    have := putR_len l
    unfold putR at *
    rw [List.map_cons, List.flatten_cons, List.length_append, this, be8_len, List.length_cons]; omega
def u64 (x : Int) : Int := x % 18446744073709551616
theorem num_nil (w : World) (v : Value) (l : List Int) (hv : RdS 1 w v (ins l)) (hl : l.length ≤ 1000) : Calls Try.prog 54 #[.pointer none, v] w fun e w' => e = .returned (.pointer none) ∧ Turns [] w w' := by
  obtain ⟨A, c, hA, _⟩ := hv.form
  subst hA
  simp only [ins_len]
  go_enter Try.func54, Try.ntmps54
  go_wp2_with fail
  go_loopw [6, 9] (fun v6 v9 wr => ∃ (k : Nat), k ≤ l.length ∧ v9 = .int .i64 k ∧ Turns [] w wr) (fun _ v9 _ => l.length - (intOf v9).toNat)
  case atStart => exact ⟨0, by omega, rfl, Turns.refl _ _⟩
  case round =>
    obtain ⟨k, hk, rfl, T⟩ := hrel
    by_cases hlt : k < l.length
    · have g1 : decide ((k : Int) < (l.length : Int)) = true := by simp; omega
      obtain ⟨x, hx⟩ : ∃ x, l[k]? = some x := ⟨_, List.getElem?_eq_getElem hlt⟩
      obtain ⟨ad, c', hvv, _, hcell⟩ := hv.at_ (j := k) (r := [.int .i64 x]) (by unfold ins; rw [List.getElem?_map, hx]; rfl)
      injection hvv with e1 e2 e3
      subst e1 e3
      have i0 := T.old (hcell 0 _ rfl)
      rw [Nat.mul_one, Nat.add_zero] at i0
      go_wp2_with fail
      go_at_call 56
      refine Calls.mono (bits_nil _ _) ?_
      rintro e w2 ⟨rfl, t2⟩
      go_wp2_with fail
      go_roundw
      case rel => exact ⟨k + 1, by omega, by go_num, T.trans t2⟩
      case measure => simp [intOf]; omega
    · obtain rfl : k = l.length := by omega
      have g1 : decide ((l.length : Int) < (l.length : Int)) = false := by simp
      go_wp2_with fail
      go_ret
      exact ⟨rfl, T⟩
end Go.Proofs.Ytohokckpheljbaa.Kw
