/- The walk of codec's Writer.Num. -/
import Derived.Test.YtohokckpheljbaaKw
set_option linter.unusedVariables false
set_option linter.unusedSimpArgs false
set_option maxRecDepth 100000
namespace Go.Proofs.Ytohokckpheljbaa.Kn
open Go.RowKit Go.MapKept Hm Hs Hr Hb Hf Hg Hv Kw
set_option maxHeartbeats 1000000 in
theorem num_is (n : Nat) (w : World) (b : Nat) (bv : Value) (bytes : List Int) (wrong : Bool) (h : IsW n w b bv bytes wrong) (v : Value) (l : List Int) (hv : RdS 1 w v (ins l)) (hvn : (∀ w', Below n w w' → RdS 1 w' v (ins l)) ∨ l.length ≤ 1) (hl : bytes.length + 8 * l.length ≤ 100000)
    (hb : ∀ x ∈ l, -9223372036854775808 ≤ x ∧ x ≤ 9223372036854775807) :
    Calls Try.prog 54 #[.pointer (some ⟨b, 0, none⟩), v] w fun e w' => e = .returned (.pointer (some ⟨b, 0, none⟩)) ∧ (∃ bv', IsW n w' b bv' (bytes ++ putR (l.map u64)) (wrong || !(l.all okNum))) ∧ Below n w w' := by
  obtain ⟨A, c, hA, _⟩ := hv.form
  simp only [ins_len] at hA
  subst hA
  go_enter Try.func54, Try.ntmps54
  go_wp2_with fail
  go_loopw [6, 9] (fun v6 v9 wr => ∃ (k : Nat) (bv' : Value), k ≤ l.length ∧ v9 = .int .i64 k ∧ IsW n wr b bv' (bytes ++ putR ((l.take k).map u64)) (wrong || !((l.take k).all okNum)) ∧ Below n w wr ∧ (k = 0 → Turns [] w wr)) (fun _ v9 _ => l.length - (intOf v9).toNat)
  case atStart => exact ⟨0, bv, by omega, rfl, by simpa [putR] using h, Below.refl _ _, fun _ => Turns.refl _ _⟩
  case round =>
    obtain ⟨k, bv', hk, rfl, hW, hlow, hz⟩ := hrel
    clear h
    by_cases hlt : k < l.length
    · have g1 : decide ((k : Int) < (l.length : Int)) = true := by simp; omega
      obtain ⟨x, hx⟩ : ∃ x, l[k]? = some x := ⟨_, List.getElem?_eq_getElem hlt⟩
      have hvr : RdS 1 wr (.slice A l.length c) (ins l) := by
        rcases hvn with h1 | h1
        · exact h1 _ hlow
        · have hk0 : k = 0 := by omega
          exact hv.mv (fun a u hu => (hz hk0).old hu)
      clear hz
      obtain ⟨ad, c', hvv, _, hcell⟩ := hvr.at_ (j := k) (r := [.int .i64 x]) (by unfold ins; rw [List.getElem?_map, hx]; rfl)
      injection hvv with e1 e2 e3
      subst e1 e3
      have i0 := hcell 0 _ rfl
      rw [Nat.mul_one, Nat.add_zero] at i0
      have hsn : l.take (k + 1) = l.take k ++ [x] := by rw [List.take_add_one, hx]; rfl
      have hxb := hb x (List.mem_of_getElem? hx)
      have hcl : (bytes ++ putR ((l.take k).map u64)).length ≤ 1000000 := by rw [List.length_append, putR_len, List.length_map, List.length_take]; omega
      have hnb : bytes ++ putR ((l.take (k + 1)).map u64) = (bytes ++ putR ((l.take k).map u64)) ++ be8 (u64 x) := by rw [hsn, List.map_append, List.map_cons, List.map_nil, putR_snoc, List.append_assoc]
      have hnw : (wrong || !((l.take (k + 1)).all okNum)) = ((wrong || !((l.take k).all okNum)) || !(okNum x)) := by
        rw [hsn, List.all_append]; simp [Bool.or_assoc]
      generalize bytes ++ putR ((l.take k).map u64) = cur at *
      generalize (wrong || !((l.take k).all okNum)) = wr0 at *
      have hux : IntKind.u64.wrap x = u64 x := by unfold u64; simp [IntKind.wrap, IntKind.signed, IntKind.bits]
      have hub : 0 ≤ u64 x ∧ u64 x < 18446744073709551616 := by unfold u64; omega
      have hubh : Hid _ := hub
      have hll : l.length ≤ 100000 := by omega
      clear e2
      clear hsn hvn hb hx hv hvr hl hxb hub hcell
      by_cases hok : okNum x = true
      · have hok2 : 0 ≤ x ∧ x ≤ 4611686018427387904 := by unfold okNum at hok; simpa using hok
        have g2 : decide (x < 0) = false := decide_eq_false (by omega)
        have g3 : decide (x > 4611686018427387904) = false := decide_eq_false (by omega)
        rw [hok, Bool.not_true, Bool.or_false] at hnw
        have hnwh : Hid _ := hnw
        have hnbh : Hid _ := hnb
        clear hok hnw hnb
        go_wp2_with fail
        go_at_call 56
        refine Calls.mono (bits_is n _ hubh.out _ b bv' cur wr0 hW hcl) ?_
        rintro e w2 ⟨rfl, ⟨bv2, h2⟩, l2⟩
        go_wp2_with fail
        go_roundw
        case rel => exact ⟨k + 1, bv2, by omega, by go_num, by rw [hnbh.out, hnwh.out]; exact h2, hlow.trans l2, fun h0 => by omega⟩
        case measure => simp [intOf]; omega
      · have hok2 : x < 0 ∨ x > 4611686018427387904 := by
          unfold okNum at hok
          have : ¬ (0 ≤ x ∧ x ≤ 4611686018427387904) := by simpa using hok
          omega
        have hokf : okNum x = false := by simpa using hok
        rw [hokf, Bool.not_false, Bool.or_true] at hnw
        have hnwh : Hid _ := hnw
        have hnbh : Hid _ := hnb
        have g4 : (decide (x < 0) = true) ∨ (decide (x < 0) = false ∧ decide (x > 4611686018427387904) = true) := by
          by_cases h1 : x < 0
          · exact .inl (decide_eq_true h1)
          · exact .inr ⟨decide_eq_false h1, decide_eq_true (by omega)⟩
        have d1 : wr.cell? ⟨b, 1, none⟩ = some _ := hW.blk.cell 1
        have f1 := hW.blk.frozen 1
        have hne : ∀ j, bv'.ownBlock = some j → j ≠ b := fun j hj => hW.own.ne_blk hj hW.blk (by decide)
        have hW2 : IsW n (wr.setCell ⟨b, 1, none⟩ (.bool true)) b bv' cur true := ⟨hW.blk.set 1 (.bool true), hW.own.turns ((Turns.refl [b] wr).setCell (p := ⟨b, 1, none⟩) (by simp) (.bool true)) (fun j hj => by simpa using hne j hj), hW.nb, hW.no, by simpa [World.setCell] using hW.nw⟩
        have hlow2 := hlow.setCell (p := ⟨b, 1, none⟩) hW.nb (.bool true)
        clear hok hokf hok2 hnw hnb hW hlow hne
        rcases g4 with g4 | ⟨g4, g5⟩
        all_goals
          go_wp2_with fail
          go_at_call 56
          refine (bits_is n _ hubh.out _ b bv' cur true hW2 hcl).mono ?_
          rintro e w2 ⟨rfl, ⟨bv2, h2⟩, l2⟩
          go_wp2_with fail
          go_roundw
          case rel => exact ⟨k + 1, bv2, by omega, by go_num, by rw [hnbh.out, hnwh.out]; exact h2, hlow2.trans l2, fun h0 => by omega⟩
          case measure => simp [intOf]; omega
    · obtain rfl : k = l.length := by omega
      have g1 : decide ((l.length : Int) < (l.length : Int)) = false := by simp
      rw [List.take_length] at hW
      go_wp2_with fail
      go_ret
      exact ⟨rfl, ⟨bv', hW⟩, hlow⟩
theorem done_nil (w : World) : Calls Try.prog 57 #[.pointer none] w fun e w' => e = .returned (.tuple #[.slice none 0 0, .int .i64 1]) ∧ Turns [] w w' := by
  go_enter Try.func57, Try.ntmps57
  go_wp2_with fail
  go_ret2
  exact ⟨rfl, Turns.refl _ _⟩
theorem done_wrong (n : Nat) (w : World) (b : Nat) (bv : Value) (bytes : List Int) (h : IsW n w b bv bytes true) : Calls Try.prog 57 #[.pointer (some ⟨b, 0, none⟩)] w fun e w' => e = .returned (.tuple #[.slice none 0 0, .int .i64 1]) ∧ Turns [] w w' := by
  have c1 : w.cell? ⟨b, 1, none⟩ = some _ := h.blk.cell 1
  go_enter Try.func57, Try.ntmps57
  go_wp2_with fail
  go_ret2
  exact ⟨rfl, Turns.refl _ _⟩
theorem done_ok (n : Nat) (w : World) (b : Nat) (bv : Value) (bytes : List Int) (h : IsW n w b bv bytes false) (hl : bytes.length ≤ 1000000) : Calls Try.prog 57 #[.pointer (some ⟨b, 0, none⟩)] w
    fun e w' => ∃ v, e = .returned (.tuple #[v, .int .i64 0]) ∧ OwnS 5 1 w' v (bys bytes) ∧ Turns [] w w' ∧ ∀ k, v.ownBlock = some k → w.heap.size ≤ k := by
  have c0 : w.cell? ⟨b, 0, none⟩ = some _ := h.blk.cell 0
  have c1 : w.cell? ⟨b, 1, none⟩ = some _ := h.blk.cell 1
  have ho := h.own.reads
  go_enter Try.func57, Try.ntmps57
  go_wp2_with fail
  go_at_call 81
  refine Calls.mono (sclone_is _ bv bytes ho (by omega)) ?_
  rintro e w1 ⟨v, rfl, ho1, t1, hf⟩
  go_wp2_with fail
  go_ret2
  exact ⟨_, rfl, ho1, t1, hf⟩
/-- the document's eight bytes -/
theorem eight_is (x : Int) (hx : 0 ≤ x ∧ x < 18446744073709551616) (w : World) : Calls Try.prog 77 #[.int .u64 x] w
    fun e w' => ∃ v, e = .returned v ∧ OwnS 5 1 w' v (bys (be8 x)) ∧ Turns [] w w' ∧ ∀ k, v.ownBlock = some k → w.heap.size ≤ k := by
  obtain ⟨hx0, hx1⟩ := hx
  go_enter Try.func77, Try.ntmps77
  go_wp2_with fail
  go_loopw [3, 4] (fun v3 v4 wr => ∃ (k : Nat), k ≤ 8 ∧ v4 = .int .i64 (7 - (k : Int)) ∧ OwnS 5 1 wr v3 (bys ((be8 x).take k)) ∧ Turns [] w wr ∧ (∀ j, v3.ownBlock = some j → w.heap.size ≤ j)) (fun _ v4 _ => (intOf v4 + 1).toNat)
  case atStart => exact ⟨0, by omega, rfl, by simpa [bys] using OwnS.nil _ _ _, Turns.refl _ _, by simp [Value.ownBlock]⟩
  case round =>
    obtain ⟨k, hk, rfl, ho, T, hn⟩ := hrel
    by_cases hlt : k < 8
    · have g1 : decide (7 - (k : Int) ≥ 0) = true := by simp; omega
      have hnext := be8_snoc x hlt
      have hlen : ((be8 x).take k).length ≤ 8 := by rw [List.length_take]; omega
      have hnexth : Hid _ := hnext
      clear hnext
      have A1 := (Turns.refl [] wr).alloc (.cells #[.int .u8 (x / 2 ^ (8 * (7 - k)) % 256)] 5)
      have R1 : RdS 1 (wr.alloc (.cells #[.int .u8 (x / 2 ^ (8 * (7 - k)) % 256)] 5)) (.slice (some ⟨wr.heap.size, 0, none⟩) 1 1) (bys [x / 2 ^ (8 * (7 - k)) % 256]) := RdS.of_blk (l := [x / 2 ^ (8 * (7 - k)) % 256]) (heap_alloc wr (.cells #[.int .u8 (x / 2 ^ (8 * (7 - k)) % 256)] 5)).1 rfl 1 (by simp) (by decide)
      have ho1 := ho.turns A1 (by simp)
      have T1 := T.trans A1
      have hwr := T.size
      have hz1 : (bys ((be8 x).take k)).length + (bys [x / 2 ^ (8 * (7 - k)) % 256]).length ≤ 140737488355328 := by rw [bys_len, bys_len]; simp only [List.length_cons, List.length_nil]; omega
      go_wp2_with (at_builtin; refine stop_ ?_)
      refine Mk_.mk ?_
      refine wp_append ho1 R1 rfl _ _ _ rfl (.int .u8 0) 1 Try.underlying55 info5 rfl (by decide) rfl rfl (bys_one _) (by rw [Nat.mul_one]; exact hz1) hz1 ?_
      intro v2 w2 ho2 t2 hloc hnil
      rw [← bys_append, ← hnexth.out] at ho2
      have hn2 : ∀ j, v2.ownBlock = some j → w.heap.size ≤ j := fun j hj => by
        rcases hloc with h1 | h1
        · exact hn j (h1 ▸ hj)
        · rw [hj] at h1; injection h1 with h1; simp at h1; omega
      have T2 := T1.then t2 (fun j hj => .inr (hn j (by simpa using hj)))
      go_wp2_with fail
      go_roundw
      case rel => exact ⟨k + 1, by omega, by go_num, ho2, T2, hn2⟩
      case measure => simp [intOf]; omega
    · obtain rfl : k = 8 := by omega
      have e : (be8 x).take 8 = be8 x := List.take_of_length_le (by rw [be8_len]; omega)
      rw [e] at ho
      go_wp2_with fail
      go_ret
      exact ⟨_, rfl, ho, T, hn⟩
theorem in_is (x : Int) (w : World) : Calls Try.prog 89 #[.int .i64 x] w fun e w' => e = .returned (.bool (okNum x)) ∧ Turns [] w w' := by
  unfold okNum
  by_cases h1 : x ≥ 0
  · have g1 := decide_eq_true h1
    by_cases h2 : x ≤ 4611686018427387904
    · have g2 := decide_eq_true h2
      rw [decide_eq_true (by omega : 0 ≤ x ∧ x ≤ 4611686018427387904)]
      go_enter Try.func89, Try.ntmps89
      go_wp2_with fail
      go_ret
      exact ⟨rfl, Turns.refl _ _⟩
    · have g2 := decide_eq_false h2
      rw [decide_eq_false (by omega : ¬ (0 ≤ x ∧ x ≤ 4611686018427387904))]
      go_enter Try.func89, Try.ntmps89
      go_wp2_with fail
      go_ret
      exact ⟨rfl, Turns.refl _ _⟩
  · have g1 := decide_eq_false h1
    rw [decide_eq_false (by omega : ¬ (0 ≤ x ∧ x ≤ 4611686018427387904))]
    go_enter Try.func89, Try.ntmps89
    go_wp2_with fail
    go_ret
    exact ⟨rfl, Turns.refl _ _⟩
end Go.Proofs.Ytohokckpheljbaa.Kn
