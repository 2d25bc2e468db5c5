/- The document's rings: All, Majority, Nodes, Next. -/
import Derived.Test.YtmaielpfeajelaaDoorRh
import Derived.Test.YtmaielpfeajelaaDoorRk
import Derived.Test.YtmaielpfeajelaaDoorHv
set_option linter.unusedVariables false
set_option linter.unusedSimpArgs false
set_option maxRecDepth 100000
namespace Go.Proofs.YtmaielpfeajelaaDoor.Rm
open Go.RowKit Go.MapKept Go.Shelf Hm Hs Hv Hc Hd Hx Hy Ra Rg Rb Rc Rd Rh Rk
theorem oneI (w : World) (x : Int) : RdS 1 (w.alloc (.cells #[.int .i64 x] 3)) (.slice (some ⟨w.heap.size, 0, none⟩) 1 1) (ins [x]) :=
  RdS.of_cells (rows := ins [x]) (heap_alloc w (.cells #[.int .i64 x] 3)).1 rfl (by simp [ins]) 1 (by simp [ins]) (by decide)
theorem rmaj_any (n : Int) (hn : n ≤ 9223372036854775807) (w : World) : Calls Tryd.prog 33 #[.int .i64 n] w fun e w' => e = .returned (.int .i64 (majI n)) ∧ Turns [] w w' := by
  unfold majI
  by_cases h : n < 1
  · have g1 := decide_eq_true h
    rw [if_pos h]
    clear h
    go_enter Tryd.func33, Tryd.ntmps33
    go_wp2_with fail
    go_ret
    exact ⟨rfl, Turns.refl _ _⟩
  · have g1 : decide (n < 1) = false := decide_eq_false h
    rw [if_neg h]
    obtain ⟨m, hm⟩ : ∃ m, n / 2 = m := ⟨_, rfl⟩
    have g3 : Int.tdiv n 2 = m := by rw [Int.tdiv_eq_ediv_of_nonneg (by omega)]; exact hm
    have g4 : IntKind.i64.wrap (m + 1) = m + 1 := IntWalk.i64_in _ (by omega)
    have g5 : IntKind.i64.wrap m = m := IntWalk.i64_in _ (by omega)
    have g6 := hm
    rw [hm]
    clear hm
    go_enter Tryd.func33, Tryd.ntmps33
    go_wp2_with fail
    go_ret
    exact ⟨by simp [g3, g4, g5, g6], Turns.refl _ _⟩
theorem mask_step {j : Nat} (h : j < 64) : withN (2 ^ j - 1) j = 2 ^ (j + 1) - 1 := by
  rw [withN_nat _ _ h]
  refine bit_ext (fun y => ?_)
  rw [bit_or, bit_mask, bit_mask, bit_pow]
  by_cases h1 : y < j
  · simp [h1]; omega
  · by_cases h2 : j = y
    · subst h2; simp
    · simp [h1, h2]; omega
theorem mask_lt {j : Nat} (h : j ≤ 64) : U64 (2 ^ j - 1) := by
  have : 2 ^ j ≤ 2 ^ 64 := Nat.pow_le_pow_right (by omega) h
  show 2 ^ j - 1 < _
  omega
theorem rall_any (n : Int) (w : World) : Calls Tryd.prog 31 #[.int .i64 n] w fun e w' => e = .returned (.int .u64 (allN n : Nat)) ∧ Turns [] w w' := by
  obtain ⟨R, hR⟩ : ∃ R, allN n = R := ⟨_, rfl⟩
  rw [hR]
  have hRh := Lib.hid hR
  clear hR
  have rh := Lib.hid (rright_any n w)
  by_cases hn : okN n
  · rw [decide_eq_true hn] at rh
    obtain ⟨N, rfl⟩ : ∃ N : Nat, n = N := ⟨n.toNat, by have := hn.1; omega⟩
    have hN : 1 ≤ N ∧ N ≤ 64 := ⟨by have := hn.1; omega, by have := hn.2; omega⟩
    have hR2 : Hid (2 ^ N - 1 = R) := Lib.hid (by rw [← hRh.out]; unfold allN; rw [if_pos hn]; simp)
    clear hn
    go_enter Tryd.func31, Tryd.ntmps31
    go_wp2_with fail
    go_at_call 39
    refine Calls.mono (rh.out) ?_
    rintro e w1 ⟨rfl, t1⟩
    go_wp2_with fail
    go_loopw [4, 5] (fun v4 v5 wr => ∃ (j : Nat), j ≤ N ∧ v5 = .int .i64 j ∧ v4 = .int .u64 (2 ^ j - 1 : Nat) ∧ Turns [] w wr) (fun _ v5 _ => N - (RowKit.intOf v5).toNat)
    case atStart => exact ⟨0, by omega, rfl, rfl, t1⟩
    case round =>
      clear t1
      obtain ⟨j, hj, rfl, rfl, T⟩ := hrel
      by_cases hlt : j < N
      · have g1 : decide ((j : Int) < (N : Int)) = true := decide_eq_true (by omega)
        have g2 : decide (j < N) = true := decide_eq_true hlt
        have Wh := Lib.hid (fun w => rwith_any (2 ^ j - 1) j (mask_lt (by omega)) w)
        rw [mask_step (by omega)] at Wh
        generalize 2 ^ j - 1 = m at *
        go_wp2_with fail
        go_at_call 25
        refine Calls.mono (Wh.out _) ?_
        rintro e w2 ⟨rfl, t2⟩
        go_wp2_with fail
        go_roundw
        case rel => exact ⟨j + 1, by omega, by go_num, rfl, T.trans t2⟩
        case measure => simp [RowKit.intOf]; omega
      · obtain rfl : j = N := by omega
        have g1 : decide ((j : Int) < (j : Int)) = false := by simp
        rw [hR2.out]
        go_wp2_with fail
        go_ret
        exact ⟨rfl, T⟩
  · rw [decide_eq_false hn] at rh
    have hR2 : Hid (0 = R) := Lib.hid (by rw [← hRh.out]; unfold allN; rw [if_neg hn])
    clear hn
    go_enter Tryd.func31, Tryd.ntmps31
    go_wp2_with fail
    go_at_call 39
    refine Calls.mono (rh.out) ?_
    rintro e w1 ⟨rfl, t1⟩
    obtain rfl := hR2.out
    go_wp2_with fail
    go_loopw [4, 5] (fun v4 v5 wr => v5 = .int .i64 0 ∧ v4 = .int .u64 0 ∧ Turns [] w wr) (fun _ v5 _ => 0)
    case atStart => exact ⟨rfl, rfl, t1⟩
    case round =>
      clear t1
      obtain ⟨rfl, rfl, T⟩ := hrel
      cases hd : decide (0 < n) with
      | true =>
        go_wp2_with fail
        go_ret
        exact ⟨rfl, T⟩
      | false =>
        go_wp2_with fail
        go_ret
        exact ⟨rfl, T⟩
def nodU (s k : Nat) : List Nat := (List.range k).filter (fun i => bit s i)
theorem nodU_next {s k : Nat} : nodU s (k + 1) = nodU s k ++ if bit s k then [k] else [] := by
  unfold nodU
  rw [List.range_succ, List.filter_append]
  congr 1
  cases h : bit s k <;> simp [h]
theorem nodU_len (s k : Nat) : (nodU s k).length ≤ k := Nat.le_trans (List.length_filter_le _ _) (by simp)
theorem rnodes_is (s : Nat) (hs : U64 s) (w : World) : Calls Tryd.prog 22 #[.int .u64 s] w fun e w' => ∃ v, e = .returned v ∧ OwnS 3 1 w' v (ins (nodI (nod s))) ∧ Turns [] w w' ∧ (∀ k, v.ownBlock = some k → w.heap.size ≤ k) := by
  have H := (Sep.start w).nilSlice 3 1
  have hsh := Lib.hid hs
  go_enter Tryd.func22, Tryd.ntmps22
  go_wp2_with fail
  go_loopw [3, 4] (fun v3 v4 wr => ∃ (k : Nat), k ≤ 64 ∧ v4 = .int .i64 k ∧ Sep [] w [tOwn 3 1 v3 (ins (nodI (nodU s k)))] wr) (fun _ v4 _ => 64 - (RowKit.intOf v4).toNat)
  case atStart => exact ⟨0, by omega, rfl, H⟩
  case round =>
    obtain ⟨k, hk, rfl, H1⟩ := hrel
    clear H
    have H := H1
    clear H1
    obtain ⟨N, c3, rfl, _⟩ := formI (H.own 0 rfl)
    have hle := nodU_len s k
    by_cases hlt : k < 64
    · have g1 : decide ((k : Int) < 64) = true := by simp; omega
      have Hh := Lib.hid (fun w => rhas_yes s k hsh.out hlt w)
      have hnx := nodU_next (s := s) (k := k)
      have hli : (nodI (nodU s k)).length ≤ 64 := by unfold nodI; rw [List.length_map]; omega
      have hmap : nodI (nodU s (k + 1)) = nodI (nodU s k) ++ if bit s k then [(k : Int)] else [] := by
        rw [hnx]
        unfold nodI
        rw [List.map_append]
        cases bit s k <;> rfl
      generalize nodI (nodU s k) = cur at *
      clear hle hnx
      cases hb : bit s k with
      | true =>
        rw [hb] at Hh hmap
        simp only [if_true] at hmap
        have hmh := Lib.hid hmap
        have hHh := Lib.hid H
        clear hmap H hb
        go_wp2_with fail
        go_at_call 23
        refine Calls.mono (Hh.out _) ?_
        rintro e w2 ⟨rfl, t2⟩
        have H := hHh.out.turns t2
        have O1 := oneI w2 (k : Int)
        replace H := H.alloc #[.int .i64 k] 3
        have hOh := Lib.hid O1
        clear O1 hHh t2
        go_wp2_with (at_builtin; refine stop_ ?_)
        refine Mk_.mk ?_
        refine H.append 1 rfl hOh.out (cur.length + 1) (by simp) (ins (cur ++ [(k : Int)])) (by rw [ins_append]) rfl _ _ _ rfl (.int .i64 0) 8 Tryd.underlying35 infoI rfl (by decide) rfl rfl (ins_one _) (by omega) (by omega) ?_
        clear H hOh
        intro A4 c4 wn H tn _
        clear tn
        replace H := H.keep [1]
        go_wp2_with fail
        go_roundw
        case rel => exact ⟨k + 1, by omega, by go_num, by rw [hmh.out]; exact H⟩
        case measure => simp [RowKit.intOf]; omega
      | false =>
        rw [hb] at Hh hmap
        simp only [Bool.false_eq_true, if_false, List.append_nil] at hmap
        have hmh := Lib.hid hmap
        have hHh := Lib.hid H
        clear hmap H hb
        go_wp2_with fail
        go_at_call 23
        refine Calls.mono (Hh.out _) ?_
        rintro e w2 ⟨rfl, t2⟩
        have H := hHh.out.turns t2
        clear hHh t2
        go_wp2_with fail
        go_roundw
        case rel => exact ⟨k + 1, by omega, by go_num, by rw [hmh.out]; exact H⟩
        case measure => simp [RowKit.intOf]; omega
    · obtain rfl : k = 64 := by omega
      have O := H.own 0 rfl
      have T := H.t
      have Mi := mine_own H 0 rfl
      clear H
      go_wp2_with fail
      go_ret
      exact ⟨_, rfl, O, T, fun q hq => by simpa using Mi q hq⟩
/-- the document's way to the next one: k steps on, and further -/
def seek (s n i : Nat) : Nat → Nat → Nat
  | 0, _ => i
  | f + 1, k => if bit s ((i + k) % n) then (i + k) % n else seek s n i f (k + 1)
theorem seek_is {s n i : Nat} : ∀ {f k : Nat}, (∃ j, k ≤ j ∧ j < k + f ∧ bit s ((i + j) % n) = true ∧ (∀ t, k ≤ t → t < j → bit s ((i + t) % n) = false) ∧ seek s n i f k = (i + j) % n) ∨ ((∀ t, k ≤ t → t < k + f → bit s ((i + t) % n) = false) ∧ seek s n i f k = i)
  | 0, k => .inr ⟨fun t h1 h2 => by omega, rfl⟩
  | f + 1, k => by
    unfold seek
    cases h : bit s ((i + k) % n) with
    | true => exact .inl ⟨k, by omega, by omega, h, fun t h1 h2 => by omega, by simp⟩
    | false =>
      rcases seek_is (s := s) (n := n) (i := i) (f := f) (k := k + 1) with ⟨j, h1, h2, h3, h4, h5⟩ | ⟨h1, h2⟩
      · refine .inl ⟨j, by omega, by omega, h3, fun t h6 h7 => ?_, by simpa using h5⟩
        by_cases e : t = k
        · subst e; exact h
        · exact h4 t (by omega) h7
      · refine .inr ⟨fun t h6 h7 => ?_, by simpa using h2⟩
        by_cases e : t = k
        · subst e; exact h
        · exact h1 t (by omega) (by omega)
theorem seek_next {s n i : Nat} (hn : 1 ≤ n ∧ n ≤ 64) (hi : i < n) : seek s n i (n - 1) 1 = nextIn (nod (s &&& (2 ^ n - 1))) i := by
  have hs := nod_sorted (s &&& (2 ^ n - 1))
  have hm : ∀ y, y ∈ nod (s &&& (2 ^ n - 1)) ↔ y < n ∧ bit s y = true := by
    intro y
    rw [mem_nod, bit_and, bit_mask, Bool.and_eq_true, decide_eq_true_eq]
    constructor
    · rintro ⟨_, h1, h2⟩; exact ⟨h2, h1⟩
    · rintro ⟨h1, h2⟩; exact ⟨by omega, h2, h1⟩
  generalize nod (s &&& (2 ^ n - 1)) = l at *
  rcases seek_is (s := s) (n := n) (i := i) (f := n - 1) (k := 1) with ⟨j, h1, h2, h3, h4, h5⟩ | ⟨h1, h2⟩
  · rw [h5]
    by_cases hw : i + j < n
    · rw [Nat.mod_eq_of_lt hw] at h3 ⊢
      refine (next_above hs ((hm _).2 ⟨hw, h3⟩) (by omega) (fun y hy hiy => ?_)).symm
      obtain ⟨hy1, hy2⟩ := (hm y).1 hy
      by_cases hle : i + j ≤ y
      · exact hle
      · exfalso
        have := h4 (y - i) (by omega) (by omega)
        rw [show i + (y - i) = y from by omega, Nat.mod_eq_of_lt hy1, hy2] at this
        cases this
    · have e : (i + j) % n = i + j - n := by rw [Nat.mod_eq_sub_mod (by omega), Nat.mod_eq_of_lt (by omega)]
      rw [e] at h3 ⊢
      have hall : ∀ y ∈ l, y ≤ i := fun y hy => by
        obtain ⟨hy1, hy2⟩ := (hm y).1 hy
        by_cases hle : y ≤ i
        · exact hle
        · exfalso
          have := h4 (y - i) (by omega) (by omega)
          rw [show i + (y - i) = y from by omega, Nat.mod_eq_of_lt hy1, hy2] at this
          cases this
      rw [next_low hs hall ((hm _).2 ⟨by omega, h3⟩) (fun y hy => by
        obtain ⟨hy1, hy2⟩ := (hm y).1 hy
        by_cases hle : i + j - n ≤ y
        · exact hle
        · exfalso
          have := h4 (y + n - i) (by omega) (by omega)
          rw [show i + (y + n - i) = y + n from by omega, Nat.add_mod_right, Nat.mod_eq_of_lt hy1, hy2] at this
          cases this)]
      omega
  · rw [h2]
    have hall : ∀ y ∈ l, y = i := fun y hy => by
      obtain ⟨hy1, hy2⟩ := (hm y).1 hy
      by_cases he : y = i
      · exact he
      · exfalso
        by_cases hlt : i < y
        · have := h1 (y - i) (by omega) (by omega)
          rw [show i + (y - i) = y from by omega, Nat.mod_eq_of_lt hy1, hy2] at this
          cases this
        · have := h1 (y + n - i) (by omega) (by omega)
          rw [show i + (y + n - i) = y + n from by omega, Nat.add_mod_right, Nat.mod_eq_of_lt hy1, hy2] at this
          cases this
    cases l with
    | nil => rfl
    | cons k r =>
      have hk := hall k (by simp)
      subst hk
      rw [next_low hs (fun y hy => by rw [hall y hy]; exact Nat.le_refl _) (j := k) (by simp) (fun y hy => by rw [hall y hy]; exact Nat.le_refl _)]
      omega
set_option maxHeartbeats 1000000 in
theorem rnext_any (s : Nat) (n i : Int) (hs : U64 s) (w : World) : Calls Tryd.prog 29 #[.int .u64 s, .int .i64 n, .int .i64 i] w fun e w' => e = .returned (.int .i64 (nextI s n i)) ∧ Turns [] w w' := by
  have rh := Lib.hid (rright_any n w)
  have hsh := Lib.hid hs
  clear hs
  unfold nextI
  by_cases hn : okN n
  · rw [decide_eq_true hn] at rh
    by_cases h1 : i < 0
    · rw [if_neg (by omega)]
      have g1 := decide_eq_true h1
      clear h1 hn
      go_enter Tryd.func29, Tryd.ntmps29
      go_wp2_with fail
      go_at_call 39
      refine Calls.mono (rh.out) ?_
      rintro e w1 ⟨rfl, t1⟩
      go_wp2_with fail
      go_ret
      exact ⟨rfl, t1⟩
    · have g1 : decide (i < 0) = false := decide_eq_false h1
      by_cases h2 : i ≥ n
      · rw [if_neg (by omega)]
        have g2 := decide_eq_true h2
        clear h1 h2 hn
        go_enter Tryd.func29, Tryd.ntmps29
        go_wp2_with fail
        go_at_call 39
        refine Calls.mono (rh.out) ?_
        rintro e w1 ⟨rfl, t1⟩
        go_wp2_with fail
        go_ret
        exact ⟨rfl, t1⟩
      · have g2 : decide (i ≥ n) = false := decide_eq_false h2
        rw [if_pos ⟨hn, by omega, by omega⟩]
        obtain ⟨N, rfl⟩ : ∃ N : Nat, n = N := ⟨n.toNat, by have := hn.1; omega⟩
        obtain ⟨I, rfl⟩ : ∃ I : Nat, i = I := ⟨i.toNat, by omega⟩
        have hN : 1 ≤ N ∧ N ≤ 64 := ⟨by have := hn.1; omega, by have := hn.2; omega⟩
        have hI : I < N := by omega
        rw [Int.toNat_natCast, Int.toNat_natCast, ← seek_next hN hI]
        obtain ⟨R, hR⟩ : ∃ R, seek s N I (N - 1) 1 = R := ⟨_, rfl⟩
        rw [hR]
        have hRh := Lib.hid hR
        obtain ⟨X, hX⟩ : ∃ X : Ending → World → Prop, X = fun e w' => e = .returned (.int .i64 (R : Nat)) ∧ Turns [] w w' := ⟨_, rfl⟩
        rw [← hX]
        have hXh : Hid (∀ r w', r = R → Turns [] w w' → X (.returned (.int .i64 (r : Nat))) w') := Lib.hid (fun r w' e t => by rw [hX, e]; exact ⟨rfl, t⟩)
        have g3 : ¬ N ≤ I := by omega
        clear h1 h2 hn hR hX
        go_enter Tryd.func29, Tryd.ntmps29
        go_wp2_with fail
        go_at_call 39
        refine Calls.mono (rh.out) ?_
        rintro e w1 ⟨rfl, t1⟩
        go_wp2_with fail
        go_loopw [8] (fun v8 wr => ∃ (k : Nat), 1 ≤ k ∧ k ≤ N ∧ v8 = .int .i64 k ∧ seek s N I (N - k) k = R ∧ Turns [] w wr) (fun v8 _ => N - (RowKit.intOf v8).toNat)
        case atStart => exact ⟨1, by omega, by omega, rfl, hRh.out, t1⟩
        case round =>
          clear t1
          obtain ⟨k, hk1, hk, rfl, hsk, T⟩ := hrel
          by_cases hlt : k < N
          · have g4 : decide ((k : Int) < (N : Int)) = true := decide_eq_true (by omega)
            have g4b : decide (k < N) = true := decide_eq_true hlt
            obtain ⟨f, hf⟩ : ∃ f, N - k = f + 1 := ⟨N - k - 1, by omega⟩
            rw [hf] at hsk
            unfold seek at hsk
            have hf2 : f = N - (k + 1) := by omega
            rw [hf2] at hsk
            have hq : (I + k) % N < N := Nat.mod_lt _ (by omega)
            have w0 : IntKind.i64.wrap ((I : Int) + (k : Int)) = ((I + k : Nat) : Int) := by rw [IntWalk.i64_in _ (by omega)]; omega
            obtain ⟨q, hqe⟩ : ∃ q, (I + k) % N = q := ⟨_, rfl⟩
            rw [hqe] at hsk hq
            have w1' : Int.tmod (((I + k : Nat) : Int)) (N : Int) = (q : Int) := by rw [Int.tmod_eq_emod_of_nonneg (by omega), ← hqe]; simp
            have w2 : IntKind.i64.wrap (q : Int) = (q : Int) := IntWalk.i64_in _ (by omega)
            have w3 : (((I : Int) + (k : Int)) % (N : Int)) = (q : Int) := by rw [← hqe]; simp
            have w3b : (((I + k : Nat) : Int) % (N : Int)) = (q : Int) := by rw [← hqe]; simp
            have w1b : Int.tmod ((I : Int) + (k : Int)) (N : Int) = (q : Int) := by rw [Int.tmod_eq_emod_of_nonneg (by omega)]; exact w3
            have w4 : ¬ ((N : Int) = 0) := by omega
            have w5 : ((N : Int) == 0) = false := by simp; omega
            have w6 : ¬ (N = 0) := by omega
            have Hh := Lib.hid (fun w => rhas_yes s q hsh.out (by omega) w)
            clear hf hf2 hqe
            cases hb : bit s q with
            | true =>
              rw [hb] at hsk Hh
              simp only [if_true] at hsk
              have hX := fun w' t => hXh.out q w' hsk t
              have hXh2 := Lib.hid hX
              clear hb hsk hX
              go_wp2_with fail
              go_at_call 23
              refine Calls.mono (Hh.out _) ?_
              rintro e wb ⟨rfl, tb⟩
              have hX := hXh2.out _ (T.trans tb)
              go_wp2_with fail
              exact hX
            | false =>
              rw [hb] at hsk Hh
              simp only [Bool.false_eq_true, if_false] at hsk
              have hskh := Lib.hid hsk
              clear hb hsk
              go_wp2_with fail
              go_at_call 23
              refine Calls.mono (Hh.out _) ?_
              rintro e wb ⟨rfl, tb⟩
              go_wp2_with fail
              go_roundw
              case rel => exact ⟨k + 1, by omega, by omega, by go_num, hskh.out, T.trans tb⟩
              case measure => simp [RowKit.intOf]; omega
          · obtain rfl : k = N := by omega
            have g4 : decide ((k : Int) < (k : Int)) = false := by simp
            rw [Nat.sub_self] at hsk
            unfold seek at hsk
            have hX := hXh.out I wr hsk T
            clear hsk
            go_wp2_with fail
            exact hX
  · rw [decide_eq_false hn] at rh
    rw [if_neg (fun h => hn h.1)]
    clear hn
    go_enter Tryd.func29, Tryd.ntmps29
    go_wp2_with fail
    go_at_call 39
    refine Calls.mono (rh.out) ?_
    rintro e w1 ⟨rfl, t1⟩
    go_wp2_with fail
    go_ret
    exact ⟨rfl, t1⟩
end Go.Proofs.YtmaielpfeajelaaDoor.Rm
