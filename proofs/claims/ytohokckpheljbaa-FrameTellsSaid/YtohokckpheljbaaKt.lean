/- The walks of codec's Reader: Upto, Num, Done, Read, and the document's. -/
import Derived.Test.YtohokckpheljbaaKs
set_option linter.unusedVariables false
set_option linter.unusedSimpArgs false
set_option maxRecDepth 100000
namespace Go.Proofs.Ytohokckpheljbaa.Kt
open Go.RowKit Go.MapKept Hm Hs Hr Hb Hf Hg Hv Kw Kn Kr Ks
theorem val8_bd8 {l : List Int} (h : Byt l) (hl : 8 ≤ l.length) : 0 ≤ val8 (l.take 8) ∧ val8 (l.take 8) < 18446744073709551616 := by
  have := val8_bd h 8 hl
  exact ⟨this.1, this.2⟩
theorem bits_bd {s : St} (h : Byt s.bytes) : 0 ≤ s.bits.1 ∧ s.bits.1 < 18446744073709551616 := by
  unfold St.bits
  split
  · exact ⟨by simp, by simp⟩
  · rename_i h1
    exact val8_bd8 h (by omega)
theorem bits_len (s : St) : s.bits.2.bytes.length ≤ s.bytes.length := by
  unfold St.bits
  split
  · exact Nat.le_refl _
  · simp
theorem upto_nil (m : Int) (w : World) : Calls Try.prog 82 #[.pointer none, .int .i64 m] w fun e w' => e = .returned (.int .i64 0) ∧ Turns [] w w' := by
  go_enter Try.func82, Try.ntmps82
  go_wp2_with fail
  go_at_call 48
  refine Calls.mono (rbits_nil _) ?_
  rintro e w1 ⟨rfl, t1⟩
  go_wp2_with fail
  go_ret
  exact ⟨rfl, t1⟩
theorem upto_1 {s : St} {m : Int} (h : s.bits.2.failed = true) : s.upto m = (0, ⟨s.bits.2.bytes, true⟩) := by
  unfold St.upto
  rw [if_pos h]
  have : s.bits.2 = ⟨s.bits.2.bytes, s.bits.2.failed⟩ := rfl
  rw [this, h]
theorem upto_2 {s : St} {m : Int} (h : s.bits.2.failed = false) (h2 : m < 0 ∨ s.bits.1 > 4611686018427387904 ∨ s.bits.1 > m) : s.upto m = (0, ⟨s.bits.2.bytes, true⟩) := by
  unfold St.upto
  rw [if_neg (by rw [h]; simp), if_pos h2]
theorem upto_3 {s : St} {m : Int} (h : s.bits.2.failed = false) (h2 : ¬ (m < 0 ∨ s.bits.1 > 4611686018427387904 ∨ s.bits.1 > m)) : s.upto m = (s.bits.1, ⟨s.bits.2.bytes, false⟩) := by
  unfold St.upto
  rw [if_neg (by rw [h]; simp), if_neg h2]
  clear h2
  cases hb : s.bits with
  | mk x s' => rw [hb] at h; cases s'; simp at h; rw [h]
set_option maxHeartbeats 2000000 in
theorem upto_is (m : Int) (hm0 : -9223372036854775808 ≤ m ∧ m ≤ 9223372036854775807) (w : World) (b : Nat) (own : Option Nat) (s : St) (h : IsRd 126 w b own s) (hm : s.bytes.length ≤ 1000000) :
    Calls Try.prog 82 #[.pointer (some ⟨b, 0, none⟩), .int .i64 m] w fun e w' => e = .returned (.int .i64 (s.upto m).1) ∧ IsRd 126 w' b own (s.upto m).2 ∧ Turns [b] w w' := by
  have hbd := bits_bd h.bd
  have hB := rbits_is w b own s h hm
  by_cases h1 : s.bits.2.failed = true
  · rw [upto_1 h1]
    obtain ⟨x, s', hxs⟩ : ∃ x s', s.bits = (x, s') := ⟨_, _, rfl⟩
    rw [hxs] at hB h1 hbd ⊢
    have hBh : Hid _ := hB
    have e1 : s' = ⟨s'.bytes, true⟩ := by cases s'; simp at h1; rw [h1]
    have h1h : Hid (s' = _) := e1
    clear hB h hbd hxs h1 e1
    go_enter Try.func82, Try.ntmps82
    go_wp2_with fail
    go_at_call 48
    refine Calls.mono (hBh.out) ?_
    rintro e w1 ⟨rfl, i1, t1⟩
    try simp only at i1
    rw [h1h.out] at i1
    have d1 := i1.cell1.1
    try simp only at d1
    go_wp2_with fail
    go_ret
    exact ⟨rfl, i1, t1⟩
  · have hff : s.bits.2.failed = false := by simpa using h1
    have e1 : s.bits.2 = ⟨s.bits.2.bytes, false⟩ := by rw [← hff]
    have hW : ∀ (w1 : World) (f : Bool), Turns [b] w w1 → Turns [b] w (w1.setCell ⟨b, 1, none⟩ (.bool f)) := fun w1 f t => t.setCell (p := ⟨b, 1, none⟩) (by simp) _
    by_cases h2 : m < 0 ∨ s.bits.1 > 4611686018427387904 ∨ s.bits.1 > m
    · rw [upto_2 hff h2]
      rw [e1] at hB
      obtain ⟨x, hx⟩ : ∃ x, s.bits.1 = x := ⟨_, rfl⟩
      obtain ⟨rest, hrest⟩ : ∃ x, s.bits.2.bytes = x := ⟨_, rfl⟩
      rw [hx, hrest] at hB
      rw [hx] at h2 hbd
      rw [hrest]
      have hBh : Hid _ := hB
      clear hB h hx hrest h1 hff e1
      by_cases g1 : m < 0
      · have g2 := decide_eq_true g1
        clear h2
        go_enter Try.func82, Try.ntmps82
        go_wp2_with fail
        go_at_call 48
        refine Calls.mono (hBh.out) ?_
        rintro e w1 ⟨rfl, i1, t1⟩
        obtain ⟨d1, f1⟩ := i1.cell1
        try simp only at d1
        have i2 := i1.fail true
        go_wp2_with fail
        go_ret
        exact ⟨rfl, i2, hW _ _ t1⟩
      · have g2 := decide_eq_false g1
        have g3 : ∃ q, min m 4611686018427387904 = q ∧ IntKind.u64.wrap q = q ∧ decide (x > q) = true := by
          refine ⟨_, rfl, ?_, ?_⟩
          · simp [IntKind.wrap, IntKind.signed, IntKind.bits]; omega
          · simp; omega
        obtain ⟨q, g4, g5, g6⟩ := g3
        clear h2
        go_enter Try.func82, Try.ntmps82
        go_wp2_with fail
        go_at_call 48
        refine Calls.mono (hBh.out) ?_
        rintro e w1 ⟨rfl, i1, t1⟩
        obtain ⟨d1, f1⟩ := i1.cell1
        try simp only at d1
        have i2 := i1.fail true
        go_wp2_with fail
        go_ret
        exact ⟨rfl, i2, hW _ _ t1⟩
    · rw [upto_3 hff h2]
      rw [e1] at hB
      obtain ⟨x, hx⟩ : ∃ x, s.bits.1 = x := ⟨_, rfl⟩
      obtain ⟨rest, hrest⟩ : ∃ x, s.bits.2.bytes = x := ⟨_, rfl⟩
      rw [hx, hrest] at hB
      rw [hx] at h2 hbd ⊢
      rw [hrest]
      have hBh : Hid _ := hB
      clear hB h hx hrest h1 hff e1
      have g1 : ¬ m < 0 := by omega
      have g2 := decide_eq_false g1
      have g3 : ∃ q, min m 4611686018427387904 = q ∧ IntKind.u64.wrap q = q ∧ decide (x > q) = false := by
        refine ⟨_, rfl, ?_, ?_⟩
        · simp [IntKind.wrap, IntKind.signed, IntKind.bits]; omega
        · simp; omega
      obtain ⟨q, g4, g5, g6⟩ := g3
      have g7 : IntKind.i64.wrap x = x := IntWalk.i64_in _ (by omega)
      clear h2
      go_enter Try.func82, Try.ntmps82
      go_wp2_with fail
      go_at_call 48
      refine Calls.mono (hBh.out) ?_
      rintro e w1 ⟨rfl, i1, t1⟩
      obtain ⟨d1, f1⟩ := i1.cell1
      try simp only at d1
      have i2 := i1.fail false
      go_wp2_with fail
      go_ret
      exact ⟨rfl, i2, hW _ _ t1⟩
set_option maxHeartbeats 2000000 in
theorem dupto_is (m : Int) (hm0 : -9223372036854775808 ≤ m ∧ m ≤ 9223372036854775807) (w : World) (b : Nat) (own : Option Nat) (s : St) (h : IsRd 94 w b own s) (hm : s.bytes.length ≤ 1000000) :
    Calls Try.prog 84 #[.pointer (some ⟨b, 0, none⟩), .int .i64 m] w fun e w' => e = .returned (.int .i64 (s.upto m).1) ∧ IsRd 94 w' b own (s.upto m).2 ∧ Turns [b] w w' := by
  have hbd := bits_bd h.bd
  have hB := dbits_is w b own s h hm
  have hW : ∀ (w1 : World) (f : Bool), Turns [b] w w1 → Turns [b] w (w1.setCell ⟨b, 1, none⟩ (.bool f)) := fun w1 f t => t.setCell (p := ⟨b, 1, none⟩) (by simp) _
  by_cases h1 : s.bits.2.failed = true
  · rw [upto_1 h1]
    obtain ⟨x, s', hxs⟩ : ∃ x s', s.bits = (x, s') := ⟨_, _, rfl⟩
    rw [hxs] at hB h1 hbd ⊢
    have hBh : Hid _ := hB
    have e1 : s' = ⟨s'.bytes, true⟩ := by cases s'; simp at h1; rw [h1]
    have h1h : Hid (s' = _) := e1
    clear hB h hbd hxs h1 e1
    go_enter Try.func84, Try.ntmps84
    go_wp2_with fail
    go_at_call 52
    refine Calls.mono (hBh.out) ?_
    rintro e w1 ⟨rfl, i1, t1⟩
    try simp only at i1
    rw [h1h.out] at i1
    obtain ⟨d1, f1⟩ := i1.cell1
    try simp only at d1
    have i2 := i1.fail true
    go_wp2_with fail
    go_ret
    exact ⟨rfl, i2, hW _ _ t1⟩
  · have hff : s.bits.2.failed = false := by simpa using h1
    have e1 : s.bits.2 = ⟨s.bits.2.bytes, false⟩ := by rw [← hff]
    by_cases h2 : m < 0 ∨ s.bits.1 > 4611686018427387904 ∨ s.bits.1 > m
    · rw [upto_2 hff h2]
      rw [e1] at hB
      obtain ⟨x, hx⟩ : ∃ x, s.bits.1 = x := ⟨_, rfl⟩
      obtain ⟨rest, hrest⟩ : ∃ x, s.bits.2.bytes = x := ⟨_, rfl⟩
      rw [hx, hrest] at hB
      rw [hx] at h2 hbd
      rw [hrest]
      have hBh : Hid _ := hB
      clear hB h hx hrest h1 hff e1
      by_cases g1 : m < 0
      · have g2 := decide_eq_true g1
        clear h2
        go_enter Try.func84, Try.ntmps84
        go_wp2_with fail
        go_at_call 52
        refine Calls.mono (hBh.out) ?_
        rintro e w1 ⟨rfl, i1, t1⟩
        obtain ⟨d1, f1⟩ := i1.cell1
        try simp only at d1
        have i2 := i1.fail true
        go_wp2_with fail
        go_ret
        exact ⟨rfl, i2, hW _ _ t1⟩
      · have g2 := decide_eq_false g1
        have g5 : IntKind.u64.wrap m = m := by simp [IntKind.wrap, IntKind.signed, IntKind.bits]; omega
        by_cases g3 : x > 4611686018427387904
        · have g4 := decide_eq_true g3
          clear h2
          go_enter Try.func84, Try.ntmps84
          go_wp2_with fail
          go_at_call 52
          refine Calls.mono (hBh.out) ?_
          rintro e w1 ⟨rfl, i1, t1⟩
          obtain ⟨d1, f1⟩ := i1.cell1
          try simp only at d1
          have i2 := i1.fail true
          go_wp2_with fail
          go_ret
          exact ⟨rfl, i2, hW _ _ t1⟩
        · have g4 := decide_eq_false g3
          have g6 : decide (x > m) = true := by simp; omega
          clear h2
          go_enter Try.func84, Try.ntmps84
          go_wp2_with fail
          go_at_call 52
          refine Calls.mono (hBh.out) ?_
          rintro e w1 ⟨rfl, i1, t1⟩
          obtain ⟨d1, f1⟩ := i1.cell1
          try simp only at d1
          have i2 := i1.fail true
          go_wp2_with fail
          go_ret
          exact ⟨rfl, i2, hW _ _ t1⟩
    · rw [upto_3 hff h2]
      rw [e1] at hB
      obtain ⟨x, hx⟩ : ∃ x, s.bits.1 = x := ⟨_, rfl⟩
      obtain ⟨rest, hrest⟩ : ∃ x, s.bits.2.bytes = x := ⟨_, rfl⟩
      rw [hx, hrest] at hB
      rw [hx] at h2 hbd ⊢
      rw [hrest]
      have hBh : Hid _ := hB
      clear hB h hx hrest h1 hff e1
      have g1 : ¬ m < 0 := by omega
      have g2 := decide_eq_false g1
      have g3 : decide (x > 4611686018427387904) = false := by simp; omega
      have g4 : decide (x > m) = false := by simp; omega
      have g5 : IntKind.u64.wrap m = m := by simp [IntKind.wrap, IntKind.signed, IntKind.bits]; omega
      have g7 : IntKind.i64.wrap x = x := IntWalk.i64_in _ (by omega)
      clear h2
      go_enter Try.func84, Try.ntmps84
      go_wp2_with fail
      go_at_call 52
      refine Calls.mono (hBh.out) ?_
      rintro e w1 ⟨rfl, i1, t1⟩
      obtain ⟨d1, f1⟩ := i1.cell1
      try simp only at d1
      go_wp2_with fail
      go_ret
      exact ⟨rfl, i1, t1⟩
theorem num_is (w : World) (b : Nat) (own : Option Nat) (s : St) (h : IsRd 126 w b own s) (hm : s.bytes.length ≤ 1000000) :
    Calls Try.prog 46 #[.pointer (some ⟨b, 0, none⟩)] w fun e w' => e = .returned (.int .i64 (s.upto 4611686018427387904).1) ∧ IsRd 126 w' b own (s.upto 4611686018427387904).2 ∧ Turns [b] w w' := by
  have hU := upto_is 4611686018427387904 (by omega) w b own s h hm
  obtain ⟨x, s', hxs⟩ : ∃ x s', s.upto 4611686018427387904 = (x, s') := ⟨_, _, rfl⟩
  rw [hxs] at hU ⊢
  have hBh : Hid _ := hU
  clear hU h hxs
  go_enter Try.func46, Try.ntmps46
  go_wp2_with fail
  go_at_call 82
  refine Calls.mono (hBh.out) ?_
  rintro e w1 ⟨rfl, i1, t1⟩
  go_wp2_with fail
  go_ret
  exact ⟨rfl, i1, t1⟩
theorem rnum_nil (w : World) : Calls Try.prog 46 #[.pointer none] w fun e w' => e = .returned (.int .i64 0) ∧ Turns [] w w' := by
  go_enter Try.func46, Try.ntmps46
  go_wp2_with fail
  go_at_call 82
  refine Calls.mono (upto_nil _ _) ?_
  rintro e w1 ⟨rfl, t1⟩
  go_wp2_with fail
  go_ret
  exact ⟨rfl, t1⟩
theorem dnum_is (w : World) (b : Nat) (own : Option Nat) (s : St) (h : IsRd 94 w b own s) (hm : s.bytes.length ≤ 1000000) :
    Calls Try.prog 50 #[.pointer (some ⟨b, 0, none⟩)] w fun e w' => e = .returned (.int .i64 (s.upto 4611686018427387904).1) ∧ IsRd 94 w' b own (s.upto 4611686018427387904).2 ∧ Turns [b] w w' := by
  have hU := dupto_is 4611686018427387904 (by omega) w b own s h hm
  obtain ⟨x, s', hxs⟩ : ∃ x s', s.upto 4611686018427387904 = (x, s') := ⟨_, _, rfl⟩
  rw [hxs] at hU ⊢
  have hBh : Hid _ := hU
  clear hU h hxs
  go_enter Try.func50, Try.ntmps50
  go_wp2_with fail
  go_at_call 84
  refine Calls.mono (hBh.out) ?_
  rintro e w1 ⟨rfl, i1, t1⟩
  go_wp2_with fail
  go_ret
  exact ⟨rfl, i1, t1⟩
theorem rdone_nil (w : World) : Calls Try.prog 49 #[.pointer none] w fun e w' => e = .returned (.int .i64 1) ∧ Turns [] w w' := by
  go_enter Try.func49, Try.ntmps49
  go_wp2_with fail
  go_ret
  exact ⟨rfl, Turns.refl _ _⟩
theorem done_1 {s : St} (h : s.failed = true) : s.done = 2 := by unfold St.done; rw [if_pos (.inl h)]
theorem done_2 {s : St} (h : 0 < s.bytes.length) : s.done = 2 := by unfold St.done; rw [if_pos (.inr (by intro h0; rw [h0] at h; simp at h))]
theorem done_3 {s : St} (h : s.failed = false) (h2 : s.bytes.length = 0) : s.done = 0 := by unfold St.done; rw [if_neg]; rw [h, List.eq_nil_of_length_eq_zero h2]; simp
theorem rdone_is (w : World) (b : Nat) (own : Option Nat) (s : St) (h : IsRd 126 w b own s) :
    Calls Try.prog 49 #[.pointer (some ⟨b, 0, none⟩)] w fun e w' => e = .returned (.int .i64 s.done) ∧ Turns [] w w' := by
  obtain ⟨⟨bv, hb, hr, ho⟩, hne, hbd, hlt⟩ := h
  obtain ⟨A, c, hA, hc, _⟩ := hr.form
  simp only [bys_len] at hA
  subst hA
  have d0 : w.cell? ⟨b, 0, none⟩ = some _ := hb.cell 0
  have d1 : w.cell? ⟨b, 1, none⟩ = some _ := hb.cell 1
  by_cases h1 : s.failed = true
  · rw [done_1 h1]
    rw [h1] at d1
    clear hb hr
    go_enter Try.func49, Try.ntmps49
    go_wp2_with fail
    go_ret
    exact ⟨rfl, Turns.refl _ _⟩
  · have h1f : s.failed = false := by simpa using h1
    rw [h1f] at d1
    by_cases h2 : 0 < s.bytes.length
    · rw [done_2 h2]
      have g1 : decide ((s.bytes.length : Int) > 0) = true := decide_eq_true (by omega)
      clear hb hr
      go_enter Try.func49, Try.ntmps49
      go_wp2_with fail
      go_ret
      exact ⟨rfl, Turns.refl _ _⟩
    · rw [done_3 h1f (by omega)]
      have g1 : decide ((s.bytes.length : Int) > 0) = false := decide_eq_false (by omega)
      clear hb hr
      go_enter Try.func49, Try.ntmps49
      go_wp2_with fail
      go_ret
      exact ⟨rfl, Turns.refl _ _⟩
theorem ddone_is (w : World) (b : Nat) (own : Option Nat) (s : St) (h : IsRd 94 w b own s) :
    Calls Try.prog 53 #[.pointer (some ⟨b, 0, none⟩)] w fun e w' => e = .returned (.int .i64 s.done) ∧ Turns [] w w' := by
  obtain ⟨⟨bv, hb, hr, ho⟩, hne, hbd, hlt⟩ := h
  obtain ⟨A, c, hA, hc, _⟩ := hr.form
  simp only [bys_len] at hA
  subst hA
  have d0 : w.cell? ⟨b, 0, none⟩ = some _ := hb.cell 0
  have d1 : w.cell? ⟨b, 1, none⟩ = some _ := hb.cell 1
  by_cases h1 : s.failed = true
  · rw [done_1 h1]
    rw [h1] at d1
    clear hb hr
    go_enter Try.func53, Try.ntmps53
    go_wp2_with fail
    go_ret
    exact ⟨rfl, Turns.refl _ _⟩
  · have h1f : s.failed = false := by simpa using h1
    rw [h1f] at d1
    by_cases h2 : 0 < s.bytes.length
    · rw [done_2 h2]
      have g1 : decide ((s.bytes.length : Int) > 0) = true := decide_eq_true (by omega)
      clear hb hr
      go_enter Try.func53, Try.ntmps53
      go_wp2_with fail
      go_ret
      exact ⟨rfl, Turns.refl _ _⟩
    · rw [done_3 h1f (by omega)]
      have g1 : decide ((s.bytes.length : Int) > 0) = false := decide_eq_false (by omega)
      clear hb hr
      go_enter Try.func53, Try.ntmps53
      go_wp2_with fail
      go_ret
      exact ⟨rfl, Turns.refl _ _⟩
/-- codec.Read: a reader of bytes, of its own -/
theorem read_is (w : World) (sv : Value) (l : List Int) (hs : RdS 1 w sv (bys l)) (hl : l.length ≤ 1000000) (hbd : Byt l) : Calls Try.prog 45 #[sv] w
    fun e w' => ∃ b own, e = .returned (.pointer (some ⟨b, 0, none⟩)) ∧ IsRd 126 w' b own ⟨l, false⟩ ∧ Turns [] w w' ∧ w.heap.size ≤ b ∧ ∀ k, own = some k → w.heap.size ≤ k := by
  go_enter Try.func45, Try.ntmps45
  go_wp2_with fail
  go_at_call 81
  refine Calls.mono (sclone_is _ sv l hs (by omega)) ?_
  rintro e w1 ⟨v, rfl, ho1, t1, hf⟩
  obtain ⟨A, c, rfl, _⟩ := ho1.form
  have hb := Blk.new w1 #[.slice A (bys l).length c, .bool false] 126
  have tA := (Turns.refl [] w1).alloc (.cells #[.slice A (bys l).length c, .bool false] 126)
  have hr := RdS.turns ho1.reads tA (by simp)
  have hlt : ∀ k, (Value.slice A (bys l).length c).ownBlock = some k → k < w1.heap.size := fun k hk => ho1.lt hk
  have hI : IsRd 126 (w1.alloc (.cells #[.slice A (bys l).length c, .bool false] 126)) w1.heap.size (Value.slice A (bys l).length c).ownBlock ⟨l, false⟩ :=
    ⟨⟨_, hb, hr, rfl⟩, fun h0 => by have := hlt _ h0; omega, hbd, fun k hk => Nat.lt_of_lt_of_le (hlt k hk) tA.size⟩
  have hs1 := t1.size
  clear hb hr
  simp only [bys_len] at *
  go_wp2_with fail
  go_ret
  exact ⟨_, _, rfl, hI, t1.trans tA, hs1, hf⟩
end Go.Proofs.Ytohokckpheljbaa.Kt
