/- The walks of codec's Reader.Bits, and the document's. -/
import Derived.Test.YtohokckpheljbaaKr
set_option linter.unusedVariables false
set_option linter.unusedSimpArgs false
set_option maxRecDepth 100000
namespace Go.Proofs.Ytohokckpheljbaa.Ks
open Go.RowKit Go.MapKept Hm Hs Hr Hb Hf Hg Hv Kw Kr
theorem bits_bad {s : St} (h : s.failed = true ∨ s.bytes.length < 8) : s.bits = (0, ⟨s.bytes, true⟩) := by unfold St.bits; rw [if_pos h]
theorem bits_ok {s : St} (h : s.failed = false) (h2 : 8 ≤ s.bytes.length) : s.bits = (val8 (s.bytes.take 8), ⟨s.bytes.drop 8, false⟩) := by unfold St.bits; rw [if_neg (by rw [h]; simp; omega)]
theorem rbits_nil (w : World) : Calls Try.prog 48 #[.pointer none] w fun e w' => e = .returned (.int .u64 0) ∧ Turns [] w w' := by
  go_enter Try.func48, Try.ntmps48
  go_wp2_with fail
  go_ret
  exact ⟨rfl, Turns.refl _ _⟩
set_option maxHeartbeats 1000000 in
theorem rbits_bad (w : World) (b : Nat) (own : Option Nat) (s : St) (h : IsRd 126 w b own s) (hbad : s.failed = true ∨ s.bytes.length < 8) :
    Calls Try.prog 48 #[.pointer (some ⟨b, 0, none⟩)] w fun e w' => e = .returned (.int .u64 0) ∧ IsRd 126 w' b own ⟨s.bytes, true⟩ ∧ Turns [b] w w' := by
  obtain ⟨⟨bv, hb, hr, ho⟩, hne, hbd, hlt⟩ := h
  obtain ⟨A, c, hA, hc, _⟩ := hr.form
  simp only [bys_len] at hA
  subst hA
  have hI : IsRd 126 (w.setCell ⟨b, 1, none⟩ (.bool true)) b own ⟨s.bytes, true⟩ := ⟨⟨_, hb.set 1 (.bool true), RdS.turns hr ((Turns.refl [b] w).setCell (p := ⟨b, 1, none⟩) (by simp) (.bool true)) (by intro k hk; rw [ho] at hk; rintro h1; simp at h1; subst h1; exact hne hk), ho⟩, hne, hbd, fun k hk => by simpa [World.setCell] using hlt k hk⟩
  have hT : Turns [b] w (w.setCell ⟨b, 1, none⟩ (.bool true)) := (Turns.refl [b] w).setCell (p := ⟨b, 1, none⟩) (by simp) (.bool true)
  have d0 : w.cell? ⟨b, 0, none⟩ = some _ := hb.cell 0
  have d1 : w.cell? ⟨b, 1, none⟩ = some _ := hb.cell 1
  have f1 := hb.frozen 1
  by_cases hf : s.failed = true
  · rw [hf] at d1
    clear hb hr
    go_enter Try.func48, Try.ntmps48
    go_wp2_with fail
    go_ret
    exact ⟨rfl, hI, hT⟩
  · have hff : s.failed = false := by simpa using hf
    rw [hff] at d1
    have hl : s.bytes.length < 8 := by rcases hbad with h1 | h1; exact absurd h1 hf; exact h1
    have g1 : decide ((s.bytes.length : Int) < 8) = true := by simp; omega
    clear hb hr
    go_enter Try.func48, Try.ntmps48
    go_wp2_with fail
    go_ret
    exact ⟨rfl, hI, hT⟩
set_option maxHeartbeats 2000000 in
theorem rbits_ok (w : World) (b : Nat) (own : Option Nat) (s : St) (h : IsRd 126 w b own s) (hf : s.failed = false) (hl : 8 ≤ s.bytes.length) (hm : s.bytes.length ≤ 1000000) :
    Calls Try.prog 48 #[.pointer (some ⟨b, 0, none⟩)] w fun e w' => e = .returned (.int .u64 (val8 (s.bytes.take 8))) ∧ IsRd 126 w' b own ⟨s.bytes.drop 8, false⟩ ∧ Turns [b] w w' := by
  obtain ⟨⟨bv, hb, hr, ho⟩, hne, hbd, hlt⟩ := h
  obtain ⟨A, c, hA, hc, _⟩ := hr.form
  simp only [bys_len] at hA hc
  subst hA
  rw [hf] at hb
  have d0 : w.cell? ⟨b, 0, none⟩ = some _ := hb.cell 0
  have d1 : w.cell? ⟨b, 1, none⟩ = some _ := hb.cell 1
  have f0 := hb.frozen 0
  have f1 := hb.frozen 1
  have g1 : decide ((s.bytes.length : Int) < 8) = false := by simp; omega
  have hT : Turns [b] w (w.setCell ⟨b, 1, none⟩ (.bool false)) := (Turns.refl [b] w).setCell (p := ⟨b, 1, none⟩) (by simp) (.bool false)
  have hb1 : Blk (w.setCell ⟨b, 1, none⟩ (.bool false)) b #[.slice A s.bytes.length c, .bool false] 126 := hb.set 1 (.bool false)
  have hob : ∀ k, (Value.slice A s.bytes.length c).ownBlock = some k → k ∉ [b] := by intro k hk; rw [ho] at hk; rintro h1; simp at h1; subst h1; exact hne hk
  have hr1 := RdS.turns hr hT hob
  have htk := RdS.take hr1 (k := 8) (by simpa using hl)
  have hdr := RdS.drop hr1 (k := 8) (by simpa using hl) rfl
  rw [bys_take] at htk
  rw [bys_drop] at hdr
  clear hr hb
  go_enter Try.func48, Try.ntmps48
  go_wp2_with fail
  go_loopw [3, 5, 33] (fun v3 v5 v33 wr => ∃ (k : Nat), k ≤ 8 ∧ v33 = .int .i64 k ∧ v3 = .int .u64 (val8 (s.bytes.take k)) ∧ Turns [] (w.setCell ⟨b, 1, none⟩ (.bool false)) wr) (fun _ _ v33 _ => 8 - (intOf v33).toNat)
  case atStart => exact ⟨0, by omega, rfl, rfl, Turns.refl _ _⟩
  case round =>
    obtain ⟨k, hk, rfl, rfl, T⟩ := hrel
    by_cases hlt8 : k < 8
    · have g2 : decide ((k : Int) < 8) = true := by simp; omega
      obtain ⟨x, hx⟩ : ∃ x, s.bytes[k]? = some x := ⟨_, List.getElem?_eq_getElem (by omega)⟩
      have hxb := hbd.at_ hx
      have hvb := val8_bd hbd k (by omega)
      have hsn : val8 (s.bytes.take (k + 1)) = val8 (s.bytes.take k) * 256 + x := by rw [List.take_add_one, hx, Option.toList_some, val8_snoc]
      obtain ⟨ad, c', hv, _, hcell⟩ := htk.at_ (j := k) (r := [.int .u8 x]) (by unfold bys; rw [List.getElem?_map, List.getElem?_take_of_lt hlt8, hx]; rfl)
      injection hv with e1 e2 e3
      subst e1 e3
      have i0 := T.old (hcell 0 _ rfl)
      rw [Nat.mul_one, Nat.add_zero] at i0
      have hvb2 : 0 ≤ val8 (s.bytes.take k) ∧ val8 (s.bytes.take k) < 72057594037927936 := by
        have : (256 : Int) ^ k ≤ 256 ^ 7 := by
          have := Nat.pow_le_pow_right (n := 256) (by omega) (show k ≤ 7 by omega)
          exact_mod_cast this
        omega
      generalize val8 (s.bytes.take k) = V at *
      have hor := shl_or hvb2 hxb
      have hw : IntKind.u64.wrap (V * 256) = V * 256 := by simp [IntKind.wrap, IntKind.signed, IntKind.bits]; omega
      have hsh : Op.shift .shl .u64 V .u64 8 = pure (.int .u64 (V * 256)) := by
        rw [shift_shl_any .u64 .u64 V 8 (by omega)]
        exact congrArg (fun z => (pure (Value.int .u64 z) : Sem Value)) hw
      have hsnh : Hid _ := hsn
      have hwx : IntKind.u64.wrap x = x := by simp [IntKind.wrap, IntKind.signed, IntKind.bits]; omega
      clear hsn hvb hcell e2 hx
      go_wp2_with fail
      go_roundw
      case rel => exact ⟨k + 1, by omega, by go_num, by rw [hsnh.out], T⟩
      case measure => simp [intOf]; omega
    · obtain rfl : k = 8 := by omega
      have b1 := hb1.turns T (by simp)
      have d2 : wr.cell? ⟨b, 0, none⟩ = some _ := b1.cell 0
      have f2 := b1.frozen 0
      have hT2 := hT.trans (T.mono (by simp))
      have hfin : ∀ sv, (Value.slice A s.bytes.length c).ownBlock = sv.ownBlock → RdS 1 (w.setCell ⟨b, 1, none⟩ (.bool false)) sv (bys (s.bytes.drop 8)) → IsRd 126 (wr.setCell ⟨b, 0, none⟩ sv) b own ⟨s.bytes.drop 8, false⟩ := fun sv h1 h2 => by
        have T3 : Turns [b] wr (wr.setCell ⟨b, 0, none⟩ sv) := (Turns.refl [b] wr).setCell (p := ⟨b, 0, none⟩) (by simp) sv
        have h3 := RdS.turns (RdS.turns h2 T (by simp)) T3 (by rw [← h1]; exact hob)
        exact ⟨⟨sv, b1.set 0 sv, h3, by rw [← h1, ho]⟩, hne, hbd.drop 8, fun k hk => Nat.lt_of_lt_of_le (hlt k hk) (hT2.trans T3).size⟩
      clear b1
      by_cases hc8 : c = 8
      · have hob8 : (Value.slice A s.bytes.length c).ownBlock = (Value.slice A (s.bytes.length - 8) (c - 8)).ownBlock := by cases A <;> rfl
        rw [if_pos hc8] at hdr
        rw [show s.bytes.length - 8 = 0 from by omega, show c - 8 = 0 from by omega] at hdr hob8
        have hfin2 := hfin _ hob8 hdr
        clear hfin
        subst hc8
        go_wp2_with fail
        go_ret
        exact ⟨rfl, hfin2, hT2.setCell (p := ⟨b, 0, none⟩) (by simp) _⟩
      · have hob8 := drop_block (A := A) (n := s.bytes.length) (c := c) (k := 8) (n' := s.bytes.length - 8) (c' := c - 8)
        rw [if_neg hc8] at hdr hob8
        have hfin2 := hfin _ hob8.symm hdr
        clear hfin
        go_wp2_with fail
        go_ret
        exact ⟨rfl, hfin2, hT2.setCell (p := ⟨b, 0, none⟩) (by simp) _⟩
theorem rbits_is (w : World) (b : Nat) (own : Option Nat) (s : St) (h : IsRd 126 w b own s) (hm : s.bytes.length ≤ 1000000) :
    Calls Try.prog 48 #[.pointer (some ⟨b, 0, none⟩)] w fun e w' => e = .returned (.int .u64 s.bits.1) ∧ IsRd 126 w' b own s.bits.2 ∧ Turns [b] w w' := by
  by_cases hbad : s.failed = true ∨ s.bytes.length < 8
  · rw [bits_bad hbad]; exact rbits_bad w b own s h hbad
  · have h1 : s.failed = false := by cases hf : s.failed; rfl; exact absurd (.inl hf) hbad
    have h2 : 8 ≤ s.bytes.length := by rcases Nat.lt_or_ge s.bytes.length 8 with h3 | h3; exact absurd (.inr h3) hbad; exact h3
    rw [bits_ok h1 h2]; exact rbits_ok w b own s h h1 h2 hm
set_option maxHeartbeats 1000000 in
theorem dbits_bad (w : World) (b : Nat) (own : Option Nat) (s : St) (h : IsRd 94 w b own s) (hbad : s.failed = true ∨ s.bytes.length < 8) :
    Calls Try.prog 52 #[.pointer (some ⟨b, 0, none⟩)] w fun e w' => e = .returned (.int .u64 0) ∧ IsRd 94 w' b own ⟨s.bytes, true⟩ ∧ Turns [b] w w' := by
  obtain ⟨⟨bv, hb, hr, ho⟩, hne, hbd, hlt⟩ := h
  obtain ⟨A, c, hA, hc, _⟩ := hr.form
  simp only [bys_len] at hA
  subst hA
  have hI : IsRd 94 (w.setCell ⟨b, 1, none⟩ (.bool true)) b own ⟨s.bytes, true⟩ := ⟨⟨_, hb.set 1 (.bool true), RdS.turns hr ((Turns.refl [b] w).setCell (p := ⟨b, 1, none⟩) (by simp) (.bool true)) (by intro k hk; rw [ho] at hk; rintro h1; simp at h1; subst h1; exact hne hk), ho⟩, hne, hbd, fun k hk => by simpa [World.setCell] using hlt k hk⟩
  have hT : Turns [b] w (w.setCell ⟨b, 1, none⟩ (.bool true)) := (Turns.refl [b] w).setCell (p := ⟨b, 1, none⟩) (by simp) (.bool true)
  have d0 : w.cell? ⟨b, 0, none⟩ = some _ := hb.cell 0
  have d1 : w.cell? ⟨b, 1, none⟩ = some _ := hb.cell 1
  have f1 := hb.frozen 1
  by_cases hf : s.failed = true
  · rw [hf] at d1
    clear hb hr
    go_enter Try.func52, Try.ntmps52
    go_wp2_with fail
    go_ret
    exact ⟨rfl, hI, hT⟩
  · have hff : s.failed = false := by simpa using hf
    rw [hff] at d1
    have hl : s.bytes.length < 8 := by rcases hbad with h1 | h1; exact absurd h1 hf; exact h1
    have g1 : decide ((s.bytes.length : Int) < 8) = true := by simp; omega
    clear hb hr
    go_enter Try.func52, Try.ntmps52
    go_wp2_with fail
    go_ret
    exact ⟨rfl, hI, hT⟩
set_option maxHeartbeats 2000000 in
theorem dbits_ok (w : World) (b : Nat) (own : Option Nat) (s : St) (h : IsRd 94 w b own s) (hf : s.failed = false) (hl : 8 ≤ s.bytes.length) (hm : s.bytes.length ≤ 1000000) :
    Calls Try.prog 52 #[.pointer (some ⟨b, 0, none⟩)] w fun e w' => e = .returned (.int .u64 (val8 (s.bytes.take 8))) ∧ IsRd 94 w' b own ⟨s.bytes.drop 8, false⟩ ∧ Turns [b] w w' := by
  obtain ⟨⟨bv, hb, hr, ho⟩, hne, hbd, hlt⟩ := h
  obtain ⟨A, c, hA, hc, _⟩ := hr.form
  simp only [bys_len] at hA hc
  subst hA
  rw [hf] at hb
  have d0 : w.cell? ⟨b, 0, none⟩ = some _ := hb.cell 0
  have d1 : w.cell? ⟨b, 1, none⟩ = some _ := hb.cell 1
  have f0 := hb.frozen 0
  have g1 : decide ((s.bytes.length : Int) < 8) = false := by simp; omega
  have hob : ∀ k, (Value.slice A s.bytes.length c).ownBlock = some k → k ∉ [b] := by intro k hk; rw [ho] at hk; rintro h1; simp at h1; subst h1; exact hne hk
  have hdr := RdS.drop hr (k := 8) (by simpa using hl) rfl
  rw [bys_drop] at hdr
  go_enter Try.func52, Try.ntmps52
  go_wp2_with fail
  go_loopw [3, 4] (fun v3 v4 wr => ∃ (k : Nat), k ≤ 8 ∧ v4 = .int .i64 k ∧ v3 = .int .u64 (val8 (s.bytes.take k)) ∧ Turns [] w wr) (fun _ v4 _ => 8 - (intOf v4).toNat)
  case atStart => exact ⟨0, by omega, rfl, rfl, Turns.refl _ _⟩
  case round =>
    obtain ⟨k, hk, rfl, rfl, T⟩ := hrel
    by_cases hlt8 : k < 8
    · have g2 : decide ((k : Int) < 8) = true := by simp; omega
      obtain ⟨x, hx⟩ : ∃ x, s.bytes[k]? = some x := ⟨_, List.getElem?_eq_getElem (by omega)⟩
      have hxb := hbd.at_ hx
      have hvb := val8_bd hbd k (by omega)
      have hsn : val8 (s.bytes.take (k + 1)) = val8 (s.bytes.take k) * 256 + x := by rw [List.take_add_one, hx, Option.toList_some, val8_snoc]
      obtain ⟨ad, c', hv, _, hcell⟩ := hr.at_ (j := k) (r := [.int .u8 x]) (by unfold bys; rw [List.getElem?_map, hx]; rfl)
      injection hv with e1 e2 e3
      subst e1 e3
      have i0 := T.old (hcell 0 _ rfl)
      rw [Nat.mul_one, Nat.add_zero] at i0
      have d3 := T.old d0
      have hvb2 : 0 ≤ val8 (s.bytes.take k) ∧ val8 (s.bytes.take k) < 72057594037927936 := by
        have : (256 : Int) ^ k ≤ 256 ^ 7 := by
          have := Nat.pow_le_pow_right (n := 256) (by omega) (show k ≤ 7 by omega)
          exact_mod_cast this
        omega
      generalize val8 (s.bytes.take k) = V at *
      have hw : IntKind.u64.wrap (V * 256) = V * 256 := by simp [IntKind.wrap, IntKind.signed, IntKind.bits]; omega
      have hw2 : IntKind.u64.wrap (V * 256 + x) = V * 256 + x := by simp [IntKind.wrap, IntKind.signed, IntKind.bits]; omega
      have hsnh : Hid _ := hsn
      have hwx : IntKind.u64.wrap x = x := by simp [IntKind.wrap, IntKind.signed, IntKind.bits]; omega
      have g3 : k < s.bytes.length := by omega
      clear hsn hvb hcell e2 hx hr hb hdr
      go_wp2_with fail
      go_roundw
      case rel => exact ⟨k + 1, by omega, by go_num, by rw [hsnh.out], T⟩
      case measure => simp [intOf]; omega
    · obtain rfl : k = 8 := by omega
      have b1 := hb.turns T (by simp)
      have d2 : wr.cell? ⟨b, 0, none⟩ = some _ := b1.cell 0
      have f2 := b1.frozen 0
      have hT2 : Turns [b] w wr := T.mono (by simp)
      have hfin : ∀ sv, (Value.slice A s.bytes.length c).ownBlock = sv.ownBlock → RdS 1 w sv (bys (s.bytes.drop 8)) → IsRd 94 (wr.setCell ⟨b, 0, none⟩ sv) b own ⟨s.bytes.drop 8, false⟩ := fun sv h1 h2 => by
        have T3 : Turns [b] wr (wr.setCell ⟨b, 0, none⟩ sv) := (Turns.refl [b] wr).setCell (p := ⟨b, 0, none⟩) (by simp) sv
        have h3 := RdS.turns (RdS.turns h2 T (by simp)) T3 (by rw [← h1]; exact hob)
        exact ⟨⟨sv, b1.set 0 sv, h3, by rw [← h1, ho]⟩, hne, hbd.drop 8, fun k hk => Nat.lt_of_lt_of_le (hlt k hk) (hT2.trans T3).size⟩
      clear b1 hr hb
      by_cases hc8 : c = 8
      · have hob8 : (Value.slice A s.bytes.length c).ownBlock = (Value.slice A (s.bytes.length - 8) (c - 8)).ownBlock := by cases A <;> rfl
        rw [if_pos hc8] at hdr
        rw [show s.bytes.length - 8 = 0 from by omega, show c - 8 = 0 from by omega] at hdr hob8
        have hfin2 := hfin _ hob8 hdr
        clear hfin
        subst hc8
        go_wp2_with fail
        go_ret
        exact ⟨rfl, hfin2, hT2.setCell (p := ⟨b, 0, none⟩) (by simp) _⟩
      · have hob8 := drop_block (A := A) (n := s.bytes.length) (c := c) (k := 8) (n' := s.bytes.length - 8) (c' := c - 8)
        rw [if_neg hc8] at hdr hob8
        have hfin2 := hfin _ hob8.symm hdr
        clear hfin
        go_wp2_with fail
        go_ret
        exact ⟨rfl, hfin2, hT2.setCell (p := ⟨b, 0, none⟩) (by simp) _⟩
theorem dbits_is (w : World) (b : Nat) (own : Option Nat) (s : St) (h : IsRd 94 w b own s) (hm : s.bytes.length ≤ 1000000) :
    Calls Try.prog 52 #[.pointer (some ⟨b, 0, none⟩)] w fun e w' => e = .returned (.int .u64 s.bits.1) ∧ IsRd 94 w' b own s.bits.2 ∧ Turns [b] w w' := by
  by_cases hbad : s.failed = true ∨ s.bytes.length < 8
  · rw [bits_bad hbad]; exact dbits_bad w b own s h hbad
  · have h1 : s.failed = false := by cases hf : s.failed; rfl; exact absurd (.inl hf) hbad
    have h2 : 8 ≤ s.bytes.length := by rcases Nat.lt_or_ge s.bytes.length 8 with h3 | h3; exact absurd (.inr h3) hbad; exact h3
    rw [bits_ok h1 h2]; exact dbits_ok w b own s h h1 h2 hm
end Go.Proofs.Ytohokckpheljbaa.Ks
