/- The walks of the document's demand: Of, Note, Want. -/
import Derived.Test.YtcmaloncfdmpnaaWb
set_option linter.unusedVariables false
set_option linter.unusedSimpArgs false
set_option maxRecDepth 100000
namespace Go.Proofs.Ytcmaloncfdmpnaa.Wc
open Go.RowKit Go.MapKept Hm Hs Hf Hg Hk Hx Hv Sm Sat Wa Wb
/-- the greatest of all, from the last one on, each halved as often as one came since -/
def rv (key : Int) : List (Int × Int) → Nat → Int
  | [], _ => 0
  | n :: r, h => if n.1 = key then max (fit n.2 / 2 ^ (min h 63)) (rv key r (h + 1)) else rv key r h
theorem half_min {x : Int} (h0 : 0 ≤ x) (h1 : x ≤ 4611686018427387904) (h : Nat) : x / 2 ^ (min h 63) = x / 2 ^ h := by
  by_cases hh : h ≤ 63
  · rw [Nat.min_eq_left hh]
  · rw [Nat.min_eq_right (by omega)]
    have e1 : x / 2 ^ 63 = 0 := Int.ediv_eq_zero_of_lt h0 (by omega)
    have e2 : (2 : Int) ^ 63 ≤ 2 ^ h := by
      have := Nat.pow_le_pow_right (n := 2) (by omega) (show 63 ≤ h by omega)
      exact_mod_cast this
    have e3 : x / 2 ^ h = 0 := Int.ediv_eq_zero_of_lt h0 (by omega)
    rw [e1, e3]
theorem pow_pos (h : Nat) : (0 : Int) < 2 ^ h := Int.pow_pos (by omega)
theorem max_div (a b : Int) (h : Nat) : max a b / 2 ^ h = max (a / 2 ^ h) (b / 2 ^ h) := by
  have hp := pow_pos h
  rcases Int.le_total a b with hab | hab
  · have := Int.ediv_le_ediv hp hab
    rw [Int.max_eq_right hab, Int.max_eq_right this]
  · have := Int.ediv_le_ediv hp hab
    rw [Int.max_eq_left hab, Int.max_eq_left this]
theorem rv_is (key : Int) : ∀ (NS : List (Int × Int)) (h : Nat), rv key NS.reverse h = ofN NS key / 2 ^ h := by
  intro NS
  induction hl : NS.length generalizing NS with
  | zero =>
    intro h
    obtain rfl := List.eq_nil_of_length_eq_zero hl
    show (0 : Int) = 0 / _
    simp
  | succ m ih =>
    intro h
    rcases List.eq_nil_or_concat NS with rfl | ⟨r, n, rfl⟩
    · simp at hl
    · rw [List.concat_eq_append] at hl ⊢
      rw [List.length_append, List.length_singleton] at hl
      rw [List.reverse_append, List.reverse_singleton, List.singleton_append, ofN_snoc]
      unfold rv st
      split
      · rw [half_min (fit_bd n.2).1 (fit_bd n.2).2, max_div, ih r (by omega)]
        congr 1
        rw [Int.pow_succ, Int.mul_comm, Int.ediv_ediv_of_nonneg (by omega)]
      · exact ih r (by omega) h
theorem rv_zero (key : Int) (NS : List (Int × Int)) : rv key NS.reverse 0 = ofN NS key := by rw [rv_is]; simp
theorem rv_bd (key : Int) (NS : List (Int × Int)) (h : Nat) : 0 ≤ rv key NS.reverse h := by
  rw [rv_is]; exact Int.ediv_nonneg (ofN_bd NS key).1 (Int.le_of_lt (pow_pos h))
def nrow (n : Int × Int) : List Value := [.int .i64 n.1, .int .i64 n.2]
/-- the document's demand: its block, its notes -/
abbrev rm (d : Nat) (lv : Value) (NS : List (Int × Int)) : List Th := [tBlk d #[lv] 93, tOwn 95 2 lv (NS.map nrow)]
theorem take_rev {NS : List (Int × Int)} {k : Nat} {n : Int × Int} (h : NS[k]? = some n) : (NS.take (k + 1)).reverse = n :: (NS.take k).reverse := by
  rw [List.take_add_one, h]
  simp
set_option maxHeartbeats 1000000 in
theorem dof_is (w : World) (d : Nat) (lv : Value) (NS : List (Int × Int)) (key : Int) (h : Got (rm d lv NS) w) (hn : NS.length ≤ 1000000) : Calls Try.prog 55 #[.pointer (some ⟨d, 0, none⟩), .int .i64 key] w fun e w' => e = .returned (.int .i64 (ofN NS key)) ∧ Turns [] w w' := by
  have hrd := (h.sep.own 1 rfl).reads
  have hb := h.sep.blk 0 rfl
  obtain ⟨A, c, rfl, _⟩ := hrd.form
  rw [List.length_map] at hb
  obtain ⟨R, hR⟩ : ∃ R, ofN NS key = R := ⟨_, rfl⟩
  rw [hR]
  have hz := rv_zero key NS
  rw [hR] at hz
  have hzh := Lib.hid hz
  have hrdh := Lib.hid hrd
  have hw0 : IntKind.i64.wrap ((NS.length : Int) - 1) = (NS.length : Int) - 1 := IntWalk.i64_in _ (by omega)
  clear h hR hz hrd
  have c0 : World.cell? (w) ⟨d, 0, none⟩ = some _ := (hb).cell 0
  go_enter Try.func55, Try.ntmps55
  go_wp2_with fail
  go_loopw [5, 6, 7] (fun v5 v6 v7 wr => ∃ (k h : Nat) (B : Int), k ≤ NS.length ∧ h + k ≤ NS.length ∧ v5 = .int .i64 B ∧ v6 = .int .i64 h ∧ v7 = .int .i64 ((k : Int) - 1) ∧ 0 ≤ B ∧ B ≤ 4611686018427387904 ∧ max B (rv key (NS.take k).reverse h) = R ∧ Turns [] w wr) (fun _ _ v7 _ => (RowKit.intOf v7 + 1).toNat)
  case atStart => exact ⟨NS.length, 0, 0, by omega, by omega, rfl, rfl, rfl, by omega, by omega, by rw [List.take_length, hzh.out]; have := rv_bd key NS 0; rw [hzh.out] at this; omega, Turns.refl _ _⟩
  case round =>
    obtain ⟨k, h, B, hk, hhk, rfl, rfl, rfl, hB0, hB1, hmax, Tr⟩ := hrel
    have hmaxh := Lib.hid hmax
    clear hmax c0
    obtain ⟨wo, rfl⟩ : ∃ wo : World, wo = wr := ⟨_, rfl⟩
    rcases Nat.eq_zero_or_pos k with h0 | h0
    · subst h0
      have g1 : decide (((0 : Nat) : Int) - 1 ≥ 0) = false := by simp
      have hBR : B = R := by have := hmaxh.out; simp [rv] at this; omega
      subst hBR
      go_wp2_with fail
      go_ret
      exact ⟨rfl, Tr⟩
    · obtain ⟨j, rfl⟩ : ∃ j, k = j + 1 := ⟨k - 1, by omega⟩
      have e1 : ((j + 1 : Nat) : Int) - 1 = (j : Int) := by omega
      rw [e1]
      have g1 : decide ((j : Int) ≥ 0) = true := by simp
      obtain ⟨n, hx⟩ : ∃ n, NS[j]? = some n := ⟨_, List.getElem?_eq_getElem (by omega)⟩
      obtain ⟨ad, c', hv, _, hcell⟩ := hrdh.out.at_ (j := j) (r := nrow n) (by rw [List.getElem?_map, hx]; rfl)
      injection hv with e2 e3 e4
      subst e2 e4
      have i0 := Tr.old (hcell 0 _ rfl)
      have i1 := Tr.old (hcell 1 _ rfl)
      rw [Nat.add_zero] at i0
      rw [add_field _ _ _ (by omega)] at i1
      have c0 : wo.cell? ⟨d, 0, none⟩ = some (.slice (some ad) NS.length c) := Tr.old (hb.cell 0)
      have hmx := hmaxh.out
      rw [take_rev hx] at hmx
      unfold rv at hmx
      clear hx hcell hmaxh
      by_cases hkey : n.1 = key
      · subst hkey
        rw [if_pos rfl] at hmx
        have hf := fit_bd n.2
        have hF := fun w => rfit_is n.2 w
        obtain ⟨f, hfe⟩ : ∃ f, fit n.2 = f := ⟨_, rfl⟩
        rw [hfe] at hF hmx hf
        have hFh := Lib.hid hF
        have hmxh := Lib.hid hmx
        clear hF hmx hfe
        go_wp2_with fail
        go_at_call 106
        refine Calls.mono (hFh.out _) ?_
        rintro e w2 ⟨rfl, t2⟩
        have T2 := Tr.trans t2
        go_wp2_with fail
        go_loopw [8, 9] (fun v8 v9 wr => ∃ (i : Nat), i ≤ min h 63 ∧ v8 = .int .i64 (f / 2 ^ i) ∧ v9 = .int .i64 i ∧ Turns [] w wr) (fun _ v9 _ => h - (RowKit.intOf v9).toNat)
        case atStart => exact ⟨0, by omega, by simp, rfl, T2⟩
        case round =>
          obtain ⟨i, hi, rfl, rfl, T3⟩ := hrel
          have hq0 : 0 ≤ f / 2 ^ i := Int.ediv_nonneg hf.1 (Int.le_of_lt (pow_pos i))
          have hq1 : f / 2 ^ i ≤ 4611686018427387904 := Int.le_trans (Int.ediv_le_self _ hf.1) hf.2
          have hqs : f / 2 ^ (i + 1) = f / 2 ^ i / 2 := by rw [Int.pow_succ, Int.ediv_ediv_of_nonneg (Int.le_of_lt (pow_pos i))]
          have hqsh := Lib.hid hqs
          clear hqs
          by_cases hlt : i < min h 63
          · have g2 : decide ((i : Int) < (h : Int)) = true := by simp; omega
            have g3 : decide (i < h) = true := decide_eq_true (by omega)
            have g4 : decide ((i : Int) < 63) = true := by simp; omega
            generalize f / 2 ^ i = q at *
            go_wp2_with fail
            go_roundw
            case rel => exact ⟨i + 1, by omega, by rw [hqsh.out], by go_num, T3⟩
            case measure => simp [RowKit.intOf]; omega
          · obtain rfl : i = min h 63 := by omega
            generalize hqq : f / 2 ^ (min h 63) = q at *
            have hqqh := Lib.hid hqq
            generalize hmm : min h 63 = m at *
            have hmmh := Lib.hid hmm
            clear hqq hmm hqsh
            by_cases hh : h ≤ 63
            · obtain rfl : m = h := by have := hmmh.out; omega
              have g2 : decide ((m : Int) < (m : Int)) = false := by simp
              go_wp2_with fail
              go_roundw
              case rel => exact ⟨j, m + 1, max B q, by omega, by omega, rfl, by go_num, by go_num, by omega, by omega, by have := hmxh.out; omega, T3⟩
              case measure => simp [RowKit.intOf]
            · obtain rfl : m = 63 := by have := hmmh.out; omega
              have g2 : decide (((63 : Nat) : Int) < (h : Int)) = true := by simp; omega
              have g3 : decide ((63 : Int) < (h : Int)) = true := by simp; omega
              go_wp2_with fail
              go_roundw
              case rel => exact ⟨j, h + 1, max B q, by omega, by omega, rfl, by go_num, by go_num, by omega, by omega, by have := hmxh.out; omega, T3⟩
              case measure => simp [RowKit.intOf]
      · rw [if_neg hkey] at hmx
        have hmxh := Lib.hid hmx
        have g2 : (n.1 == key) = false := by simpa using hkey
        have g3 : (n.1 != key) = true := by simpa using hkey
        clear hmx hkey
        go_wp2_with fail
        go_roundw
        case rel => exact ⟨j, h, B, by omega, by omega, rfl, rfl, by go_num, hB0, hB1, hmxh.out, Tr⟩
        case measure => simp [RowKit.intOf]
theorem infoN : (Try.prog.info? 95).map (fun i => (i.zero, i.size, i.bytes)) = some (some (.agg #[.int .i64 0, .int .i64 0]), 2, 16) := by kernel_rfl
theorem own_nil_lit (w : World) (e : TypeId) (sz : Nat) (hs : (0 : Nat) * sz ≤ 0 := by omega) : OwnS e sz (w.alloc (.cells #[] e)) (.slice (some ⟨w.heap.size, 0, none⟩) 0 0) [] := ⟨World.ownsRow_lit w #[] 0 (Nat.zero_le _) (by decide) (by simp), by simp⟩
theorem nrow_one (l : List (Int × Int)) : ∀ r ∈ l.map nrow, ∀ u ∈ r, u.oneCell' = true := by
  intro r hr u hu
  obtain ⟨x, _, rfl⟩ := List.mem_map.1 hr
  simp [nrow] at hu
  rcases hu with rfl | rfl <;> rfl
def DNoteOut (w : World) (d : Nat) (lv : Value) (NS : List (Int × Int)) (k s : Int) (e : Ending) (w' : World) : Prop :=
  e = .returned (.int .i64 (ofN (NS ++ [(k, s)]) k)) ∧ ∃ lv', Sep (fps (rm d lv NS)) w (rm d lv' (NS ++ [(k, s)])) w'
set_option maxHeartbeats 1000000 in
theorem dnote_is (w : World) (d : Nat) (lv : Value) (NS : List (Int × Int)) (k s : Int) (h : Got (rm d lv NS) w) (hn : NS.length ≤ 100000) : Calls Try.prog 53 #[.pointer (some ⟨d, 0, none⟩), .int .i64 k, .int .i64 s] w (DNoteOut w d lv NS k s) := by
  have H := h.sep
  generalize hFF : fps (rm d lv NS) = FF at H
  obtain ⟨A, c, rfl, _⟩ := (H.own 1 rfl).form
  have hX : ∀ w' lv', Sep FF w (rm d lv' (NS ++ [(k, s)])) w' → DNoteOut w d (.slice A (NS.map nrow).length c) NS k s (.returned (.int .i64 (ofN (NS ++ [(k, s)]) k))) w' := fun w' lv' h1 => ⟨rfl, lv', by rw [hFF]; exact h1⟩
  generalize DNoteOut w d (.slice A (NS.map nrow).length c) NS k s = X at *
  rw [List.length_map] at H
  obtain ⟨NS', hNS⟩ : ∃ NS', NS ++ [(k, s)] = NS' := ⟨_, rfl⟩
  have hO := fun w lv h => dof_is w d lv NS' k h (by rw [← hNS]; simp; omega)
  have hap : NS'.map nrow = NS.map nrow ++ [(k, s)].map nrow := by rw [← hNS, List.map_append]
  rw [hNS] at hX
  obtain ⟨o, ho⟩ : ∃ o, ofN NS' k = o := ⟨_, rfl⟩
  rw [ho] at hX hO
  have hXh := Lib.hid hX
  have hOh := Lib.hid hO
  have haph := Lib.hid hap
  clear hX hFF h hO hap hNS ho
  replace H := H.newSlice ((Turns.refl _ _).alloc (.cells #[] 95)) (own_nil_lit w 95 2 (by omega)) (by simp [Value.ownBlock])
  have c0 : World.cell? (w.alloc (.cells #[] 95)) ⟨d, 0, none⟩ = some _ := (H.blk 1 rfl).cell 0
  have hs1 := (H.own 2 rfl).reads
  go_enter Try.func53, Try.ntmps53
  go_wp2_with (at_builtin; refine stop_ ?_)
  refine Mk_.mk ?_
  refine H.append 0 rfl hs1 NS.length (by simp) (NS.map nrow) (by simp) rfl _ _ _ rfl (.agg #[.int .i64 0, .int .i64 0]) 16 Try.underlying88 infoN rfl (by decide) rfl rfl (nrow_one _) (by omega) (by omega) ?_
  clear H hs1 c0
  intro A1 c1 w1 H t1 _
  clear t1
  replace H := H.alloc #[.int .i64 k, .int .i64 s] 95
  have hs2 : RdS 2 (w1.alloc (.cells #[.int .i64 k, .int .i64 s] 95)) (.slice (some ⟨w1.heap.size, 0, none⟩) 1 1) ([(k, s)].map nrow) := RdS.of_cells (rows := [(k, s)].map nrow) (H.blk 0 rfl) rfl (by simp [nrow]) 1 (by simp) (by decide)
  go_wp2_with (at_builtin; refine stop_ ?_)
  refine Mk_.mk ?_
  refine H.append 1 rfl hs2 (NS.length + 1) (by simp) (NS'.map nrow) haph.out rfl _ _ _ rfl (.agg #[.int .i64 0, .int .i64 0]) 16 Try.underlying88 infoN rfl (by decide) rfl rfl (nrow_one _) (by omega) (by omega) ?_
  clear H hs2
  intro A2 c2 w2 H t2 _
  clear t2
  have c0 : World.cell? (w2) ⟨d, 0, none⟩ = some _ := (H.blk 2 rfl).cell 0
  have cf0 : World.frozen? (w2) ⟨d, 0, none⟩ = false := (H.blk 2 rfl).frozen 0
  replace H := (H.set 2 rfl 0 (.slice A2 (NS.length + 1) c2)).keep [2, 1]
  have hOc := hOh.out _ (.slice A2 (NS.length + 1) c2) (H.got [0, 1])
  have hOch := Lib.hid hOc
  clear hOc hOh
  go_wp2_with fail
  go_at_call 55
  refine Calls.mono (hOch.out) ?_
  rintro e w3 ⟨rfl, t3⟩
  have hX := hXh.out w3 _ (H.turns t3)
  clear H t3
  go_wp2_with fail
  exact hX
theorem dwant_is (w : World) (d : Nat) (lv : Value) (NS : List (Int × Int)) (k q m : Int) (h : Got (rm d lv NS) w) (hn : NS.length ≤ 1000000) : Calls Try.prog 57 #[.pointer (some ⟨d, 0, none⟩), .int .i64 k, .int .i64 q, .int .i64 m] w fun e w' => e = .returned (.int .i64 (min (sum [ofN NS k, q]) (fit m))) ∧ Turns [] w w' := by
  have hO := dof_is w d lv NS k h hn
  have e : sum [ofN NS k, q] = two (ofN NS k) q := by
    have := ofN_bd NS k
    show two (two 0 (ofN NS k)) q = _
    rw [two_zero, fit_id this.1 this.2]
  rw [e]
  obtain ⟨o, ho⟩ : ∃ o, ofN NS k = o := ⟨_, rfl⟩
  rw [ho] at hO ⊢
  have hS := fun w => two_is o q w
  have hF := fun w => rfit_is m w
  obtain ⟨s, hs⟩ : ∃ s, two o q = s := ⟨_, rfl⟩
  obtain ⟨f, hf⟩ : ∃ f, fit m = f := ⟨_, rfl⟩
  rw [hs] at hS ⊢
  rw [hf] at hF ⊢
  have hSh := Lib.hid hS
  have hFh := Lib.hid hF
  have hOh := Lib.hid hO
  clear hs hf hS hF ho hO h e
  go_enter Try.func57, Try.ntmps57
  go_wp2_with fail
  go_at_call 55
  refine Calls.mono (hOh.out) ?_
  rintro e w1 ⟨rfl, t1⟩
  go_wp2_with fail
  go_at_call 45
  refine Calls.mono (hSh.out _) ?_
  rintro e w2 ⟨rfl, t2⟩
  go_wp2_with fail
  go_at_call 106
  refine Calls.mono (hFh.out _) ?_
  rintro e w3 ⟨rfl, t3⟩
  go_wp2_with fail
  go_ret
  exact ⟨rfl, (t1.trans t2).trans t3⟩
end Go.Proofs.Ytcmaloncfdmpnaa.Wc
