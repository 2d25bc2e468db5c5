/- The walks of the document's views. -/
import Derived.Test.YtmaielpfeajelaaDoorYb
import Derived.Test.YtmaielpfeajelaaDoorRm
set_option linter.unusedVariables false
set_option linter.unusedSimpArgs false
set_option maxRecDepth 100000
namespace Go.Proofs.YtmaielpfeajelaaDoor.Yc
open Go.RowKit Go.MapKept Hm Hs Hf Hg Hv Hx Hy Hc Hd Sm Sat Clk Ra Rg Rb Rd Rh Rm Ya Yb
/-- the document's view: its block, its readings -/
abbrev rvw (b : Nat) (node span : Int) (hv : Value) (L : List Int) : List Th := [tBlk b #[.int .i64 node, .int .i64 span, hv] 38, tOwn 3 1 hv (ins L)]
theorem passed_doc (a b c : Int) : decide (fit b ≥ two a c) = passedB a b c := by
  have h1 := two_bd a c
  unfold passedB sub
  rw [fit_id h1.1 h1.2, Bool.eq_iff_iff]
  simp
  omega
theorem rpassed_is (a b c : Int) (w : World) : Calls Tryd.prog 42 #[.int .i64 a, .int .i64 b, .int .i64 c] w fun e w' => e = .returned (.bool (passedB a b c)) ∧ Turns [] w w' := by
  rw [← passed_doc]
  have F := Lib.hid (fun w => rfit_is b w)
  have T := Lib.hid (fun w => two_is a c w)
  generalize fit b = x at *
  generalize two a c = y at *
  go_enter Tryd.func42, Tryd.ntmps42
  go_wp2_with fail
  go_at_call 51
  refine Calls.mono (F.out _) ?_
  rintro e w1 ⟨rfl, t1⟩
  go_wp2_with fail
  go_at_call 52
  refine Calls.mono (T.out _) ?_
  rintro e w2 ⟨rfl, t2⟩
  go_wp2_with fail
  go_ret
  exact ⟨rfl, t1.trans t2⟩
theorem rvnew_no (n node span now : Int) (h : ¬ okV n node) (w : World) : Calls Tryd.prog 11 #[.int .i64 n, .int .i64 node, .int .i64 span, .int .i64 now] w fun e w' => e = .returned (.tuple #[.pointer none, .int .i64 1]) ∧ Turns [] w w' := by
  have rh := Lib.hid (rright_any n w)
  cases hr : decide (okN n) with
  | false =>
    rw [hr] at rh
    clear hr h
    go_enter Tryd.func11, Tryd.ntmps11
    go_wp2_with fail
    go_at_call 39
    refine Calls.mono (rh.out) ?_
    rintro e w1 ⟨rfl, t1⟩
    go_wp2_with fail
    go_ret2
    exact ⟨rfl, t1⟩
  | true =>
    rw [hr] at rh
    have hr2 := of_decide_eq_true hr
    clear hr
    by_cases h1 : node < 0
    · have g1 := decide_eq_true h1
      clear h hr2 h1
      go_enter Tryd.func11, Tryd.ntmps11
      go_wp2_with fail
      go_at_call 39
      refine Calls.mono (rh.out) ?_
      rintro e w1 ⟨rfl, t1⟩
      go_wp2_with fail
      go_ret2
      exact ⟨rfl, t1⟩
    · have g1 : decide (node < 0) = false := decide_eq_false h1
      have g2 : decide (node ≥ n) = true := decide_eq_true (by
        by_cases h3 : node ≥ n
        · exact h3
        · exact absurd ⟨hr2, by omega, by omega⟩ h)
      clear h hr2 h1
      go_enter Tryd.func11, Tryd.ntmps11
      go_wp2_with fail
      go_at_call 39
      refine Calls.mono (rh.out) ?_
      rintro e w1 ⟨rfl, t1⟩
      go_wp2_with fail
      go_ret2
      exact ⟨rfl, t1⟩
theorem rvnew_ok (n : Nat) (node span now : Int) (h : okV n node) (w : World) : Calls Tryd.prog 11 #[.int .i64 n, .int .i64 node, .int .i64 span, .int .i64 now] w fun e w' => ∃ b hv, e = .returned (.tuple #[.pointer (some ⟨b, 0, none⟩), .int .i64 0]) ∧ Sep [] w (rvw b node span hv (List.replicate n now)) w' := by
  have rh := Lib.hid (rright_any n w)
  rw [decide_eq_true h.1] at rh
  have hn : n ≤ 64 := by have := h.1.2; omega
  have g1 : decide (node < 0) = false := decide_eq_false (by have := h.2.1; omega)
  have g2 : decide (node ≥ (n : Int)) = false := decide_eq_false (by have := h.2.2; omega)
  clear h
  go_enter Tryd.func11, Tryd.ntmps11
  go_wp2_with fail
  go_at_call 39
  refine Calls.mono (rh.out) ?_
  rintro e w1 ⟨rfl, t1⟩
  have H0 := (((Sep.start w).turns t1).nilSlice 3 1).alloc #[.int .i64 node, .int .i64 span, .slice none 0 0] 38
  clear t1 rh
  go_wp2_with fail
  go_loopw [12] (fun v12 wr => ∃ (k : Nat) (hv : Value), k ≤ n ∧ v12 = .int .i64 k ∧ Sep [] w (rvw w1.heap.size node span hv (List.replicate k now)) wr) (fun v12 _ => n - (RowKit.intOf v12).toNat)
  case atStart => exact ⟨0, _, by omega, rfl, H0⟩
  case round =>
    obtain ⟨k, hv, hk, rfl, H⟩ := hrel
    clear H0
    generalize w1.heap.size = b at *
    by_cases hlt : k < n
    · have g3 : decide ((k : Int) < (n : Int)) = true := decide_eq_true (by omega)
      have g3b : decide (k < n) = true := decide_eq_true hlt
      obtain ⟨A, c, hvv, _⟩ := formI (H.own 1 rfl)
      rw [List.length_replicate] at hvv
      subst hvv
      have c2 : World.cell? (wr) ⟨b, 2, none⟩ = some _ := (H.blk 0 rfl).cell 2
      have O1 := Yb.oneI wr now
      replace H := H.alloc #[.int .i64 now] 3
      have er : ins (List.replicate (k + 1) now) = ins (List.replicate k now) ++ ins [now] := by rw [List.replicate_succ', ins_append]
      have hOh := Lib.hid O1
      clear O1
      go_wp2_with (at_builtin; refine stop_ ?_)
      refine Mk_.mk ?_
      refine H.append 2 rfl hOh.out (k + 1) (by simp) (ins (List.replicate (k + 1) now)) er rfl _ _ _ rfl (.int .i64 0) 8 Tryd.underlying35 infoI rfl (by decide) rfl rfl (ins_one _) (by omega) (by omega) ?_
      clear H hOh c2 er
      intro A4 c4 wn H tn _
      clear tn
      have d2 : World.cell? (wn) ⟨b, 2, none⟩ = some _ := (H.blk 1 rfl).cell 2
      have df2 : World.frozen? (wn) ⟨b, 2, none⟩ = false := (H.blk 1 rfl).frozen 2
      have H2 := Lib.hid ((H.set 1 rfl 2 (.slice A4 (k + 1) c4)).keep [1, 2])
      clear H
      go_wp2_with fail
      go_roundw
      case rel => exact ⟨k + 1, _, by omega, by go_num, H2.out⟩
      case measure => simp [RowKit.intOf]; omega
    · obtain rfl : k = n := by omega
      have g3 : decide ((k : Int) < (k : Int)) = false := by simp
      go_wp2_with fail
      go_ret2
      exact ⟨_, _, rfl, H⟩
theorem hearL_get (L : List Int) (frm now : Int) {k : Nat} {x : Int} (h : L[k]? = some x) : (hearL L frm now)[k]? = some (if (k : Int) = frm ∧ now > x then now else x) := by
  have hk : k < L.length := by
    rcases Nat.lt_or_ge k L.length with h1 | h1
    · exact h1
    · rw [List.getElem?_eq_none h1] at h; cases h
  unfold hearL
  by_cases hf : 0 ≤ frm ∧ frm < L.length
  · rw [if_pos hf, List.getElem?_set]
    by_cases e : frm.toNat = k
    · subst e
      rw [if_pos rfl, if_pos hk, List.getD_eq_getElem?_getD, h, Option.getD_some]
      congr 1
      split <;> omega
    · rw [if_neg e, h, if_neg (by rintro ⟨rfl, _⟩; exact e (by simp))]
  · rw [if_neg hf, h, if_neg (by rintro ⟨rfl, _⟩; exact hf ⟨by omega, by omega⟩)]
set_option maxHeartbeats 1000000 in
theorem rhear_is (b : Nat) (node span : Int) (hv : Value) (L : List Int) (frm now : Int) (hL : L.length ≤ 64) (w : World) (h : Got (rvw b node span hv L) w) : Calls Tryd.prog 13 #[.pointer (some ⟨b, 0, none⟩), .int .i64 frm, .int .i64 now] w fun e w' => ∃ hv', e = .returned (.tuple #[]) ∧ Sep (fps (rvw b node span hv L)) w (rvw b node span hv' (hearL L frm now)) w' := by
  have H0 := h.sep.nilSlice 3 1
  have hrd := Lib.hid (h.sep.own 1 rfl).reads
  generalize fps (rvw b node span hv L) = FF at H0 ⊢
  have hlen := hearL_len L frm now
  have hget := Lib.hid (fun k x h => hearL_get L frm now (k := k) (x := x) h)
  generalize hearL L frm now = L' at *
  obtain ⟨A, c, rfl, _⟩ := formI (h.sep.own 1 rfl)
  clear h
  go_enter Tryd.func13, Tryd.ntmps13
  go_wp2_with fail
  go_loopw [6, 7] (fun v6 v7 wr => ∃ (k : Nat), k ≤ L.length ∧ v7 = .int .i64 k ∧ Sep FF w [tOwn 3 1 v6 (ins (L'.take k)), tBlk b #[.int .i64 node, .int .i64 span, .slice A L.length c] 38, tOwn 3 1 (.slice A L.length c) (ins L)] wr) (fun _ v7 _ => L.length - (RowKit.intOf v7).toNat)
  case atStart => exact ⟨0, by omega, rfl, by rw [List.take_zero]; exact H0⟩
  case round =>
    obtain ⟨k, hk, rfl, H⟩ := hrel
    clear H0 hrd
    obtain ⟨A6, c6, hvv, _⟩ := formI (H.own 0 rfl)
    have el : (L'.take k).length = k := by rw [List.length_take]; omega
    rw [el] at hvv
    subst hvv
    have c2 : World.cell? (wr) ⟨b, 2, none⟩ = some _ := (H.blk 1 rfl).cell 2
    by_cases hlt : k < L.length
    · have g1 : decide ((k : Int) < (L.length : Int)) = true := decide_eq_true (by omega)
      have g1b : decide (k < L.length) = true := decide_eq_true hlt
      obtain ⟨x, hx⟩ : ∃ x, L[k]? = some x := ⟨_, List.getElem?_eq_getElem hlt⟩
      obtain ⟨ad, c', hv, Lc⟩ := icell (H.own 2 rfl).reads hx
      injection hv with e1 e2 e3
      subst e1 e3
      have hg := hget.out k x hx
      clear e2 hx
      by_cases hkf : (k : Int) = frm
      · have g2 : ((k : Int) == frm) = true := by simpa using hkf
        by_cases hgt : now > x
        · have g3 : decide (now > x) = true := decide_eq_true hgt
          rw [if_pos ⟨hkf, hgt⟩] at hg
          clear hkf hgt
          have er := take_snoc hg
          clear hg
          have O1 := Yb.oneI wr now
          replace H := H.alloc #[.int .i64 now] 3
          have hOh := Lib.hid O1
          have erh : Hid (ins (L'.take (k + 1)) = ins (L'.take k) ++ ins [now]) := Lib.hid (by rw [er, ins_append])
          have elh := Lib.hid el
          clear O1 er el
          have hHh := Lib.hid H
          clear H
          go_wp2_with (at_builtin; refine stop_ ?_)
          refine Mk_.mk ?_
          refine hHh.out.append 1 rfl hOh.out (k + 1) (by rw [ins_len, ins_len, elh.out]; rfl) (ins (L'.take (k + 1))) erh.out rfl _ _ _ rfl (.int .i64 0) 8 Tryd.underlying35 infoI rfl (by decide) rfl rfl (ins_one _) (by omega) (by omega) ?_
          clear hHh hOh c2 erh elh
          intro A4 c4 wn H tn _
          clear tn
          have H2 := Lib.hid (H.keep [1, 2, 3])
          clear H
          go_wp2_with fail
          go_roundw
          case rel => exact ⟨k + 1, by omega, by go_num, H2.out⟩
          case measure => simp [RowKit.intOf]; omega
        · have g3 : decide (now > x) = false := decide_eq_false hgt
          rw [if_neg (fun h => hgt h.2)] at hg
          clear hkf hgt
          have er := take_snoc hg
          clear hg
          have O1 := Yb.oneI wr x
          replace H := H.alloc #[.int .i64 x] 3
          have hOh := Lib.hid O1
          have erh : Hid (ins (L'.take (k + 1)) = ins (L'.take k) ++ ins [x]) := Lib.hid (by rw [er, ins_append])
          have elh := Lib.hid el
          clear O1 er el
          have hHh := Lib.hid H
          clear H
          go_wp2_with (at_builtin; refine stop_ ?_)
          refine Mk_.mk ?_
          refine hHh.out.append 1 rfl hOh.out (k + 1) (by rw [ins_len, ins_len, elh.out]; rfl) (ins (L'.take (k + 1))) erh.out rfl _ _ _ rfl (.int .i64 0) 8 Tryd.underlying35 infoI rfl (by decide) rfl rfl (ins_one _) (by omega) (by omega) ?_
          clear hHh hOh c2 erh elh
          intro A4 c4 wn H tn _
          clear tn
          have H2 := Lib.hid (H.keep [1, 2, 3])
          clear H
          go_wp2_with fail
          go_roundw
          case rel => exact ⟨k + 1, by omega, by go_num, H2.out⟩
          case measure => simp [RowKit.intOf]; omega
      · have g2 : ((k : Int) == frm) = false := by simpa using hkf
        rw [if_neg (fun h => hkf h.1)] at hg
        clear hkf
        have er := take_snoc hg
        clear hg
        have O1 := Yb.oneI wr x
        replace H := H.alloc #[.int .i64 x] 3
        have hOh := Lib.hid O1
        have erh : Hid (ins (L'.take (k + 1)) = ins (L'.take k) ++ ins [x]) := Lib.hid (by rw [er, ins_append])
        have elh := Lib.hid el
        clear O1 er el
        have hHh := Lib.hid H
        clear H
        go_wp2_with (at_builtin; refine stop_ ?_)
        refine Mk_.mk ?_
        refine hHh.out.append 1 rfl hOh.out (k + 1) (by rw [ins_len, ins_len, elh.out]; rfl) (ins (L'.take (k + 1))) erh.out rfl _ _ _ rfl (.int .i64 0) 8 Tryd.underlying35 infoI rfl (by decide) rfl rfl (ins_one _) (by omega) (by omega) ?_
        clear hHh hOh c2 erh elh
        intro A4 c4 wn H tn _
        clear tn
        have H2 := Lib.hid (H.keep [1, 2, 3])
        clear H
        go_wp2_with fail
        go_roundw
        case rel => exact ⟨k + 1, by omega, by go_num, H2.out⟩
        case measure => simp [RowKit.intOf]; omega
    · obtain rfl : k = L.length := by omega
      have g1 : decide ((L.length : Int) < (L.length : Int)) = false := by simp
      rw [show L'.take L.length = L' from by rw [← hlen, List.take_length]] at H
      have d2 : World.cell? (wr) ⟨b, 2, none⟩ = some _ := (H.blk 1 rfl).cell 2
      have df2 : World.frozen? (wr) ⟨b, 2, none⟩ = false := (H.blk 1 rfl).frozen 2
      have H2 := Lib.hid ((H.set 1 rfl 2 (.slice A6 L.length c6)).keep [1, 0])
      clear H el hlen
      go_wp2_with fail
      go_end0
      exact ⟨_, rfl, H2.out⟩
set_option maxHeartbeats 2000000 in
theorem rlive_is (b : Nat) (node span : Int) (hv : Value) (L : List Int) (now : Int) (hL : L.length ≤ 64) (w : World) (h : Got (rvw b node span hv L) w) : Calls Tryd.prog 17 #[.pointer (some ⟨b, 0, none⟩), .int .i64 now] w fun e w' => e = .returned (.int .u64 (live L node span now : Nat)) ∧ Turns [] w w' := by
  have hb := h.sep.blk 0 rfl
  have ho := Lib.hid (h.sep.own 1 rfl).reads
  obtain ⟨A, c, rfl, _⟩ := formI (h.sep.own 1 rfl)
  unfold live
  have c0 : World.cell? (w) ⟨b, 0, none⟩ = some _ := (hb).cell 0
  have c1 : World.cell? (w) ⟨b, 1, none⟩ = some _ := (hb).cell 1
  have c2 : World.cell? (w) ⟨b, 2, none⟩ = some _ := (hb).cell 2
  clear h
  go_enter Tryd.func17, Tryd.ntmps17
  go_wp2_with fail
  go_loopw [5, 6] (fun v5 v6 wr => ∃ (k : Nat), k ≤ L.length ∧ v6 = .int .i64 k ∧ v5 = .int .u64 (liveK L node span now k : Nat) ∧ Turns [] w wr) (fun _ v6 _ => L.length - (RowKit.intOf v6).toNat)
  case atStart => exact ⟨0, by omega, rfl, rfl, Turns.refl _ _⟩
  case round =>
    obtain ⟨k, hk, rfl, rfl, T⟩ := hrel
    have q0 := T.old c0
    have q1 := T.old c1
    have q2 := T.old c2
    by_cases hlt : k < L.length
    · have g1 : decide ((k : Int) < (L.length : Int)) = true := decide_eq_true (by omega)
      have g1b : decide (k < L.length) = true := decide_eq_true hlt
      obtain ⟨x, hx⟩ : ∃ x, L[k]? = some x := ⟨_, List.getElem?_eq_getElem hlt⟩
      obtain ⟨ad, c', hv, Lc⟩ := icell ho.out hx
      injection hv with e1 e2 e3
      subst e1 e3
      have hgd : L.getD k 0 = x := by rw [List.getD_eq_getElem?_getD, hx]; rfl
      have hnx : liveK L node span now (k + 1) = if (decide ((k : Int) = node) || !passedB x now span) then withN (liveK L node span now k) k else liveK L node span now k := by
        conv => lhs; unfold liveK
        unfold goes
        rw [hgd]
      have hlt64 := liveK_lt L node span now k
      have i0 := T.old Lc
      have Wkh := Lib.hid (fun w => rwith_any (liveK L node span now k) k hlt64 w)
      have Ph := Lib.hid (fun w => rpassed_is x now span w)
      have hnxh := Lib.hid hnx
      generalize liveK L node span now k = s at *
      generalize withN s k = sw at *
      clear hx e2 Lc hgd hnx hlt64 c0 c1 c2
      by_cases hkn : (k : Int) = node
      · have g2 : ((k : Int) == node) = true := by simpa using hkn
        have e8 := hnxh.out
        rw [decide_eq_true hkn, Bool.true_or, if_pos rfl] at e8
        have e8h := Lib.hid e8
        have hknh := Lib.hid hkn
        clear e8 hkn
        generalize passedB x now span = pb at *
        go_wp2_with fail
        go_wp2_with fail
        refine wp_region_flo [(0, true), (1, true), (2, true), (3, true), (4, true), (5, true), (6, true), (7, true), (8, true), (9, true), (10, true), (11, true), (12, false), (13, true)] (fun W => Turns [] wr.drew W) (by kernel_rfl) rfl (by kernel_rfl) (by intro c d v a w h; cases d <;> first | (simpa [Exit.then, Exit.inBlock, Act.put] using h) | exact h) (Turns.refl _ _) ?_
        have z0 : wr.drew.cell? ⟨b, 0, none⟩ = some (.int .i64 node) := q0
        have z1 : wr.drew.cell? ⟨b, 1, none⟩ = some (.int .i64 span) := q1
        have z2 : wr.drew.cell? ⟨b, 2, none⟩ = some (.slice (some ad) L.length c) := q2
        have z3 : wr.drew.cell? (ad.add k) = some (.int .i64 x) := i0
        have Td := T.drew
        clear q0 q1 q2 i0 T
        generalize wr.drew = w3 at *
        refine flo_read _ rfl (fun K hK => ?_)
        go_simp
        first | (refine hK _ ?_) | (refine ⟨fun W hS => ?_, hK _ ?_⟩; · (have x1 := hS.old z1; have x2 := hS.old z2; have x3 := hS.old z3; try go_simp))
        clear hK K
        refine flo_read _ rfl (fun K hK => ?_)
        go_simp
        first | (refine hK _ ?_) | (refine ⟨fun W hS => ?_, hK _ ?_⟩; · (have x1 := hS.old z1; have x2 := hS.old z2; have x3 := hS.old z3; try go_simp))
        clear hK K
        refine flo_read _ rfl (fun K hK => ?_)
        go_simp
        first | (refine hK _ ?_) | (refine ⟨fun W hS => ?_, hK _ ?_⟩; · (have x1 := hS.old z1; have x2 := hS.old z2; have x3 := hS.old z3; try go_simp))
        clear hK K
        refine flo_read _ rfl (fun K hK => ?_)
        go_simp
        first | (refine hK _ ?_) | (refine ⟨fun W hS => ?_, hK _ ?_⟩; · (have x1 := hS.old z1; have x2 := hS.old z2; have x3 := hS.old z3; try go_simp))
        clear hK K
        refine flo_read _ rfl (fun K hK => ?_)
        go_simp
        first | (refine hK _ ?_) | (refine ⟨fun W hS => ?_, hK _ ?_⟩; · (have x1 := hS.old z1; have x2 := hS.old z2; have x3 := hS.old z3; try go_simp))
        clear hK K
        refine flo_read _ rfl (fun K hK => ?_)
        go_simp
        first | (refine hK _ ?_) | (refine ⟨fun W hS => ?_, hK _ ?_⟩; · (have x1 := hS.old z1; have x2 := hS.old z2; have x3 := hS.old z3; try go_simp))
        clear hK K
        refine flo_read _ rfl (fun K hK => ?_)
        go_simp
        first | (refine hK _ ?_) | (refine ⟨fun W hS => ?_, hK _ ?_⟩; · (have x1 := hS.old z1; have x2 := hS.old z2; have x3 := hS.old z3; try go_simp))
        clear hK K
        refine flo_read _ rfl (fun K hK => ?_)
        go_simp
        first | (refine hK _ ?_) | (refine ⟨fun W hS => ?_, hK _ ?_⟩; · (have x1 := hS.old z1; have x2 := hS.old z2; have x3 := hS.old z3; try go_simp))
        clear hK K
        refine flo_read _ rfl (fun K hK => ?_)
        go_simp
        first | (refine hK _ ?_) | (refine ⟨fun W hS => ?_, hK _ ?_⟩; · (have x1 := hS.old z1; have x2 := hS.old z2; have x3 := hS.old z3; try go_simp))
        clear hK K
        refine flo_read _ rfl (fun K hK => ?_)
        go_simp
        first | (refine hK _ ?_) | (refine ⟨fun W hS => ?_, hK _ ?_⟩; · (have x1 := hS.old z1; have x2 := hS.old z2; have x3 := hS.old z3; try go_simp))
        clear hK K
        refine flo_read _ rfl (fun K hK => ?_)
        go_simp
        first | (refine hK _ ?_) | (refine ⟨fun W hS => ?_, hK _ ?_⟩; · (have x1 := hS.old z1; have x2 := hS.old z2; have x3 := hS.old z3; try go_simp))
        clear hK K
        refine flo_read _ rfl (fun K hK => ?_)
        go_simp
        first | (refine hK _ ?_) | (refine ⟨fun W hS => ?_, hK _ ?_⟩; · (have x1 := hS.old z1; have x2 := hS.old z2; have x3 := hS.old z3; try go_simp))
        clear hK K
        refine flo_alone _ rfl ?_
        go_wp2_with fail
        go_at_call 42
        refine Calls.mono (Ph.out _) ?_
        rintro e w4 ⟨rfl, t4⟩
        go_wp2_with fail
        refine ⟨fun W => Turns [] w4 W, fun W h => t4.trans h, Turns.refl _ _, ?_⟩
        have T4 := Td.trans t4
        have y0 := t4.old z0
        clear z0 z1 z2 z3 t4 Td
        refine flo_read _ rfl (fun K hK => ?_)
        go_simp
        first | (refine hK _ ?_) | (refine ⟨fun W hS => ?_, hK _ ?_⟩; · (skip; try go_simp))
        clear hK K
        refine flo_end ?_
        go_wp2_with fail
        go_at_call 25
        refine Calls.mono (Wkh.out _) ?_
        rintro e w5 ⟨rfl, t5⟩
        go_wp2_with fail
        go_roundw
        case rel => exact ⟨k + 1, by omega, by go_num, by rw [e8h.out], T4.trans t5⟩
        case measure => simp [RowKit.intOf]; omega
      · have g2 : ((k : Int) == node) = false := by simpa using hkn
        have e8 := hnxh.out
        rw [decide_eq_false hkn, Bool.false_or] at e8
        clear hkn
        cases hp : passedB x now span with
        | true =>
          rw [hp] at e8 Ph
          simp only [Bool.not_true, Bool.false_eq_true, if_false] at e8
          have e8h := Lib.hid e8
          clear e8 hp
          go_wp2_with fail
          go_wp2_with fail
          refine wp_region_flo [(0, true), (1, true), (2, true), (3, true), (4, true), (5, true), (6, true), (7, true), (8, true), (9, true), (10, true), (11, true), (12, false), (13, true)] (fun W => Turns [] wr.drew W) (by kernel_rfl) rfl (by kernel_rfl) (by intro c d v a w h; cases d <;> first | (simpa [Exit.then, Exit.inBlock, Act.put] using h) | exact h) (Turns.refl _ _) ?_
          have z0 : wr.drew.cell? ⟨b, 0, none⟩ = some (.int .i64 node) := q0
          have z1 : wr.drew.cell? ⟨b, 1, none⟩ = some (.int .i64 span) := q1
          have z2 : wr.drew.cell? ⟨b, 2, none⟩ = some (.slice (some ad) L.length c) := q2
          have z3 : wr.drew.cell? (ad.add k) = some (.int .i64 x) := i0
          have Td := T.drew
          clear q0 q1 q2 i0 T
          generalize wr.drew = w3 at *
          refine flo_read _ rfl (fun K hK => ?_)
          go_simp
          first | (refine hK _ ?_) | (refine ⟨fun W hS => ?_, hK _ ?_⟩; · (have x1 := hS.old z1; have x2 := hS.old z2; have x3 := hS.old z3; try go_simp))
          clear hK K
          refine flo_read _ rfl (fun K hK => ?_)
          go_simp
          first | (refine hK _ ?_) | (refine ⟨fun W hS => ?_, hK _ ?_⟩; · (have x1 := hS.old z1; have x2 := hS.old z2; have x3 := hS.old z3; try go_simp))
          clear hK K
          refine flo_read _ rfl (fun K hK => ?_)
          go_simp
          first | (refine hK _ ?_) | (refine ⟨fun W hS => ?_, hK _ ?_⟩; · (have x1 := hS.old z1; have x2 := hS.old z2; have x3 := hS.old z3; try go_simp))
          clear hK K
          refine flo_read _ rfl (fun K hK => ?_)
          go_simp
          first | (refine hK _ ?_) | (refine ⟨fun W hS => ?_, hK _ ?_⟩; · (have x1 := hS.old z1; have x2 := hS.old z2; have x3 := hS.old z3; try go_simp))
          clear hK K
          refine flo_read _ rfl (fun K hK => ?_)
          go_simp
          first | (refine hK _ ?_) | (refine ⟨fun W hS => ?_, hK _ ?_⟩; · (have x1 := hS.old z1; have x2 := hS.old z2; have x3 := hS.old z3; try go_simp))
          clear hK K
          refine flo_read _ rfl (fun K hK => ?_)
          go_simp
          first | (refine hK _ ?_) | (refine ⟨fun W hS => ?_, hK _ ?_⟩; · (have x1 := hS.old z1; have x2 := hS.old z2; have x3 := hS.old z3; try go_simp))
          clear hK K
          refine flo_read _ rfl (fun K hK => ?_)
          go_simp
          first | (refine hK _ ?_) | (refine ⟨fun W hS => ?_, hK _ ?_⟩; · (have x1 := hS.old z1; have x2 := hS.old z2; have x3 := hS.old z3; try go_simp))
          clear hK K
          refine flo_read _ rfl (fun K hK => ?_)
          go_simp
          first | (refine hK _ ?_) | (refine ⟨fun W hS => ?_, hK _ ?_⟩; · (have x1 := hS.old z1; have x2 := hS.old z2; have x3 := hS.old z3; try go_simp))
          clear hK K
          refine flo_read _ rfl (fun K hK => ?_)
          go_simp
          first | (refine hK _ ?_) | (refine ⟨fun W hS => ?_, hK _ ?_⟩; · (have x1 := hS.old z1; have x2 := hS.old z2; have x3 := hS.old z3; try go_simp))
          clear hK K
          refine flo_read _ rfl (fun K hK => ?_)
          go_simp
          first | (refine hK _ ?_) | (refine ⟨fun W hS => ?_, hK _ ?_⟩; · (have x1 := hS.old z1; have x2 := hS.old z2; have x3 := hS.old z3; try go_simp))
          clear hK K
          refine flo_read _ rfl (fun K hK => ?_)
          go_simp
          first | (refine hK _ ?_) | (refine ⟨fun W hS => ?_, hK _ ?_⟩; · (have x1 := hS.old z1; have x2 := hS.old z2; have x3 := hS.old z3; try go_simp))
          clear hK K
          refine flo_read _ rfl (fun K hK => ?_)
          go_simp
          first | (refine hK _ ?_) | (refine ⟨fun W hS => ?_, hK _ ?_⟩; · (have x1 := hS.old z1; have x2 := hS.old z2; have x3 := hS.old z3; try go_simp))
          clear hK K
          refine flo_alone _ rfl ?_
          go_wp2_with fail
          go_at_call 42
          refine Calls.mono (Ph.out _) ?_
          rintro e w4 ⟨rfl, t4⟩
          go_wp2_with fail
          refine ⟨fun W => Turns [] w4 W, fun W h => t4.trans h, Turns.refl _ _, ?_⟩
          have T4 := Td.trans t4
          have y0 := t4.old z0
          clear z0 z1 z2 z3 t4 Td
          refine flo_read _ rfl (fun K hK => ?_)
          go_simp
          first | (refine hK _ ?_) | (refine ⟨fun W hS => ?_, hK _ ?_⟩; · (skip; try go_simp))
          clear hK K
          refine flo_end ?_
          go_wp2_with fail
          go_roundw
          case rel => exact ⟨k + 1, by omega, by go_num, by rw [e8h.out], T4⟩
          case measure => simp [RowKit.intOf]; omega
        | false =>
          rw [hp] at e8 Ph
          simp only [Bool.not_false, if_true] at e8
          have e8h := Lib.hid e8
          clear e8 hp
          go_wp2_with fail
          go_wp2_with fail
          refine wp_region_flo [(0, true), (1, true), (2, true), (3, true), (4, true), (5, true), (6, true), (7, true), (8, true), (9, true), (10, true), (11, true), (12, false), (13, true)] (fun W => Turns [] wr.drew W) (by kernel_rfl) rfl (by kernel_rfl) (by intro c d v a w h; cases d <;> first | (simpa [Exit.then, Exit.inBlock, Act.put] using h) | exact h) (Turns.refl _ _) ?_
          have z0 : wr.drew.cell? ⟨b, 0, none⟩ = some (.int .i64 node) := q0
          have z1 : wr.drew.cell? ⟨b, 1, none⟩ = some (.int .i64 span) := q1
          have z2 : wr.drew.cell? ⟨b, 2, none⟩ = some (.slice (some ad) L.length c) := q2
          have z3 : wr.drew.cell? (ad.add k) = some (.int .i64 x) := i0
          have Td := T.drew
          clear q0 q1 q2 i0 T
          generalize wr.drew = w3 at *
          refine flo_read _ rfl (fun K hK => ?_)
          go_simp
          first | (refine hK _ ?_) | (refine ⟨fun W hS => ?_, hK _ ?_⟩; · (have x1 := hS.old z1; have x2 := hS.old z2; have x3 := hS.old z3; try go_simp))
          clear hK K
          refine flo_read _ rfl (fun K hK => ?_)
          go_simp
          first | (refine hK _ ?_) | (refine ⟨fun W hS => ?_, hK _ ?_⟩; · (have x1 := hS.old z1; have x2 := hS.old z2; have x3 := hS.old z3; try go_simp))
          clear hK K
          refine flo_read _ rfl (fun K hK => ?_)
          go_simp
          first | (refine hK _ ?_) | (refine ⟨fun W hS => ?_, hK _ ?_⟩; · (have x1 := hS.old z1; have x2 := hS.old z2; have x3 := hS.old z3; try go_simp))
          clear hK K
          refine flo_read _ rfl (fun K hK => ?_)
          go_simp
          first | (refine hK _ ?_) | (refine ⟨fun W hS => ?_, hK _ ?_⟩; · (have x1 := hS.old z1; have x2 := hS.old z2; have x3 := hS.old z3; try go_simp))
          clear hK K
          refine flo_read _ rfl (fun K hK => ?_)
          go_simp
          first | (refine hK _ ?_) | (refine ⟨fun W hS => ?_, hK _ ?_⟩; · (have x1 := hS.old z1; have x2 := hS.old z2; have x3 := hS.old z3; try go_simp))
          clear hK K
          refine flo_read _ rfl (fun K hK => ?_)
          go_simp
          first | (refine hK _ ?_) | (refine ⟨fun W hS => ?_, hK _ ?_⟩; · (have x1 := hS.old z1; have x2 := hS.old z2; have x3 := hS.old z3; try go_simp))
          clear hK K
          refine flo_read _ rfl (fun K hK => ?_)
          go_simp
          first | (refine hK _ ?_) | (refine ⟨fun W hS => ?_, hK _ ?_⟩; · (have x1 := hS.old z1; have x2 := hS.old z2; have x3 := hS.old z3; try go_simp))
          clear hK K
          refine flo_read _ rfl (fun K hK => ?_)
          go_simp
          first | (refine hK _ ?_) | (refine ⟨fun W hS => ?_, hK _ ?_⟩; · (have x1 := hS.old z1; have x2 := hS.old z2; have x3 := hS.old z3; try go_simp))
          clear hK K
          refine flo_read _ rfl (fun K hK => ?_)
          go_simp
          first | (refine hK _ ?_) | (refine ⟨fun W hS => ?_, hK _ ?_⟩; · (have x1 := hS.old z1; have x2 := hS.old z2; have x3 := hS.old z3; try go_simp))
          clear hK K
          refine flo_read _ rfl (fun K hK => ?_)
          go_simp
          first | (refine hK _ ?_) | (refine ⟨fun W hS => ?_, hK _ ?_⟩; · (have x1 := hS.old z1; have x2 := hS.old z2; have x3 := hS.old z3; try go_simp))
          clear hK K
          refine flo_read _ rfl (fun K hK => ?_)
          go_simp
          first | (refine hK _ ?_) | (refine ⟨fun W hS => ?_, hK _ ?_⟩; · (have x1 := hS.old z1; have x2 := hS.old z2; have x3 := hS.old z3; try go_simp))
          clear hK K
          refine flo_read _ rfl (fun K hK => ?_)
          go_simp
          first | (refine hK _ ?_) | (refine ⟨fun W hS => ?_, hK _ ?_⟩; · (have x1 := hS.old z1; have x2 := hS.old z2; have x3 := hS.old z3; try go_simp))
          clear hK K
          refine flo_alone _ rfl ?_
          go_wp2_with fail
          go_at_call 42
          refine Calls.mono (Ph.out _) ?_
          rintro e w4 ⟨rfl, t4⟩
          go_wp2_with fail
          refine ⟨fun W => Turns [] w4 W, fun W h => t4.trans h, Turns.refl _ _, ?_⟩
          have T4 := Td.trans t4
          have y0 := t4.old z0
          clear z0 z1 z2 z3 t4 Td
          refine flo_read _ rfl (fun K hK => ?_)
          go_simp
          first | (refine hK _ ?_) | (refine ⟨fun W hS => ?_, hK _ ?_⟩; · (skip; try go_simp))
          clear hK K
          refine flo_end ?_
          go_wp2_with fail
          go_at_call 25
          refine Calls.mono (Wkh.out _) ?_
          rintro e w5 ⟨rfl, t5⟩
          go_wp2_with fail
          go_roundw
          case rel => exact ⟨k + 1, by omega, by go_num, by rw [e8h.out], T4.trans t5⟩
          case measure => simp [RowKit.intOf]; omega
    · obtain rfl : k = L.length := by omega
      have g1 : decide ((L.length : Int) < (L.length : Int)) = false := by simp
      go_wp2_with fail
      go_ret
      exact ⟨rfl, T⟩
set_option maxHeartbeats 1000000 in
theorem rvnext_is (b : Nat) (node span : Int) (hv : Value) (L : List Int) (now : Int) (hL : L.length ≤ 64) (w : World) (h : Got (rvw b node span hv L) w) : Calls Tryd.prog 19 #[.pointer (some ⟨b, 0, none⟩), .int .i64 now] w fun e w' => e = .returned (.int .i64 (vnext L node span now)) ∧ Turns [] w w' := by
  have hb := h.sep.blk 0 rfl
  have Lh := Lib.hid (rlive_is b node span hv L now hL _ (h.sep.drew.got [0, 1]))
  have Nh := Lib.hid (fun w => rnext_any (live L node span now) L.length node (live_lt L node span now) w)
  obtain ⟨A, c, rfl, _⟩ := formI (h.sep.own 1 rfl)
  unfold vnext
  generalize live L node span now = s at *
  generalize nextI s L.length node = r at *
  have Td := (Turns.refl [] w).drew
  have c0 : World.cell? (w.drew) ⟨b, 0, none⟩ = some _ := (hb.turns Td (by simp)).cell 0
  have c2 : World.cell? (w.drew) ⟨b, 2, none⟩ = some _ := (hb.turns Td (by simp)).cell 2
  clear h hb
  go_enter Tryd.func19, Tryd.ntmps19
  go_wp2_with fail
  go_wp2_with fail
  refine wp_region_flo [(0, true), (1, true), (3, true), (4, true), (5, true), (6, true), (7, true), (8, true), (9, true), (10, true), (11, true), (2, false), (12, false), (13, true)] (fun W => Turns [] w.drew W) (by kernel_rfl) rfl (by kernel_rfl) (by intro c d v a w h; cases d <;> first | (simpa [Exit.then, Exit.inBlock, Act.put] using h) | exact h) (Turns.refl _ _) ?_
  generalize hw1 : w.drew = w1 at *
  clear hw1
  refine flo_read _ rfl (fun K hK => ?_)
  go_simp
  first | (refine hK _ ?_) | (refine ⟨fun W hS => ?_, hK _ ?_⟩; · (have x0 := hS.old c0; have x2 := hS.old c2; try go_simp))
  clear hK K
  refine flo_read _ rfl (fun K hK => ?_)
  go_simp
  first | (refine hK _ ?_) | (refine ⟨fun W hS => ?_, hK _ ?_⟩; · (have x0 := hS.old c0; have x2 := hS.old c2; try go_simp))
  clear hK K
  refine flo_read _ rfl (fun K hK => ?_)
  go_simp
  first | (refine hK _ ?_) | (refine ⟨fun W hS => ?_, hK _ ?_⟩; · (have x0 := hS.old c0; have x2 := hS.old c2; try go_simp))
  clear hK K
  refine flo_read _ rfl (fun K hK => ?_)
  go_simp
  first | (refine hK _ ?_) | (refine ⟨fun W hS => ?_, hK _ ?_⟩; · (have x0 := hS.old c0; have x2 := hS.old c2; try go_simp))
  clear hK K
  refine flo_read _ rfl (fun K hK => ?_)
  go_simp
  first | (refine hK _ ?_) | (refine ⟨fun W hS => ?_, hK _ ?_⟩; · (have x0 := hS.old c0; have x2 := hS.old c2; try go_simp))
  clear hK K
  refine flo_read _ rfl (fun K hK => ?_)
  go_simp
  first | (refine hK _ ?_) | (refine ⟨fun W hS => ?_, hK _ ?_⟩; · (have x0 := hS.old c0; have x2 := hS.old c2; try go_simp))
  clear hK K
  refine flo_read _ rfl (fun K hK => ?_)
  go_simp
  first | (refine hK _ ?_) | (refine ⟨fun W hS => ?_, hK _ ?_⟩; · (have x0 := hS.old c0; have x2 := hS.old c2; try go_simp))
  clear hK K
  refine flo_read _ rfl (fun K hK => ?_)
  go_simp
  first | (refine hK _ ?_) | (refine ⟨fun W hS => ?_, hK _ ?_⟩; · (have x0 := hS.old c0; have x2 := hS.old c2; try go_simp))
  clear hK K
  refine flo_read _ rfl (fun K hK => ?_)
  go_simp
  first | (refine hK _ ?_) | (refine ⟨fun W hS => ?_, hK _ ?_⟩; · (have x0 := hS.old c0; have x2 := hS.old c2; try go_simp))
  clear hK K
  refine flo_read _ rfl (fun K hK => ?_)
  go_simp
  first | (refine hK _ ?_) | (refine ⟨fun W hS => ?_, hK _ ?_⟩; · (have x0 := hS.old c0; have x2 := hS.old c2; try go_simp))
  clear hK K
  refine flo_read _ rfl (fun K hK => ?_)
  go_simp
  first | (refine hK _ ?_) | (refine ⟨fun W hS => ?_, hK _ ?_⟩; · (have x0 := hS.old c0; have x2 := hS.old c2; try go_simp))
  clear hK K
  refine flo_alone _ rfl ?_
  go_wp2_with fail
  go_at_call 17
  refine Calls.mono (Lh.out) ?_
  rintro e w2 ⟨rfl, t2⟩
  go_wp2_with fail
  refine ⟨fun W => Turns [] w2 W, fun W h => t2.trans h, Turns.refl _ _, ?_⟩
  refine flo_alone _ rfl ?_
  go_wp2_with fail
  go_at_call 29
  refine Calls.mono (Nh.out _) ?_
  rintro e w3 ⟨rfl, t3⟩
  go_wp2_with fail
  refine ⟨fun W => Turns [] w3 W, fun W h => t3.trans h, Turns.refl _ _, ?_⟩
  have T3 := (Td.trans t2).trans t3
  clear c0 c2 t2 t3 Td
  refine flo_read _ rfl (fun K hK => ?_)
  go_simp
  first | (refine hK _ ?_) | (refine ⟨fun W hS => ?_, hK _ ?_⟩; · (skip; try go_simp))
  clear hK K
  refine flo_end ?_
  go_wp2_with fail
  go_ret
  exact ⟨rfl, T3⟩
end Go.Proofs.YtmaielpfeajelaaDoor.Yc
