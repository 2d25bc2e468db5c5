/- The ledger's Held and the document's. -/
import Derived.Test.YtphhfdlhkginkaaBl
import Derived.Test.YtphhfdlhkginkaaBf
set_option linter.unusedVariables false
set_option linter.unusedSimpArgs false
set_option maxRecDepth 100000
namespace Go.Proofs.Ytphhfdlhkginkaa.Bm
open Go.RowKit Go.MapKept Hm Hs Hf Hx Hy Hv Fa Ff Ba Bc Bl Bf
theorem held_take (R : List Row) (node : Int) {k : Nat} {r : Row} (h : R[k]? = some r) : heldR (R.take (k + 1)) node = if leaseR r.out node then heldR (R.take k) node ++ [r.key] else heldR (R.take k) node := by
  unfold heldR
  rw [take_next h, List.filter_append, List.map_append]
  cases hl : leaseR r.out node <;> simp [hl]
theorem held_len (R : List Row) (node : Int) (k : Nat) : (heldR (R.take k) node).length ≤ R.length := by
  unfold heldR
  rw [List.length_map]
  have := List.length_filter_le (fun r : Row => leaseR r.out node) (R.take k)
  rw [List.length_take] at this
  omega
set_option maxHeartbeats 4000000 in
theorem held_is (w : World) (start node : Int) (v : Value) (R : List Row) (h : RT w v R) (hok : Ok R) (h0 : -9223372036854775808 ≤ node) (h9 : node ≤ 9223372036854775807) : Calls Try.prog 17 #[.agg #[.int .i64 start, v], .int .i64 node] w fun e w' => ∃ u, e = .returned u ∧ OwnS 3 1 w' u (ins (heldR R node)) ∧ Turns [] w w' := by
  obtain ⟨A, c, rfl, hlc, hcm⟩ := h.form
  have hh := Lib.hid h
  have hokh := Lib.hid hok
  have hRl := hok.len
  obtain ⟨X, hX⟩ : ∃ X : Ending → World → Prop, X = fun e w' => ∃ u, e = .returned u ∧ OwnS 3 1 w' u (ins (heldR R node)) ∧ Turns [] w w' := ⟨_, rfl⟩
  rw [← hX]
  have hXh : Hid (∀ w' u, OwnS 3 1 w' u (ins (heldR R node)) → Turns [] w w' → X (.returned u) w') := Lib.hid (fun w' u h1 h2 => by rw [hX]; exact ⟨u, rfl, h1, h2⟩)
  have H := ((Sep.start w).alloc #[.int .i64 start, .slice A R.length c] 24).nilSlice 3 1
  have t1 : World.cell? (w.alloc (.cells #[.int .i64 start, .slice A R.length c] 24)) ⟨w.heap.size, 1, none⟩ = some _ := (H.blk 1 rfl).cell 1
  have Hh := Lib.hid H
  clear h hX hok H
  generalize hw0 : w.alloc (.cells #[.int .i64 start, .slice A R.length c] 24) = w0 at *
  go_enter Try.func17, Try.ntmps17
  go_wp2_with fail
  try rw [hw0]
  clear hw0 t1
  go_loopw [5, 13] (fun v5 v13 wr => ∃ (k : Nat), k ≤ R.length ∧ v13 = .int .i64 k ∧ Sep [] w [tOwn 3 1 v5 (ins (heldR (R.take k) node)), tBlk w.heap.size #[.int .i64 start, .slice A R.length c] 24] wr) (fun _ v13 _ => R.length - (RowKit.intOf v13).toNat)
  case atStart => exact ⟨0, by omega, rfl, Hh.out⟩
  case round =>
    clear Hh
    obtain ⟨k, hk, rfl, H⟩ := hrel
    obtain ⟨A5, c5, hu, _⟩ := formI (H.own 0 rfl)
    have hlen := held_len R node k
    obtain ⟨L5, hL5⟩ : ∃ L5, (heldR (R.take k) node).length = L5 := ⟨_, rfl⟩
    rw [hL5] at hu hlen
    subst hu
    have hL5h := Lib.hid hL5
    have HH := Lib.hid H
    clear H hL5
    by_cases hlt : k < R.length
    · have g1 : decide ((k : Int) < (R.length : Int)) = true := decide_eq_true (by omega)
      have g1b : decide (k < R.length) = true := decide_eq_true hlt
      obtain ⟨r, hr⟩ : ∃ r, R[k]? = some r := ⟨_, List.getElem?_eq_getElem hlt⟩
      have hro := hokh.out.row r (List.mem_of_getElem? hr)
      have hnx := Lib.hid (held_take R node hr)
      obtain ⟨ad, c', x, hv, hxr, LX⟩ := hh.out.at_ hr
      injection hv with e1 e2 e3
      subst e1 e3
      obtain ⟨Ay, cy, rfl, hoy⟩ := row_form hxr
      obtain ⟨x0, x1, x2, x3⟩ := LX.turns HH.out.t
      have H2 := HH.out.alloc #[.int .i64 r.key, .int .i64 r.avail, .int .i64 r.mark, .slice Ay r.out.length cy] 38
      have L1 := Lib.hid (lease_is _ _ r node (hxr.turns H2.t) hro h0 h9)
      simp only [Rw.v] at L1
      have H2h := Lib.hid H2
      clear hr hro e2 LX hxr hoy H2 HH
      generalize leaseR r.out node = b at *
      go_wp2_with fail
      go_at_call 43
      refine Calls.mono (L1.out) ?_
      rintro e w2 ⟨i, rfl, hi, t2⟩
      have H3 := Lib.hid (H2h.out.turns t2)
      clear hi t2 L1 H2h x0 x1 x2 x3
      have g0 : World.cell? (w2) ⟨wr.heap.size, 0, none⟩ = some _ := (H3.out.blk 0 rfl).cell 0
      cases b with
      | true =>
        have erh := Lib.hid (show ins (heldR (R.take (k + 1)) node) = ins (heldR (R.take k) node) ++ ins [r.key] by rw [hnx.out, if_pos rfl, ins_append])
        have elh : Hid (L5 + 1 = (ins (heldR (R.take k) node)).length + (ins [r.key]).length) := Lib.hid (by rw [ins_len, ins_len, hL5h.out]; rfl)
        go_wp2_with (at_builtin; refine stop_ ?_)
        refine Mk_.mk ?_
        refine (H3.out.alloc #[.int .i64 r.key] 3).append 2 rfl (oneI (Blk.new w2 #[.int .i64 r.key] 3)) (L5 + 1) elh.out (ins (heldR (R.take (k + 1)) node)) erh.out rfl _ _ _ rfl (.int .i64 0) 8 Try.underlying46 infoI rfl (by decide) rfl rfl (ins_one _) (by omega) (by omega) ?_
        intro A6 c6 w6 H6 t6 _
        have K6 := Lib.hid (H6.keep [2, 3])
        clear H6 t6 H3 erh elh g0
        go_wp2_with fail
        go_roundw
        case rel => exact ⟨k + 1, by omega, by go_num, K6.out⟩
        case measure => simp [RowKit.intOf]; omega
      | false =>
        have erh := Lib.hid (show ins (heldR (R.take (k + 1)) node) = ins (heldR (R.take k) node) by rw [hnx.out, if_neg (by simp)])
        have K6 := Lib.hid (H3.out.keep [1, 2])
        clear H3 g0
        go_wp2_with fail
        go_roundw
        case rel => exact ⟨k + 1, by omega, by go_num, by rw [erh.out]; exact K6.out⟩
        case measure => simp [RowKit.intOf]; omega
    · obtain rfl : k = R.length := by omega
      have g1 : decide ((R.length : Int) < (R.length : Int)) = false := by simp
      have hX := hXh.out wr (.slice A5 L5 c5) (by have := HH.out.own 0 rfl; rwa [List.take_length] at this) HH.out.t
      clear HH
      go_wp2_with fail
      exact hX
set_option maxHeartbeats 4000000 in
theorem rheld_is (w : World) (start node : Int) (v : Value) (R : List Row) (h : RT w v R) (hok : Ok R) : Calls Try.prog 18 #[.agg #[.int .i64 start, v], .int .i64 node] w fun e w' => ∃ u, e = .returned u ∧ OwnS 3 1 w' u (ins (heldR R node)) ∧ Turns [] w w' := by
  obtain ⟨A, c, rfl, hlc, hcm⟩ := h.form
  have hh := Lib.hid h
  have hokh := Lib.hid hok
  have hRl := hok.len
  obtain ⟨X, hX⟩ : ∃ X : Ending → World → Prop, X = fun e w' => ∃ u, e = .returned u ∧ OwnS 3 1 w' u (ins (heldR R node)) ∧ Turns [] w w' := ⟨_, rfl⟩
  rw [← hX]
  have hXh : Hid (∀ w' u, OwnS 3 1 w' u (ins (heldR R node)) → Turns [] w w' → X (.returned u) w') := Lib.hid (fun w' u h1 h2 => by rw [hX]; exact ⟨u, rfl, h1, h2⟩)
  have H := ((Sep.start w).alloc #[.int .i64 start, .slice A R.length c] 24).nilSlice 3 1
  have Hh := Lib.hid H
  clear h hX hok H
  generalize hw0 : w.alloc (.cells #[.int .i64 start, .slice A R.length c] 24) = w0 at *
  go_enter Try.func18, Try.ntmps18
  go_wp2_with fail
  try rw [hw0]
  clear hw0
  go_loopw [5, 6] (fun v5 v6 wr => ∃ (k : Nat), k ≤ R.length ∧ v6 = .int .i64 k ∧ Sep [] w [tOwn 3 1 v5 (ins (heldR (R.take k) node)), tBlk w.heap.size #[.int .i64 start, .slice A R.length c] 24] wr) (fun _ v6 _ => R.length - (RowKit.intOf v6).toNat)
  case atStart => exact ⟨0, by omega, rfl, Hh.out⟩
  case round =>
    clear Hh
    obtain ⟨k, hk, rfl, H⟩ := hrel
    obtain ⟨A5, c5, hu, _⟩ := formI (H.own 0 rfl)
    have hlen := held_len R node k
    obtain ⟨L5, hL5⟩ : ∃ L5, (heldR (R.take k) node).length = L5 := ⟨_, rfl⟩
    rw [hL5] at hu hlen
    subst hu
    have hL5h := Lib.hid hL5
    have HH := Lib.hid H
    have t1 : World.cell? (wr) ⟨w.heap.size, 1, none⟩ = some _ := (H.blk 1 rfl).cell 1
    clear H hL5
    by_cases hlt : k < R.length
    · have g1 : decide ((k : Int) < (R.length : Int)) = true := decide_eq_true (by omega)
      have g1b : decide (k < R.length) = true := decide_eq_true hlt
      obtain ⟨r, hr⟩ : ∃ r, R[k]? = some r := ⟨_, List.getElem?_eq_getElem hlt⟩
      have hro := hokh.out.row r (List.mem_of_getElem? hr)
      have hrol := hro.len
      have hnx := Lib.hid (held_take R node hr)
      obtain ⟨ad, c', x, hv, hxr, LX⟩ := hh.out.at_ hr
      injection hv with e1 e2 e3
      subst e1 e3
      obtain ⟨Ay, cy, rfl, hoy⟩ := row_form hxr
      have LXh := Lib.hid LX
      obtain ⟨x0, x1, x2, x3⟩ := LXh.out.turns HH.out.t
      have L1 := Lib.hid (out_is _ _ r node (hxr.turns HH.out.t) hro.out (by omega))
      simp only [Rw.v] at L1
      have hib : Hid (decide (ixL r.out node ≥ 0) = leaseR r.out node) := Lib.hid (by
        unfold ixL
        cases leaseR r.out node
        · rfl
        · exact decide_eq_true (by simp))
      generalize leaseR r.out node = b at *
      generalize ixL r.out node = p at *
      have g2 : decide (p ≥ 0) = b := hib.out
      clear hr hro hrol e2 LX hxr hoy hib
      go_wp2_with fail
      go_at_call 44
      refine Calls.mono (L1.out) ?_
      rintro e w2 ⟨rfl, t2⟩
      have H3 := Lib.hid (HH.out.turns t2)
      clear t2 L1 HH x0 x1 x2 x3 t1
      have t1 : World.cell? (w2) ⟨w.heap.size, 1, none⟩ = some _ := (H3.out.blk 1 rfl).cell 1
      obtain ⟨x0, x1, x2, x3⟩ := LXh.out.turns H3.out.t
      cases b with
      | true =>
        have erh := Lib.hid (show ins (heldR (R.take (k + 1)) node) = ins (heldR (R.take k) node) ++ ins [r.key] by rw [hnx.out, if_pos rfl, ins_append])
        have elh : Hid (L5 + 1 = (ins (heldR (R.take k) node)).length + (ins [r.key]).length) := Lib.hid (by rw [ins_len, ins_len, hL5h.out]; rfl)
        go_wp2_with (at_builtin; refine stop_ ?_)
        refine Mk_.mk ?_
        refine (H3.out.alloc #[.int .i64 r.key] 3).append 1 rfl (oneI (Blk.new w2 #[.int .i64 r.key] 3)) (L5 + 1) elh.out (ins (heldR (R.take (k + 1)) node)) erh.out rfl _ _ _ rfl (.int .i64 0) 8 Try.underlying46 infoI rfl (by decide) rfl rfl (ins_one _) (by omega) (by omega) ?_
        intro A6 c6 w6 H6 t6 _
        have K6 := Lib.hid (H6.keep [1, 2])
        clear H6 t6 H3 erh elh x0 x1 x2 x3 t1
        go_wp2_with fail
        go_roundw
        case rel => exact ⟨k + 1, by omega, by go_num, K6.out⟩
        case measure => simp [RowKit.intOf]; omega
      | false =>
        have erh := Lib.hid (show ins (heldR (R.take (k + 1)) node) = ins (heldR (R.take k) node) by rw [hnx.out, if_neg (by simp)])
        clear x0 x1 x2 x3 t1
        go_wp2_with fail
        go_roundw
        case rel => exact ⟨k + 1, by omega, by go_num, by rw [erh.out]; exact H3.out⟩
        case measure => simp [RowKit.intOf]; omega
    · obtain rfl : k = R.length := by omega
      have g1 : decide ((R.length : Int) < (R.length : Int)) = false := by simp
      have hX := hXh.out wr (.slice A5 L5 c5) (by have := HH.out.own 0 rfl; rwa [List.take_length] at this) HH.out.t
      clear HH
      go_wp2_with fail
      exact hX
end Go.Proofs.Ytphhfdlhkginkaa.Bm
