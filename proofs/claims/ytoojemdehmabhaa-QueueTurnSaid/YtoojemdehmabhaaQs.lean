/- The walk of the document's queue: Keys. -/
import Derived.Test.YtoojemdehmabhaaQr
import Derived.Test.YtoojemdehmabhaaHj
set_option linter.unusedVariables false
set_option linter.unusedSimpArgs false
set_option maxRecDepth 100000
namespace Go.Proofs.Ytoojemdehmabhaa.Qs
open Go.RowKit Go.MapKept Go.Shelf Hm Hs Hf Hg Hx Hy Hv Hj Qa Qb Qe Qh Qi
theorem infoI : (Try.prog.info? 3).map (fun i => (i.zero, i.size, i.bytes)) = some (some (.int .i64 0), 1, 8) := by kernel_rfl
theorem oneI {w : World} {b : Nat} {x : Int} (h : Blk w b #[.int .i64 x] 3) : RdS 1 w (.slice (some ⟨b, 0, none⟩) 1 1) (ins [x]) :=
  RdS.of_cells (rows := ins [x]) h rfl (by simp [ins]) 1 (by simp [ins]) (by decide)
/-- the keys of items, rising, each once -/
def rks (S : List Int) (x : It) : List Int := kin x.key S
def rkeys (R : List It) : List Int := R.foldl rks []
theorem rks_ok : ∀ (l : List It) (S : List Int), S.Pairwise (· < ·) → (l.foldl rks S).Pairwise (· < ·) ∧ ∀ x, x ∈ l.foldl rks S ↔ x ∈ S ∨ x ∈ l.map It.key
  | [], S, h => ⟨h, by simp⟩
  | n :: l, S, h => by
    obtain ⟨h3, h4⟩ := rks_ok l (rks S n) (kin_sorted h)
    refine ⟨h3, fun x => ?_⟩
    rw [List.foldl_cons, h4 x, List.map_cons, List.mem_cons]
    unfold rks
    rw [kin_mem h]
    constructor
    · rintro ((h5 | h5) | h5)
      · exact .inr (.inl h5)
      · exact .inl h5
      · exact .inr (.inr h5)
    · rintro (h5 | h5 | h5)
      · exact .inl (.inr h5)
      · exact .inl (.inl h5)
      · exact .inr h5
theorem rks_len : ∀ (l : List It) (S : List Int), (l.foldl rks S).length ≤ S.length + l.length
  | [], S => by simp
  | n :: l, S => by
    rw [List.foldl_cons]
    have h1 := rks_len l (rks S n)
    have h2 : (rks S n).length ≤ S.length + 1 := kin_len
    simp only [List.length_cons]
    omega
theorem kst_len (x : Int) : ∀ (S : List Int) (a : List Int × Bool), (S.foldl (kst x) a).1.length ≤ a.1.length + 2 * S.length
  | [], a => by simp
  | o :: S, a => by
    rw [List.foldl_cons]
    have h1 := kst_len x S (kst x a o)
    have h2 : (kst x a o).1.length ≤ a.1.length + 2 := by
      unfold kst
      obtain ⟨l, b⟩ := a
      cases b <;> by_cases h : x ≤ o <;> by_cases ho : o = x <;> simp [h, ho] <;> omega
    simp only [List.length_cons]
    omega
set_option maxHeartbeats 4000000 in
theorem rkeys_is (w : World) (d : Nat) (room : Int) (lv : Value) (NS : List It) (h : Got (rq d room lv NS) w) (hn : NS.length ≤ 100000) : Calls Try.prog 43 #[.pointer (some ⟨d, 0, none⟩)] w
    fun e w' => ∃ v, e = .returned v ∧ OwnS 3 1 w' v (ins (rkeys NS)) ∧ Turns [] w w' ∧ (∀ k, v.ownBlock = some k → w.heap.size ≤ k) := by
  have hrd := (h.sep.own 1 rfl).reads
  have hb := h.sep.blk 0 rfl
  obtain ⟨A, c, rfl, _⟩ := hrd.form
  rw [List.length_map] at hb
  have hrdh := Lib.hid hrd
  have H := (Sep.start w).nilSlice 3 1
  clear h hrd
  have c1 : World.cell? (w) ⟨d, 1, none⟩ = some _ := (hb).cell 1
  go_enter Try.func43, Try.ntmps43
  go_wp2_with fail
  go_loopw [3, 4] (fun v3 v4 wr => ∃ (k : Nat) (S : List Int), k ≤ NS.length ∧ v4 = .int .i64 k ∧ S = (NS.take k).foldl rks [] ∧ Sep [] w [tOwn 3 1 v3 (ins S)] wr) (fun _ v4 _ => NS.length - (RowKit.intOf v4).toNat)
  case atStart => exact ⟨0, [], by omega, rfl, rfl, H⟩
  case round =>
    obtain ⟨k, S, hk, rfl, hS, H1⟩ := hrel
    clear H c1
    have H := H1
    clear H1
    obtain ⟨wo, rfl⟩ : ∃ wo : World, wo = wr := ⟨_, rfl⟩
    obtain ⟨B, c2, rfl, _⟩ := formI (H.own 0 rfl)
    have hSl : S.length ≤ NS.length := by rw [hS]; have := rks_len (NS.take k) []; rw [List.length_take] at this; simp at this; omega
    have hSs : S.Pairwise (· < ·) := by rw [hS]; exact (rks_ok _ [] (by simp)).1
    have hSh := Lib.hid hS
    have hSsh := Lib.hid hSs
    clear hS hSs
    have c1 : World.cell? (wo) ⟨d, 1, none⟩ = some _ := (hb.turns H.t (by simp)).cell 1
    by_cases hlt : k < NS.length
    · have g1 : decide ((k : Int) < (NS.length : Int)) = true := by simp; omega
      obtain ⟨n, hx⟩ : ∃ n, NS[k]? = some n := ⟨_, List.getElem?_eq_getElem hlt⟩
      obtain ⟨ad, c', hv, LX⟩ := icells_at hrdh.out hx
      injection hv with e1 e2 e3
      subst e1 e3
      have hi := Lib.hid LX.k
      have i0 := H.t.old hi.out
      have hnx : (NS.take (k + 1)).foldl rks [] = rks S n := by rw [List.take_add_one, hx, List.foldl_append, ← hSh.out]; rfl
      have hnxh := Lib.hid hnx
      clear hx LX hnx e2
      replace H := H.nilSlice 3 1
      have hHh := Lib.hid H
      clear H
      go_wp2_with fail
      have H := hHh.out
      clear hHh
      go_loopw [5, 6, 7] (fun v5 v6 v7 wr => ∃ (j : Nat) (a : List Int × Bool), j ≤ S.length ∧ v7 = .int .i64 j ∧ a = (S.take j).foldl (kst n.key) ([], false) ∧ v6 = .bool a.2 ∧ Sep [] w [tOwn 3 1 v5 (ins a.1), tOwn 3 1 (.slice B S.length c2) (ins S)] wr) (fun _ _ v7 _ => S.length - (RowKit.intOf v7).toNat)
      case atStart => exact ⟨0, ([], false), by omega, rfl, rfl, rfl, H⟩
      case round =>
        obtain ⟨j, a, hj, rfl, ha, rfl, H2⟩ := hrel
        clear H
        have H := H2
        clear H2
        obtain ⟨N, c3, rfl, _⟩ := formI (H.own 0 rfl)
        have hah := Lib.hid ha
        clear ha
        have i0 := H.t.old hi.out
        have c1 : World.cell? (wr) ⟨d, 1, none⟩ = some _ := (hb.turns H.t (by simp)).cell 1
        by_cases hjl : j < S.length
        · have g3 : decide ((j : Int) < (S.length : Int)) = true := by simp; omega
          obtain ⟨y, hy⟩ : ∃ y, S[j]? = some y := ⟨_, List.getElem?_eq_getElem hjl⟩
          have hyr := Lib.hid (show (ins S)[j]? = some [.int .i64 y] by unfold ins; rw [List.getElem?_map, hy]; rfl)
          have hnx2 : (S.take (j + 1)).foldl (kst n.key) ([], false) = kst n.key a y := by rw [List.take_add_one, hy, List.foldl_append, ← hah.out]; rfl
          have hnx2h := Lib.hid hnx2
          obtain ⟨l, dn⟩ := a
          have hal : l.length ≤ 300000 := by have := kst_len n.key (S.take j) ([], false); rw [← hah.out, List.length_take] at this; simp at this; omega
          clear hy hnx2
          obtain ⟨ad2, c2', hv2, _, hcell2⟩ := (H.own 1 rfl).reads.at_ (j := j) (r := [.int .i64 y]) hyr.out
          rw [ins_len] at hv2
          injection hv2 with e4 e5 e6
          cases e4
          have s0 := hcell2 0 _ rfl
          rw [Nat.mul_one, Nat.add_zero] at s0
          clear hcell2 e5 e6
          by_cases hge : n.key ≤ y
          · have g4 : decide (y ≥ n.key) = true := decide_eq_true hge
            have hgeh := Lib.hid hge
            clear hge
            by_cases heq : y = n.key
            · have g5 : (y == n.key) = true := by simp [heq]
              have g6 : (y != n.key) = false := by simp [heq]
              have heqh := Lib.hid heq
              clear heq
              cases dn with
              | true =>
                go_wp2_with fail
                go_quiet (fail)
                replace H := H.drewN nq
                generalize wr.drewN nq = wq at *
                clear c1 s0 i0
                have i0 := H.t.old hi.out
                have c1 : World.cell? (_) ⟨d, 1, none⟩ = some _ := (hb.turns H.t (by simp)).cell 1
                obtain ⟨ad2, c2', hv2, _, hcell2⟩ := (H.own 1 rfl).reads.at_ (j := j) (r := [.int .i64 y]) hyr.out
                rw [ins_len] at hv2
                injection hv2 with e4 e5 e6
                cases e4
                have s0 := hcell2 0 _ rfl
                rw [Nat.mul_one, Nat.add_zero] at s0
                clear hcell2 e5 e6
                go_wp2_with fail
                go_quiet (fail)
                replace H := H.drewN nq
                generalize wq.drewN nq = wu at *
                go_wp2_with fail
                go_roundw
                case rel => exact ⟨j + 1, (l, true), by omega, by go_num, by rw [hnx2h.out]; unfold kst; simp [hgeh.out, heqh.out], rfl, H⟩
                case measure => simp [RowKit.intOf]; omega
              | false =>
                go_wp2_with fail
                go_quiet (fail)
                replace H := H.drewN nq
                generalize wr.drewN nq = wq at *
                clear c1 s0 i0
                have i0 := H.t.old hi.out
                have c1 : World.cell? (_) ⟨d, 1, none⟩ = some _ := (hb.turns H.t (by simp)).cell 1
                obtain ⟨ad2, c2', hv2, _, hcell2⟩ := (H.own 1 rfl).reads.at_ (j := j) (r := [.int .i64 y]) hyr.out
                rw [ins_len] at hv2
                injection hv2 with e4 e5 e6
                cases e4
                have s0 := hcell2 0 _ rfl
                rw [Nat.mul_one, Nat.add_zero] at s0
                clear hcell2 e5 e6
                replace H := H.alloc #[.int .i64 (n.key)] 3
                have hs1 := oneI (H.blk 0 rfl)
                have hs1h := Lib.hid hs1
                clear hs1
                go_wp2_with (at_builtin; refine stop_ ?_)
                refine Mk_.mk ?_
                refine H.append 1 rfl hs1h.out (l.length + 1) (by simp) (ins (l ++ [n.key])) (by rw [ins_append]) rfl _ _ _ rfl (.int .i64 0) 8 Try.underlying66 infoI rfl (by decide) rfl rfl (ins_one _) (by omega) (by omega) ?_
                clear H hs1h
                intro N c3 wn H tn _
                clear tn
                replace H := H.lose [0]
                have hll : (l ++ [n.key]).length = l.length + 1 := by simp
                clear c1 s0 i0
                have i0 := H.t.old hi.out
                have c1 : World.cell? (_) ⟨d, 1, none⟩ = some _ := (hb.turns H.t (by simp)).cell 1
                obtain ⟨ad2, c2', hv2, _, hcell2⟩ := (H.own 1 rfl).reads.at_ (j := j) (r := [.int .i64 y]) hyr.out
                rw [ins_len] at hv2
                injection hv2 with e4 e5 e6
                cases e4
                have s0 := hcell2 0 _ rfl
                rw [Nat.mul_one, Nat.add_zero] at s0
                clear hcell2 e5 e6
                go_wp2_with fail
                go_quiet (fail)
                replace H := H.drewN nq
                generalize wn.drewN nq = wu at *
                go_wp2_with fail
                go_roundw
                case rel => exact ⟨j + 1, ((l ++ [n.key]), true), by omega, by go_num, by rw [hnx2h.out]; unfold kst; simp [hgeh.out, heqh.out], rfl, H⟩
                case measure => simp [RowKit.intOf]; omega
            · have g5 : (y == n.key) = false := by simp [heq]
              have g6 : (y != n.key) = true := by simp [heq]
              have heqh := Lib.hid heq
              clear heq
              cases dn with
              | true =>
                go_wp2_with fail
                go_quiet (fail)
                replace H := H.drewN nq
                generalize wr.drewN nq = wq at *
                clear c1 s0 i0
                have i0 := H.t.old hi.out
                have c1 : World.cell? (_) ⟨d, 1, none⟩ = some _ := (hb.turns H.t (by simp)).cell 1
                obtain ⟨ad2, c2', hv2, _, hcell2⟩ := (H.own 1 rfl).reads.at_ (j := j) (r := [.int .i64 y]) hyr.out
                rw [ins_len] at hv2
                injection hv2 with e4 e5 e6
                cases e4
                have s0 := hcell2 0 _ rfl
                rw [Nat.mul_one, Nat.add_zero] at s0
                clear hcell2 e5 e6
                go_wp2_with fail
                go_quiet (fail)
                replace H := H.drewN nq
                generalize wq.drewN nq = wu at *
                clear c1 s0 i0
                have i0 := H.t.old hi.out
                have c1 : World.cell? (_) ⟨d, 1, none⟩ = some _ := (hb.turns H.t (by simp)).cell 1
                obtain ⟨ad2, c2', hv2, _, hcell2⟩ := (H.own 1 rfl).reads.at_ (j := j) (r := [.int .i64 y]) hyr.out
                rw [ins_len] at hv2
                injection hv2 with e4 e5 e6
                cases e4
                have s0 := hcell2 0 _ rfl
                rw [Nat.mul_one, Nat.add_zero] at s0
                clear hcell2 e5 e6
                replace H := H.alloc #[.int .i64 (y)] 3
                have hs1 := oneI (H.blk 0 rfl)
                have hs1h := Lib.hid hs1
                clear hs1
                go_wp2_with (at_builtin; refine stop_ ?_)
                refine Mk_.mk ?_
                refine H.append 1 rfl hs1h.out (l.length + 1) (by simp) (ins (l ++ [y])) (by rw [ins_append]) rfl _ _ _ rfl (.int .i64 0) 8 Try.underlying66 infoI rfl (by decide) rfl rfl (ins_one _) (by omega) (by omega) ?_
                clear H hs1h
                intro N c3 wn H tn _
                clear tn
                replace H := H.lose [0]
                go_wp2_with fail
                go_roundw
                case rel => exact ⟨j + 1, ((l ++ [y]), true), by omega, by go_num, by rw [hnx2h.out]; unfold kst; simp [hgeh.out, heqh.out], rfl, H⟩
                case measure => simp [RowKit.intOf]; omega
              | false =>
                go_wp2_with fail
                go_quiet (fail)
                replace H := H.drewN nq
                generalize wr.drewN nq = wq at *
                clear c1 s0 i0
                have i0 := H.t.old hi.out
                have c1 : World.cell? (_) ⟨d, 1, none⟩ = some _ := (hb.turns H.t (by simp)).cell 1
                obtain ⟨ad2, c2', hv2, _, hcell2⟩ := (H.own 1 rfl).reads.at_ (j := j) (r := [.int .i64 y]) hyr.out
                rw [ins_len] at hv2
                injection hv2 with e4 e5 e6
                cases e4
                have s0 := hcell2 0 _ rfl
                rw [Nat.mul_one, Nat.add_zero] at s0
                clear hcell2 e5 e6
                replace H := H.alloc #[.int .i64 (n.key)] 3
                have hs1 := oneI (H.blk 0 rfl)
                have hs1h := Lib.hid hs1
                clear hs1
                go_wp2_with (at_builtin; refine stop_ ?_)
                refine Mk_.mk ?_
                refine H.append 1 rfl hs1h.out (l.length + 1) (by simp) (ins (l ++ [n.key])) (by rw [ins_append]) rfl _ _ _ rfl (.int .i64 0) 8 Try.underlying66 infoI rfl (by decide) rfl rfl (ins_one _) (by omega) (by omega) ?_
                clear H hs1h
                intro N c3 wn H tn _
                clear tn
                replace H := H.lose [0]
                have hll : (l ++ [n.key]).length = l.length + 1 := by simp
                clear c1 s0 i0
                have i0 := H.t.old hi.out
                have c1 : World.cell? (_) ⟨d, 1, none⟩ = some _ := (hb.turns H.t (by simp)).cell 1
                obtain ⟨ad2, c2', hv2, _, hcell2⟩ := (H.own 1 rfl).reads.at_ (j := j) (r := [.int .i64 y]) hyr.out
                rw [ins_len] at hv2
                injection hv2 with e4 e5 e6
                cases e4
                have s0 := hcell2 0 _ rfl
                rw [Nat.mul_one, Nat.add_zero] at s0
                clear hcell2 e5 e6
                go_wp2_with fail
                go_quiet (fail)
                replace H := H.drewN nq
                generalize wn.drewN nq = wu at *
                clear c1 s0 i0
                have i0 := H.t.old hi.out
                have c1 : World.cell? (_) ⟨d, 1, none⟩ = some _ := (hb.turns H.t (by simp)).cell 1
                obtain ⟨ad2, c2', hv2, _, hcell2⟩ := (H.own 1 rfl).reads.at_ (j := j) (r := [.int .i64 y]) hyr.out
                rw [ins_len] at hv2
                injection hv2 with e4 e5 e6
                cases e4
                have s0 := hcell2 0 _ rfl
                rw [Nat.mul_one, Nat.add_zero] at s0
                clear hcell2 e5 e6
                replace H := H.alloc #[.int .i64 (y)] 3
                have hs1 := oneI (H.blk 0 rfl)
                have hs1h := Lib.hid hs1
                clear hs1
                go_wp2_with (at_builtin; refine stop_ ?_)
                refine Mk_.mk ?_
                refine H.append 1 rfl hs1h.out ((l.length + 1) + 1) (by simp) (ins ((l ++ [n.key]) ++ [y])) (by rw [ins_append]) rfl _ _ _ rfl (.int .i64 0) 8 Try.underlying66 infoI rfl (by decide) rfl rfl (ins_one _) (by omega) (by omega) ?_
                clear H hs1h
                intro N c3 wn H tn _
                clear tn
                replace H := H.lose [0]
                go_wp2_with fail
                go_roundw
                case rel => exact ⟨j + 1, (((l ++ [n.key]) ++ [y]), true), by omega, by go_num, by rw [hnx2h.out]; unfold kst; simp [hgeh.out, heqh.out], rfl, H⟩
                case measure => simp [RowKit.intOf]; omega
          · have g4 : decide (y ≥ n.key) = false := decide_eq_false hge
            have hgeh := Lib.hid hge
            clear hge
            by_cases heq : y = n.key
            · have g5 : (y == n.key) = true := by simp [heq]
              have g6 : (y != n.key) = false := by simp [heq]
              have heqh := Lib.hid heq
              clear heq
              exact absurd (by have := heqh.out; have := hgeh.out; omega) not_false
            · have g5 : (y == n.key) = false := by simp [heq]
              have g6 : (y != n.key) = true := by simp [heq]
              have heqh := Lib.hid heq
              clear heq
              cases dn with
              | true =>
                go_wp2_with fail
                go_quiet (fail)
                replace H := H.drewN nq
                generalize wr.drewN nq = wq at *
                clear c1 s0 i0
                have i0 := H.t.old hi.out
                have c1 : World.cell? (_) ⟨d, 1, none⟩ = some _ := (hb.turns H.t (by simp)).cell 1
                obtain ⟨ad2, c2', hv2, _, hcell2⟩ := (H.own 1 rfl).reads.at_ (j := j) (r := [.int .i64 y]) hyr.out
                rw [ins_len] at hv2
                injection hv2 with e4 e5 e6
                cases e4
                have s0 := hcell2 0 _ rfl
                rw [Nat.mul_one, Nat.add_zero] at s0
                clear hcell2 e5 e6
                go_wp2_with fail
                go_quiet (fail)
                replace H := H.drewN nq
                generalize wq.drewN nq = wu at *
                clear c1 s0 i0
                have i0 := H.t.old hi.out
                have c1 : World.cell? (_) ⟨d, 1, none⟩ = some _ := (hb.turns H.t (by simp)).cell 1
                obtain ⟨ad2, c2', hv2, _, hcell2⟩ := (H.own 1 rfl).reads.at_ (j := j) (r := [.int .i64 y]) hyr.out
                rw [ins_len] at hv2
                injection hv2 with e4 e5 e6
                cases e4
                have s0 := hcell2 0 _ rfl
                rw [Nat.mul_one, Nat.add_zero] at s0
                clear hcell2 e5 e6
                replace H := H.alloc #[.int .i64 (y)] 3
                have hs1 := oneI (H.blk 0 rfl)
                have hs1h := Lib.hid hs1
                clear hs1
                go_wp2_with (at_builtin; refine stop_ ?_)
                refine Mk_.mk ?_
                refine H.append 1 rfl hs1h.out (l.length + 1) (by simp) (ins (l ++ [y])) (by rw [ins_append]) rfl _ _ _ rfl (.int .i64 0) 8 Try.underlying66 infoI rfl (by decide) rfl rfl (ins_one _) (by omega) (by omega) ?_
                clear H hs1h
                intro N c3 wn H tn _
                clear tn
                replace H := H.lose [0]
                go_wp2_with fail
                go_roundw
                case rel => exact ⟨j + 1, ((l ++ [y]), true), by omega, by go_num, by rw [hnx2h.out]; unfold kst; simp [Int.not_le.2 hgeh.out, heqh.out], rfl, H⟩
                case measure => simp [RowKit.intOf]; omega
              | false =>
                go_wp2_with fail
                go_quiet (fail)
                replace H := H.drewN nq
                generalize wr.drewN nq = wq at *
                clear c1 s0 i0
                have i0 := H.t.old hi.out
                have c1 : World.cell? (_) ⟨d, 1, none⟩ = some _ := (hb.turns H.t (by simp)).cell 1
                obtain ⟨ad2, c2', hv2, _, hcell2⟩ := (H.own 1 rfl).reads.at_ (j := j) (r := [.int .i64 y]) hyr.out
                rw [ins_len] at hv2
                injection hv2 with e4 e5 e6
                cases e4
                have s0 := hcell2 0 _ rfl
                rw [Nat.mul_one, Nat.add_zero] at s0
                clear hcell2 e5 e6
                go_wp2_with fail
                go_quiet (fail)
                replace H := H.drewN nq
                generalize wq.drewN nq = wu at *
                clear c1 s0 i0
                have i0 := H.t.old hi.out
                have c1 : World.cell? (_) ⟨d, 1, none⟩ = some _ := (hb.turns H.t (by simp)).cell 1
                obtain ⟨ad2, c2', hv2, _, hcell2⟩ := (H.own 1 rfl).reads.at_ (j := j) (r := [.int .i64 y]) hyr.out
                rw [ins_len] at hv2
                injection hv2 with e4 e5 e6
                cases e4
                have s0 := hcell2 0 _ rfl
                rw [Nat.mul_one, Nat.add_zero] at s0
                clear hcell2 e5 e6
                replace H := H.alloc #[.int .i64 (y)] 3
                have hs1 := oneI (H.blk 0 rfl)
                have hs1h := Lib.hid hs1
                clear hs1
                go_wp2_with (at_builtin; refine stop_ ?_)
                refine Mk_.mk ?_
                refine H.append 1 rfl hs1h.out (l.length + 1) (by simp) (ins (l ++ [y])) (by rw [ins_append]) rfl _ _ _ rfl (.int .i64 0) 8 Try.underlying66 infoI rfl (by decide) rfl rfl (ins_one _) (by omega) (by omega) ?_
                clear H hs1h
                intro N c3 wn H tn _
                clear tn
                replace H := H.lose [0]
                go_wp2_with fail
                go_roundw
                case rel => exact ⟨j + 1, ((l ++ [y]), false), by omega, by go_num, by rw [hnx2h.out]; unfold kst; simp [Int.not_le.2 hgeh.out, heqh.out], rfl, H⟩
                case measure => simp [RowKit.intOf]; omega
        · obtain rfl : j = S.length := by omega
          have g3 : decide ((S.length : Int) < (S.length : Int)) = false := by simp
          obtain ⟨l, dn⟩ := a
          have hal : l.length ≤ 300000 := by have := kst_len n.key (S.take S.length) ([], false); rw [← hah.out, List.length_take] at this; simp at this; omega
          have hah2 := Lib.hid (show (l, dn) = S.foldl (kst n.key) ([], false) by have := hah.out; rwa [List.take_length] at this)
          clear hah
          cases dn with
          | true =>
            replace H := H.keep [0]
            go_wp2_with fail
            go_roundw
            case rel => exact ⟨k + 1, l, by omega, by go_num, by rw [hnxh.out]; unfold rks kin; rw [← hah2.out]; rfl, H⟩
            case measure => simp [RowKit.intOf]; omega
          | false =>
            clear c1 i0
            have i0 := H.t.old hi.out
            have c1 : World.cell? (_) ⟨d, 1, none⟩ = some _ := (hb.turns H.t (by simp)).cell 1
            replace H := H.alloc #[.int .i64 (n.key)] 3
            have hs1 := oneI (H.blk 0 rfl)
            have hs1h := Lib.hid hs1
            clear hs1
            go_wp2_with (at_builtin; refine stop_ ?_)
            refine Mk_.mk ?_
            refine H.append 1 rfl hs1h.out (l.length + 1) (by simp) (ins (l ++ [n.key])) (by rw [ins_append]) rfl _ _ _ rfl (.int .i64 0) 8 Try.underlying66 infoI rfl (by decide) rfl rfl (ins_one _) (by omega) (by omega) ?_
            clear H hs1h
            intro N c3 wn H tn _
            clear tn
            replace H := H.lose [0]
            replace H := H.keep [0]
            go_wp2_with fail
            go_roundw
            case rel => exact ⟨k + 1, (l ++ [n.key]), by omega, by go_num, by rw [hnxh.out]; unfold rks kin; rw [← hah2.out]; rfl, H⟩
            case measure => simp [RowKit.intOf]; omega
    · obtain rfl : k = NS.length := by omega
      have g1 : decide ((NS.length : Int) < (NS.length : Int)) = false := by simp
      have hfin : S = rkeys NS := by rw [hSh.out, List.take_length]; rfl
      subst hfin
      have O := H.own 0 rfl
      have T := H.t
      have Mi : ∀ q, (Value.slice B (rkeys NS).length c2).ownBlock = some q → w.heap.size ≤ q := fun q hq => by
        have := H.mine q (by simp [fps, tOwn, hq])
        simpa using this
      clear H
      go_wp2_with fail
      go_ret
      exact ⟨_, rfl, O, T, Mi⟩
theorem rkeys_eq (l : List It) : Qo.keysQ l = rkeys l := by
  obtain ⟨h1, h2⟩ := rks_ok l [] (by simp)
  refine sorted_ext (Ss.onces_sorted _) h1 (fun x => ?_)
  unfold Qo.keysQ
  rw [Ss.onces_mem]
  show _ ↔ x ∈ l.foldl rks []
  rw [h2 x]
  simp
end Go.Proofs.Ytoojemdehmabhaa.Qs
