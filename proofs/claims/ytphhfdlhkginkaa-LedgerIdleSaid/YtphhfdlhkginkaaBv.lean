/- The ledger's Settle. -/
import Derived.Test.YtphhfdlhkginkaaBu
import Derived.Test.YtphhfdlhkginkaaBe
set_option linter.unusedVariables false
set_option linter.unusedSimpArgs false
set_option maxRecDepth 100000
namespace Go.Proofs.Ytphhfdlhkginkaa.Bv
open Go.RowKit Go.MapKept Hm Hs Hf Hx Hy Hv Hz Hu Fa Ff Fq Ba Bb Bc Bi Bj Bl Bu Be Sm Sat
/-- leases of one's own -/
theorem rowS_own {G : List Nat} {w : World} {r : Row} {l : List (Int × Int)} {A : Option Addr} {n c : Nat} (O : OwnS 76 2 w (.slice A n c) (lss l)) (hG : ∀ k, (Value.slice A n c).ownBlock = some k → k ∉ G) (a m : Int) (hl : r.out = l) (ha : a = r.avail) (hm : m = r.mark) : RowS G w ⟨r.key, a, m, .slice A n c⟩ r :=
  fun W t => ⟨rfl, ha, hm, by rw [hl]; exact (O.turns t hG).reads⟩
set_option maxHeartbeats 8000000 in
theorem settle_is (G : List Nat) (w : World) (start key node spent : Int) (v : Value) (R : List Row) (hs : RTS G w v R) (hG : ∀ k ∈ G, k < w.heap.size) (hok : Ok R) (h0 : -9223372036854775808 ≤ node) (h9 : node ≤ 9223372036854775807) : Calls Try.prog 32 #[.agg #[.int .i64 start, v], .int .i64 key, .int .i64 node, .int .i64 spent] w fun e w' => ∃ v', e = .returned (.tuple #[.agg #[.int .i64 start, v'], .int .i64 (settleR start R key node spent).2]) ∧ RTS G w' v' (settleR start R key node spent).1 ∧ Turns [] w w' := by
  have h := hs.rt
  have hGh := Lib.hid hG
  obtain ⟨A, cc, rfl, hlc, hcm⟩ := h.form
  have hRl := hok.len
  have hro := rwAt_ok (start := start) hok key
  obtain ⟨V, hV⟩ : ∃ V : Ending → World → Prop, V = fun e w' => ∃ v', e = .returned (.tuple #[.agg #[.int .i64 start, v'], .int .i64 (settleR start R key node spent).2]) ∧ RTS G w' v' (settleR start R key node spent).1 ∧ Turns [] w w' := ⟨_, rfl⟩
  rw [← hV]
  have hVh : Hid (∀ w' v' R' n, settleR start R key node spent = (R', n) → RTS G w' v' R' → Turns [] w w' → V (.returned (.tuple #[.agg #[.int .i64 start, v'], .int .i64 n])) w') := Lib.hid (fun w' v' R' n h1 h2 h3 => by rw [hV, h1]; exact ⟨v', rfl, h2, h3⟩)
  have H := ((Sep.start w).alloc #[.int .i64 start, .slice A R.length cc] 24).alloc #[.int .i64 0, .slice none 0 0] 24
  rw [World.size_alloc] at H
  have hF := Lib.hid (find_is ([w.heap.size + 1] ++ G) w _ start key _ R (RTS.more hs (Turns.refl _ _) (by intro k hk; rw [List.mem_singleton.1 hk]; omega)) H.t)
  have Hh := Lib.hid H
  have hh := Lib.hid hs
  have hokh := Lib.hid hok
  have hset := Lib.hid (fun (h : leaseR (rwAt start R key).out node = false) => settle_no (spent := spent) h)
  have hsety := Lib.hid (fun x (h : leaseR (rwAt start R key).out node = true) hx => settle_yes (start := start) (R := R) (key := key) (node := node) (spent := spent) (x := x) h hx)
  obtain ⟨r, hr⟩ : ∃ r, rwAt start R key = r := ⟨_, rfl⟩
  rw [hr] at hF hro hset hsety
  have hroh := Lib.hid hro
  have hol := hro.len
  have a0 : World.cell? ((w.alloc (.cells #[.int .i64 start, .slice A R.length cc] 24)).alloc (.cells #[.int .i64 0, .slice none 0 0] 24)) ⟨w.heap.size, 0, none⟩ = some _ := (H.blk 1 rfl).cell 0
  have a1 : World.cell? ((w.alloc (.cells #[.int .i64 start, .slice A R.length cc] 24)).alloc (.cells #[.int .i64 0, .slice none 0 0] 24)) ⟨w.heap.size, 1, none⟩ = some _ := (H.blk 1 rfl).cell 1
  clear h H hok hV hr hro hs hG
  go_enter Try.func32, Try.ntmps32
  go_wp2_with fail
  go_at_call 11
  refine Calls.mono (hF.out) ?_
  rintro e w1 ⟨x, rfl, hx, t1⟩
  obtain ⟨Ao, co, rfl, ho⟩ := row_form hx.row
  simp only [Rw.v]
  have H1 := Lib.hid ((Hh.out.turns t1).alloc #[.int .i64 r.key, .int .i64 r.avail, .int .i64 r.mark, .slice Ao r.out.length co] 38)
  have hL := lease_is _ _ r node (hx.row.turns H1.out.t) hroh.out h0 h9
  simp only [Rw.v] at hL
  have hLh := Lib.hid hL
  have hxh := Lib.hid hx
  have b0 : World.cell? (w1.alloc (.cells #[.int .i64 r.key, .int .i64 r.avail, .int .i64 r.mark, .slice Ao r.out.length co] 38)) ⟨w.heap.size, 0, none⟩ = some _ := (H1.out.blk 2 rfl).cell 0
  have b1 : World.cell? (w1.alloc (.cells #[.int .i64 r.key, .int .i64 r.avail, .int .i64 r.mark, .slice Ao r.out.length co] 38)) ⟨w.heap.size, 1, none⟩ = some _ := (H1.out.blk 2 rfl).cell 1
  clear a0 a1 hF Hh t1 ho hL hx
  go_wp2_with fail
  go_at_call 43
  refine Calls.mono (hLh.out) ?_
  rintro e w2 ⟨i, rfl, hi, t2⟩
  have H2 := Lib.hid (H1.out.turns t2)
  have hih := Lib.hid hi
  generalize hb9 : w1.heap.size = b9 at *
  clear b0 b1 H1 hLh t2 hi
  have a0 : World.cell? (w2) ⟨w.heap.size, 0, none⟩ = some _ := (H2.out.blk 2 rfl).cell 0
  have a1 : World.cell? (w2) ⟨w.heap.size, 1, none⟩ = some _ := (H2.out.blk 2 rfl).cell 1
  have d0 : World.cell? (w2) ⟨b9, 0, none⟩ = some _ := (H2.out.blk 0 rfl).cell 0
  have d1 : World.cell? (w2) ⟨b9, 1, none⟩ = some _ := (H2.out.blk 0 rfl).cell 1
  have d2 : World.cell? (w2) ⟨b9, 2, none⟩ = some _ := (H2.out.blk 0 rfl).cell 2
  have d3 : World.cell? (w2) ⟨b9, 3, none⟩ = some _ := (H2.out.blk 0 rfl).cell 3
  cases hle : leaseR r.out node with
  | false =>
    have hm := Lib.hid (hset.out hle)
    have z0 : World.cell? (w2) ⟨w.heap.size + 1, 0, none⟩ = some _ := (H2.out.blk 1 rfl).cell 0
    have zf0 : World.frozen? (w2) ⟨w.heap.size + 1, 0, none⟩ = false := (H2.out.blk 1 rfl).frozen 0
    have z1 : World.cell? (w2) ⟨w.heap.size + 1, 1, none⟩ = some _ := (H2.out.blk 1 rfl).cell 1
    have zf1 : World.frozen? (w2) ⟨w.heap.size + 1, 1, none⟩ = false := (H2.out.blk 1 rfl).frozen 1
    have H3 := (H2.out.set 1 rfl 0 (.int .i64 start)).set 1 rfl 1 (.slice A R.length cc)
    have hB := H3.blk 1 rfl
    have hX := hVh.out _ (.slice A R.length cc) R 0 hm.out (hh.out.turns H3.t) H3.t
    clear H3 H2 hVh hh hokh hm hset hsety hxh hroh hih
    go_wp2_with fail
    refine bodyPost_ret (res_list (rs := [.cell 8 24, .tmp 9]) rfl (by simp) (.cell (w.heap.size + 1) _ _ _ rfl hB Try.underlying24 rfl (by kernel_rfl) (.tmp .nil))) rfl ?_
    exact hX
  | true =>
    obtain ⟨p, hp, hpn⟩ := leaseR_true hle
    have hnb := hroh.out.node p (List.mem_of_getElem? hp)
    have hab := hroh.out.amt p (List.mem_of_getElem? hp)
    have hi2 := hih.out (by omega)
    have hlt : i < r.out.length := by rw [hi2]; exact (List.getElem?_eq_some_iff.1 hp).1
    have hset2 := Lib.hid (hsety.out p hle hp)
    rw [← hi2] at hp
    have hi2h := Lib.hid hi2
    obtain ⟨ad, c', hv, LX⟩ := ls_at (hxh.out.row.turns H2.out.t).out hp
    injection hv with e1 e2 e3
    subst e1 e3
    obtain ⟨x0, x1⟩ := LX
    clear e2 hset hsety hih hpn hle hp hi2
    have K1 := Lib.hid (cloneLs_is w2 (.slice (some ad) r.out.length co) r.out (hxh.out.row.turns H2.out.t).out (by omega))
    by_cases hneg : spent < 0
    · have g1 := decide_eq_true hneg
      have hsp0 : spentR p.2 spent = p.2 := by unfold spentR; rw [if_pos hneg]
      have hmn : min p.2 p.2 = p.2 := Int.min_self _
      clear hneg
      go_wp2_with fail
      go_at_call 61
      refine Calls.mono (K1.out) ?_
      rintro e w3 ⟨u, rfl, o3, t3, hb3⟩
      have H3 := Lib.hid (H2.out.newSlice t3 o3 hb3)
      have D1 := Lib.hid (delete_is w3 u r.out i o3 hlt (by omega))
      clear K1 H2 t3 o3 hb3 x0 x1 a0 a1 d0 d1 d2 d3
      go_wp2_with fail
      go_at_call 62
      refine Calls.mono (D1.out) ?_
      rintro e w4 ⟨u', rfl, o4, t4, hb4⟩
      have H4 := H3.out.slice 0 rfl o4 t4 (.inl hb4)
      obtain ⟨A4, c4, hu, _⟩ := o4.form
      obtain ⟨L4, hL4⟩ : ∃ L4, (lss (r.out.eraseIdx i)).length = L4 := ⟨_, rfl⟩
      rw [hL4] at hu
      subst hu
      have H4h := Lib.hid H4
      clear D1 H3 o4 t4 hb4 H4 hL4
      have d0 : World.cell? (w4) ⟨b9, 0, none⟩ = some _ := (H4h.out.blk 1 rfl).cell 0
      have d1 : World.cell? (w4) ⟨b9, 1, none⟩ = some _ := (H4h.out.blk 1 rfl).cell 1
      have d2 : World.cell? (w4) ⟨b9, 2, none⟩ = some _ := (H4h.out.blk 1 rfl).cell 2
      have d3 : World.cell? (w4) ⟨b9, 3, none⟩ = some _ := (H4h.out.blk 1 rfl).cell 3
      have df3 : World.frozen? (w4) ⟨b9, 3, none⟩ = false := (H4h.out.blk 1 rfl).frozen 3
      have H5 := Lib.hid (H4h.out.set 1 rfl 3 (.slice A4 L4 c4))
      clear H4h
      go_upto_region 10 with fail
      generalize w4.setCell ⟨b9, 3, none⟩ (.slice A4 L4 c4) = w5 at *
      clear d0 d1 d2 d3 df3
      have d0 : World.cell? (w5) ⟨b9, 0, none⟩ = some _ := (H5.out.blk 1 rfl).cell 0
      have d1 : World.cell? (w5) ⟨b9, 1, none⟩ = some _ := (H5.out.blk 1 rfl).cell 1
      have hwr : IntKind.i64.wrap (p.2 - p.2) = p.2 - p.2 := IntWalk.i64_in _ (by omega)
      obtain ⟨df, hdf⟩ : ∃ df, p.2 - p.2 = df := ⟨_, rfl⟩
      rw [hdf] at hwr
      have hwr2 : wrap64 df = df := by unfold wrap64; omega
      have I0 := H5.out.alloc #[.int .i64 r.avail, .int .i64 df] 3
      have IA := add_is _ [r.avail, df] 2 _ (IRow.of_blk (xs := [r.avail, df]) (I0.blk 0 rfl) rfl (by simp))
      rw [sum_two] at IA
      obtain ⟨av, hav⟩ : ∃ av, two r.avail df = av := ⟨_, rfl⟩
      rw [hav] at IA
      have IAh := Lib.hid IA
      have I0h := Lib.hid I0
      have hsp := Lib.hid (show settledR r node spent p = ⟨r.key, av, r.mark, r.out.eraseIdx i⟩ by unfold settledR; rw [hsp0, hdf, hav, hi2h.out])
      have hsn := Lib.hid hsp0
      clear IA I0 hav
      go_wp2_with fail
      go_at_call 39
      refine Calls.mono (IAh.out) ?_
      rintro e w6 ⟨rfl, t6⟩
      have H6 := Lib.hid ((I0h.out.turns t6).keep [1, 2, 3, 4])
      clear I0h IAh t6 H5 d0 d1
      have d0 : World.cell? (w6) ⟨b9, 0, none⟩ = some _ := (H6.out.blk 1 rfl).cell 0
      have d1 : World.cell? (w6) ⟨b9, 1, none⟩ = some _ := (H6.out.blk 1 rfl).cell 1
      have df1 : World.frozen? (w6) ⟨b9, 1, none⟩ = false := (H6.out.blk 1 rfl).frozen 1
      have d2 : World.cell? (w6) ⟨b9, 2, none⟩ = some _ := (H6.out.blk 1 rfl).cell 2
      have d3 : World.cell? (w6) ⟨b9, 3, none⟩ = some _ := (H6.out.blk 1 rfl).cell 3
      have H7 := Lib.hid (H6.out.set 1 rfl 1 (.int .i64 av))
      clear H6
      go_upto_region 11 with fail
      generalize w6.setCell ⟨b9, 1, none⟩ (.int .i64 av) = w7 at *
      clear d0 d1 d2 d3 df1
      have d0 : World.cell? (w7) ⟨b9, 0, none⟩ = some _ := (H7.out.blk 1 rfl).cell 0
      have d1 : World.cell? (w7) ⟨b9, 1, none⟩ = some _ := (H7.out.blk 1 rfl).cell 1
      have d2 : World.cell? (w7) ⟨b9, 2, none⟩ = some _ := (H7.out.blk 1 rfl).cell 2
      have d3 : World.cell? (w7) ⟨b9, 3, none⟩ = some _ := (H7.out.blk 1 rfl).cell 3
      have a0 : World.cell? (w7) ⟨w.heap.size, 0, none⟩ = some _ := (H7.out.blk 3 rfl).cell 0
      have a1 : World.cell? (w7) ⟨w.heap.size, 1, none⟩ = some _ := (H7.out.blk 3 rfl).cell 1
      have hzl := Blk.lt (H7.out.blk 2 rfl)
      have hne : ∀ k, (Value.slice A4 L4 c4).ownBlock = some k → k ∉ [w.heap.size + 1] ++ G := fun k hk hm => by
        rcases List.mem_append.1 hm with hm | hm
        · have hz := H7.out.ap
          rw [List.mem_singleton.1 hm] at hk
          have h1 := (List.pairwise_cons.1 hz).1 (tBlk (w.heap.size + 1) #[.int .i64 0, .slice none 0 0] 24) (List.mem_of_getElem? (i := 1) rfl) (w.heap.size + 1) (by simpa [tOwn] using hk)
          exact h1 (by simp [tBlk])
        · rcases mine_own H7.out 0 rfl k hk with h1 | h1
          · cases h1
          · have := hGh.out k hm; omega
      have hRS : RowS ([w.heap.size + 1] ++ G) w7 ⟨r.key, av, r.mark, .slice A4 L4 c4⟩ (settledR r node spent p) := by
        rw [hsp.out]
        exact fun W t => ⟨rfl, rfl, rfl, ((H7.out.own 0 rfl).turns t hne).reads⟩
      have Wi := with_is ([w.heap.size + 1] ++ G) w7 start (.slice A R.length cc) R _ _ (RTS.more hh.out H7.out.t (by intro k hk; rw [List.mem_singleton.1 hk]; omega)) hRS (gl hzl H7.out.t hGh.out) (by omega)
      simp only [Rw.v] at Wi
      have Wih := Lib.hid Wi
      clear hRS Wi hne
      go_wp2_with fail
      go_at_call 59
      refine Calls.mono (Wih.out) ?_
      rintro e w8 ⟨v', rfl, hT, t8⟩
      obtain ⟨A', c', hv', _⟩ := hT.rt.form
      obtain ⟨L', hL'⟩ : ∃ L', (withR R (settledR r node spent p)).length = L' := ⟨_, rfl⟩
      rw [hL'] at hv'
      subst hv'
      have H8 := H7.out.turns t8
      clear hL' Wih H7 t8 d0 d1 d2 d3 a0 a1
      have z0 : World.cell? (w8) ⟨w.heap.size + 1, 0, none⟩ = some _ := (H8.blk 2 rfl).cell 0
      have zf0 : World.frozen? (w8) ⟨w.heap.size + 1, 0, none⟩ = false := (H8.blk 2 rfl).frozen 0
      have z1 : World.cell? (w8) ⟨w.heap.size + 1, 1, none⟩ = some _ := (H8.blk 2 rfl).cell 1
      have zf1 : World.frozen? (w8) ⟨w.heap.size + 1, 1, none⟩ = false := (H8.blk 2 rfl).frozen 1
      have H9 := (H8.set 2 rfl 0 (.int .i64 start)).set 2 rfl 1 (.slice A' L' c')
      have hB := H9.blk 2 rfl
      have T9 := ((Turns.refl [w.heap.size + 1] w8).setCell (p := ⟨w.heap.size + 1, 0, none⟩) (by simp) (.int .i64 start)).setCell (p := ⟨w.heap.size + 1, 1, none⟩) (by simp) (.slice A' L' c')
      have hX := hVh.out _ (.slice A' L' c') _ (p.2) (by rw [hset2.out, hsn.out]) (RTS.less hT T9) H9.t
      clear H8 H9 T9 hVh hh hokh hroh hset2 hsn hsp hxh hi2h
      go_wp2_with fail
      refine bodyPost_ret (res_list (rs := [.cell 8 24, .tmp 9]) rfl (by simp) (.cell (w.heap.size + 1) _ _ _ rfl hB Try.underlying24 rfl (by kernel_rfl) (.tmp .nil))) rfl ?_
      exact hX
    · have g1 := decide_eq_false hneg
      obtain ⟨s, hs⟩ : ∃ s, min spent p.2 = s := ⟨_, rfl⟩
      have hsb : 0 ≤ s ∧ s ≤ p.2 := by omega
      have hsp0 : spentR p.2 spent = s := by unfold spentR; rw [if_neg hneg, hs]
      clear hneg
      go_wp2_with fail
      go_at_call 61
      refine Calls.mono (K1.out) ?_
      rintro e w3 ⟨u, rfl, o3, t3, hb3⟩
      have H3 := Lib.hid (H2.out.newSlice t3 o3 hb3)
      have D1 := Lib.hid (delete_is w3 u r.out i o3 hlt (by omega))
      clear K1 H2 t3 o3 hb3 x0 x1 a0 a1 d0 d1 d2 d3
      go_wp2_with fail
      go_at_call 62
      refine Calls.mono (D1.out) ?_
      rintro e w4 ⟨u', rfl, o4, t4, hb4⟩
      have H4 := H3.out.slice 0 rfl o4 t4 (.inl hb4)
      obtain ⟨A4, c4, hu, _⟩ := o4.form
      obtain ⟨L4, hL4⟩ : ∃ L4, (lss (r.out.eraseIdx i)).length = L4 := ⟨_, rfl⟩
      rw [hL4] at hu
      subst hu
      have H4h := Lib.hid H4
      clear D1 H3 o4 t4 hb4 H4 hL4
      have d0 : World.cell? (w4) ⟨b9, 0, none⟩ = some _ := (H4h.out.blk 1 rfl).cell 0
      have d1 : World.cell? (w4) ⟨b9, 1, none⟩ = some _ := (H4h.out.blk 1 rfl).cell 1
      have d2 : World.cell? (w4) ⟨b9, 2, none⟩ = some _ := (H4h.out.blk 1 rfl).cell 2
      have d3 : World.cell? (w4) ⟨b9, 3, none⟩ = some _ := (H4h.out.blk 1 rfl).cell 3
      have df3 : World.frozen? (w4) ⟨b9, 3, none⟩ = false := (H4h.out.blk 1 rfl).frozen 3
      have H5 := Lib.hid (H4h.out.set 1 rfl 3 (.slice A4 L4 c4))
      clear H4h
      go_upto_region 10 with fail
      generalize w4.setCell ⟨b9, 3, none⟩ (.slice A4 L4 c4) = w5 at *
      clear d0 d1 d2 d3 df3
      have d0 : World.cell? (w5) ⟨b9, 0, none⟩ = some _ := (H5.out.blk 1 rfl).cell 0
      have d1 : World.cell? (w5) ⟨b9, 1, none⟩ = some _ := (H5.out.blk 1 rfl).cell 1
      have hwr : IntKind.i64.wrap (p.2 - s) = p.2 - s := IntWalk.i64_in _ (by omega)
      obtain ⟨df, hdf⟩ : ∃ df, p.2 - s = df := ⟨_, rfl⟩
      rw [hdf] at hwr
      have hwr2 : wrap64 df = df := by unfold wrap64; omega
      have I0 := H5.out.alloc #[.int .i64 r.avail, .int .i64 df] 3
      have IA := add_is _ [r.avail, df] 2 _ (IRow.of_blk (xs := [r.avail, df]) (I0.blk 0 rfl) rfl (by simp))
      rw [sum_two] at IA
      obtain ⟨av, hav⟩ : ∃ av, two r.avail df = av := ⟨_, rfl⟩
      rw [hav] at IA
      have IAh := Lib.hid IA
      have I0h := Lib.hid I0
      have hsp := Lib.hid (show settledR r node spent p = ⟨r.key, av, r.mark, r.out.eraseIdx i⟩ by unfold settledR; rw [hsp0, hdf, hav, hi2h.out])
      have hsn := Lib.hid hsp0
      clear IA I0 hav
      go_wp2_with fail
      go_at_call 39
      refine Calls.mono (IAh.out) ?_
      rintro e w6 ⟨rfl, t6⟩
      have H6 := Lib.hid ((I0h.out.turns t6).keep [1, 2, 3, 4])
      clear I0h IAh t6 H5 d0 d1
      have d0 : World.cell? (w6) ⟨b9, 0, none⟩ = some _ := (H6.out.blk 1 rfl).cell 0
      have d1 : World.cell? (w6) ⟨b9, 1, none⟩ = some _ := (H6.out.blk 1 rfl).cell 1
      have df1 : World.frozen? (w6) ⟨b9, 1, none⟩ = false := (H6.out.blk 1 rfl).frozen 1
      have d2 : World.cell? (w6) ⟨b9, 2, none⟩ = some _ := (H6.out.blk 1 rfl).cell 2
      have d3 : World.cell? (w6) ⟨b9, 3, none⟩ = some _ := (H6.out.blk 1 rfl).cell 3
      have H7 := Lib.hid (H6.out.set 1 rfl 1 (.int .i64 av))
      clear H6
      go_upto_region 11 with fail
      generalize w6.setCell ⟨b9, 1, none⟩ (.int .i64 av) = w7 at *
      clear d0 d1 d2 d3 df1
      have d0 : World.cell? (w7) ⟨b9, 0, none⟩ = some _ := (H7.out.blk 1 rfl).cell 0
      have d1 : World.cell? (w7) ⟨b9, 1, none⟩ = some _ := (H7.out.blk 1 rfl).cell 1
      have d2 : World.cell? (w7) ⟨b9, 2, none⟩ = some _ := (H7.out.blk 1 rfl).cell 2
      have d3 : World.cell? (w7) ⟨b9, 3, none⟩ = some _ := (H7.out.blk 1 rfl).cell 3
      have a0 : World.cell? (w7) ⟨w.heap.size, 0, none⟩ = some _ := (H7.out.blk 3 rfl).cell 0
      have a1 : World.cell? (w7) ⟨w.heap.size, 1, none⟩ = some _ := (H7.out.blk 3 rfl).cell 1
      have hzl := Blk.lt (H7.out.blk 2 rfl)
      have hne : ∀ k, (Value.slice A4 L4 c4).ownBlock = some k → k ∉ [w.heap.size + 1] ++ G := fun k hk hm => by
        rcases List.mem_append.1 hm with hm | hm
        · have hz := H7.out.ap
          rw [List.mem_singleton.1 hm] at hk
          have h1 := (List.pairwise_cons.1 hz).1 (tBlk (w.heap.size + 1) #[.int .i64 0, .slice none 0 0] 24) (List.mem_of_getElem? (i := 1) rfl) (w.heap.size + 1) (by simpa [tOwn] using hk)
          exact h1 (by simp [tBlk])
        · rcases mine_own H7.out 0 rfl k hk with h1 | h1
          · cases h1
          · have := hGh.out k hm; omega
      have hRS : RowS ([w.heap.size + 1] ++ G) w7 ⟨r.key, av, r.mark, .slice A4 L4 c4⟩ (settledR r node spent p) := by
        rw [hsp.out]
        exact fun W t => ⟨rfl, rfl, rfl, ((H7.out.own 0 rfl).turns t hne).reads⟩
      have Wi := with_is ([w.heap.size + 1] ++ G) w7 start (.slice A R.length cc) R _ _ (RTS.more hh.out H7.out.t (by intro k hk; rw [List.mem_singleton.1 hk]; omega)) hRS (gl hzl H7.out.t hGh.out) (by omega)
      simp only [Rw.v] at Wi
      have Wih := Lib.hid Wi
      clear hRS Wi hne
      go_wp2_with fail
      go_at_call 59
      refine Calls.mono (Wih.out) ?_
      rintro e w8 ⟨v', rfl, hT, t8⟩
      obtain ⟨A', c', hv', _⟩ := hT.rt.form
      obtain ⟨L', hL'⟩ : ∃ L', (withR R (settledR r node spent p)).length = L' := ⟨_, rfl⟩
      rw [hL'] at hv'
      subst hv'
      have H8 := H7.out.turns t8
      clear hL' Wih H7 t8 d0 d1 d2 d3 a0 a1
      have z0 : World.cell? (w8) ⟨w.heap.size + 1, 0, none⟩ = some _ := (H8.blk 2 rfl).cell 0
      have zf0 : World.frozen? (w8) ⟨w.heap.size + 1, 0, none⟩ = false := (H8.blk 2 rfl).frozen 0
      have z1 : World.cell? (w8) ⟨w.heap.size + 1, 1, none⟩ = some _ := (H8.blk 2 rfl).cell 1
      have zf1 : World.frozen? (w8) ⟨w.heap.size + 1, 1, none⟩ = false := (H8.blk 2 rfl).frozen 1
      have H9 := (H8.set 2 rfl 0 (.int .i64 start)).set 2 rfl 1 (.slice A' L' c')
      have hB := H9.blk 2 rfl
      have T9 := ((Turns.refl [w.heap.size + 1] w8).setCell (p := ⟨w.heap.size + 1, 0, none⟩) (by simp) (.int .i64 start)).setCell (p := ⟨w.heap.size + 1, 1, none⟩) (by simp) (.slice A' L' c')
      have hX := hVh.out _ (.slice A' L' c') _ (s) (by rw [hset2.out, hsn.out]) (RTS.less hT T9) H9.t
      clear H8 H9 T9 hVh hh hokh hroh hset2 hsn hsp hxh hi2h
      go_wp2_with fail
      refine bodyPost_ret (res_list (rs := [.cell 8 24, .tmp 9]) rfl (by simp) (.cell (w.heap.size + 1) _ _ _ rfl hB Try.underlying24 rfl (by kernel_rfl) (.tmp .nil))) rfl ?_
      exact hX
end Go.Proofs.Ytphhfdlhkginkaa.Bv
