/- The document's Settle. -/
import Derived.Test.YtphhfdlhkginkaaBk
import Derived.Test.YtphhfdlhkginkaaBd
import Derived.Test.YtphhfdlhkginkaaBl
import Derived.Test.YtphhfdlhkginkaaBv
set_option linter.unusedVariables false
set_option linter.unusedSimpArgs false
set_option maxRecDepth 100000
namespace Go.Proofs.Ytphhfdlhkginkaa.Bx
open Go.RowKit Go.MapKept Hm Hs Hf Hx Hy Hv Hz Hu Fa Ff Fq Ba Bb Bc Bd Bi Bj Bk Bl Bv Sm Sat
theorem er_skip {α : Type} (l : List α) (i : Nat) : (l.take (i + 1)).eraseIdx i = (l.take i).eraseIdx i := by
  rw [List.eraseIdx_of_length_le (l := l.take i) (by rw [List.length_take]; omega)]
  by_cases h : i < l.length
  · rw [List.take_succ_eq_append_getElem h]
    have e : (l.take i).length = i := by rw [List.length_take]; omega
    rw [List.eraseIdx_append_of_length_le (by omega), e]
    simp
  · rw [List.take_of_length_le (by omega), List.take_of_length_le (by omega), List.eraseIdx_of_length_le (by omega)]
theorem er_push {α : Type} {l : List α} {i k : Nat} {x : α} (hx : l[k]? = some x) (h : k ≠ i) : (l.take (k + 1)).eraseIdx i = (l.take k).eraseIdx i ++ [x] := by
  have hk := (List.getElem?_eq_some_iff.1 hx).1
  have e : (l.take k).length = k := by rw [List.length_take]; omega
  rw [take_next hx]
  by_cases h2 : k < i
  · rw [List.eraseIdx_of_length_le (by rw [List.length_append, e]; simp; omega), List.eraseIdx_of_length_le (by omega)]
  · rw [List.eraseIdx_append_of_lt_length (by omega)]
theorem one_ls {w : World} {b : Nat} {x : Int × Int} (h : Blk w b #[.int .i64 x.1, .int .i64 x.2] 76) : RdS 2 w (.slice (some ⟨b, 0, none⟩) 1 1) (lss [x]) :=
  RdS.of_cells (rows := lss [x]) h rfl (by simp [lss]) 1 (by simp [lss]) (by decide)
theorem lease_at {start : Int} {R : List Row} {key node : Int} (h : leaseR (rwAt start R key).out node = true) : isAt R key = true := by
  cases hk : isAt R key with
  | true => rfl
  | false =>
    rw [rwAt_no hk] at h
    simp [leaseR, pln] at h
theorem ixL_neg (l : List (Int × Int)) (node : Int) : decide (ixL l node < 0) = !leaseR l node := by
  unfold ixL
  cases leaseR l node
  · rfl
  · simp
set_option maxHeartbeats 8000000 in
theorem rsettle_is (G : List Nat) (w : World) (start key node spent : Int) (v : Value) (R : List Row) (hs : RTS G w v R) (hG : ∀ k ∈ G, k < w.heap.size) (hok : Ok R) : Calls Try.prog 34 #[.agg #[.int .i64 start, v], .int .i64 key, .int .i64 node, .int .i64 spent] w fun e w' => ∃ v', e = .returned (.tuple #[.agg #[.int .i64 start, v'], .int .i64 (settleR start R key node spent).2]) ∧ RTS G w' v' (settleR start R key node spent).1 ∧ Turns [] w w' := by
  have h := hs.rt
  have hGh := Lib.hid hG
  obtain ⟨A, cc, rfl, hlc, hcm⟩ := h.form
  have hRl := hok.len
  have hro := rwAt_ok (start := start) hok key
  obtain ⟨V, hV⟩ : ∃ V : Ending → World → Prop, V = fun e w' => ∃ v', e = .returned (.tuple #[.agg #[.int .i64 start, v'], .int .i64 (settleR start R key node spent).2]) ∧ RTS G w' v' (settleR start R key node spent).1 ∧ Turns [] w w' := ⟨_, rfl⟩
  rw [← hV]
  have hVh : Hid (∀ w' v' R' n, settleR start R key node spent = (R', n) → RTS G w' v' R' → Turns [] w w' → V (.returned (.tuple #[.agg #[.int .i64 start, v'], .int .i64 n])) w') := Lib.hid (fun w' v' R' n h1 h2 h3 => by rw [hV, h1]; exact ⟨v', rfl, h2, h3⟩)
  have H := ((Sep.start w).alloc #[.int .i64 start, .slice A R.length cc] 24).alloc #[.int .i64 0, .slice none 0 0] 24
  rw [World.size_alloc] at H
  have hF := Lib.hid (rfind_is ([w.heap.size + 1] ++ G) w _ start key _ R (RTS.more hs (Turns.refl _ _) (by intro k hk; rw [List.mem_singleton.1 hk]; omega)) H.t hok.rise)
  have Hh := Lib.hid H
  have hh := Lib.hid hs
  have hokh := Lib.hid hok
  have hset := Lib.hid (fun (h : leaseR (rwAt start R key).out node = false) => settle_no (spent := spent) h)
  have hsety := Lib.hid (fun x (h : leaseR (rwAt start R key).out node = true) hx => settle_yes (start := start) (R := R) (key := key) (node := node) (spent := spent) (x := x) h hx)
  have hla := Lib.hid (fun h => lease_at (start := start) (R := R) (key := key) (node := node) h)
  obtain ⟨r, hr⟩ : ∃ r, rwAt start R key = r := ⟨_, rfl⟩
  rw [hr] at hF hro hset hsety hla
  have hroh := Lib.hid hro
  have hol := hro.len
  have hin := Lib.hid (ixL_neg r.out node)
  obtain ⟨ia, hia⟩ : ∃ ia, isAt R key = ia := ⟨_, rfl⟩
  rw [hia] at hF hla
  have a0 : World.cell? ((w.alloc (.cells #[.int .i64 start, .slice A R.length cc] 24)).alloc (.cells #[.int .i64 0, .slice none 0 0] 24)) ⟨w.heap.size, 0, none⟩ = some _ := (H.blk 1 rfl).cell 0
  have a1 : World.cell? ((w.alloc (.cells #[.int .i64 start, .slice A R.length cc] 24)).alloc (.cells #[.int .i64 0, .slice none 0 0] 24)) ⟨w.heap.size, 1, none⟩ = some _ := (H.blk 1 rfl).cell 1
  clear h H hok hV hr hro hia hs hG
  go_enter Try.func34, Try.ntmps34
  go_wp2_with fail
  go_at_call 12
  refine Calls.mono (hF.out) ?_
  rintro e w1 ⟨x, rfl, hx, t1⟩
  obtain ⟨Ao, co, rfl, ho⟩ := row_form hx.row
  simp only [Rw.v]
  have H1 := Lib.hid ((Hh.out.turns t1).alloc #[.int .i64 r.key, .int .i64 r.avail, .int .i64 r.mark, .slice Ao r.out.length co] 38)
  have hL := out_is _ _ r node (hx.row.turns H1.out.t) hroh.out.out (by omega)
  simp only [Rw.v] at hL
  have hix : Hid (ixL r.out node = if leaseR r.out node then (pln r.out node : Int) else -1) := Lib.hid rfl
  have hLh := Lib.hid hL
  have hxh := Lib.hid hx
  have b0 : World.cell? (w1.alloc (.cells #[.int .i64 r.key, .int .i64 r.avail, .int .i64 r.mark, .slice Ao r.out.length co] 38)) ⟨w.heap.size, 0, none⟩ = some _ := (H1.out.blk 2 rfl).cell 0
  have b1 : World.cell? (w1.alloc (.cells #[.int .i64 r.key, .int .i64 r.avail, .int .i64 r.mark, .slice Ao r.out.length co] 38)) ⟨w.heap.size, 1, none⟩ = some _ := (H1.out.blk 2 rfl).cell 1
  have gin := hin.out
  generalize ixL r.out node = ix at *
  clear a0 a1 hF Hh t1 ho hL hx
  go_wp2_with fail
  go_at_call 44
  refine Calls.mono (hLh.out) ?_
  rintro e w2 ⟨rfl, t2⟩
  have H2 := Lib.hid (H1.out.turns t2)
  generalize hb9 : w1.heap.size = b9 at *
  clear b0 b1 H1 hLh t2
  have a0 : World.cell? (w2) ⟨w.heap.size, 0, none⟩ = some _ := (H2.out.blk 2 rfl).cell 0
  have a1 : World.cell? (w2) ⟨w.heap.size, 1, none⟩ = some _ := (H2.out.blk 2 rfl).cell 1
  have d0 : World.cell? (w2) ⟨b9, 0, none⟩ = some _ := (H2.out.blk 0 rfl).cell 0
  have d1 : World.cell? (w2) ⟨b9, 1, none⟩ = some _ := (H2.out.blk 0 rfl).cell 1
  have d2 : World.cell? (w2) ⟨b9, 2, none⟩ = some _ := (H2.out.blk 0 rfl).cell 2
  have d3 : World.cell? (w2) ⟨b9, 3, none⟩ = some _ := (H2.out.blk 0 rfl).cell 3
  cases hle : leaseR r.out node with
  | false =>
    have hm := Lib.hid (hset.out hle)
    rw [hle] at gin
    have z0 : World.cell? (w2) ⟨w.heap.size + 1, 0, none⟩ = some _ := (H2.out.blk 1 rfl).cell 0
    have zf0 : World.frozen? (w2) ⟨w.heap.size + 1, 0, none⟩ = false := (H2.out.blk 1 rfl).frozen 0
    have z1 : World.cell? (w2) ⟨w.heap.size + 1, 1, none⟩ = some _ := (H2.out.blk 1 rfl).cell 1
    have zf1 : World.frozen? (w2) ⟨w.heap.size + 1, 1, none⟩ = false := (H2.out.blk 1 rfl).frozen 1
    have H3 := (H2.out.set 1 rfl 0 (.int .i64 start)).set 1 rfl 1 (.slice A R.length cc)
    have hB := H3.blk 1 rfl
    have hX := hVh.out _ (.slice A R.length cc) R 0 hm.out (hh.out.turns H3.t) H3.t
    clear H3 H2 hVh hh hokh hm hset hsety hxh hroh hla hix hin
    cases ia with
    | false =>
      go_wp2_with fail
      refine bodyPost_ret (res_list (rs := [.cell 8 24, .tmp 9]) rfl (by simp) (.cell (w.heap.size + 1) _ _ _ rfl hB Try.underlying24 rfl (by kernel_rfl) (.tmp .nil))) rfl ?_
      exact hX
    | true =>
      go_wp2_with fail
      refine bodyPost_ret (res_list (rs := [.cell 8 24, .tmp 9]) rfl (by simp) (.cell (w.heap.size + 1) _ _ _ rfl hB Try.underlying24 rfl (by kernel_rfl) (.tmp .nil))) rfl ?_
      exact hX
  | true =>
    obtain rfl := hla.out hle
    rw [hle] at gin
    obtain ⟨p, hp, hpn⟩ := leaseR_true hle
    have hab := hroh.out.amt p (List.mem_of_getElem? hp)
    obtain ⟨i, hi2⟩ : ∃ i, pln r.out node = i := ⟨_, rfl⟩
    rw [hi2] at hp
    have hlt : i < r.out.length := (List.getElem?_eq_some_iff.1 hp).1
    have hixe : ix = (i : Int) := by rw [hix.out, if_pos hle, hi2]
    subst hixe
    have hset2 := Lib.hid (hsety.out p hle (by rw [hi2]; exact hp))
    have hi2h := Lib.hid hi2
    obtain ⟨ad, c', hv, LX⟩ := ls_at (hxh.out.row.turns H2.out.t).out hp
    injection hv with e1 e2 e3
    subst e1 e3
    obtain ⟨x0, x1⟩ := LX
    clear e2 hset hsety hpn hle hp hi2 hla hix hin
    have H3 := Lib.hid (H2.out.nilSlice 76 2)
    by_cases hneg : spent < 0
    · have g1 := decide_eq_true hneg
      have hsp0 : spentR p.2 spent = p.2 := by unfold spentR; rw [if_pos hneg]
      clear H2 hneg
      go_wp2_with fail
      go_loopw [14, 15] (fun v14 v15 wr => ∃ (k : Nat), k ≤ r.out.length ∧ v15 = .int .i64 k ∧ Sep [] w [tOwn 76 2 v14 (lss ((r.out.take k).eraseIdx i)), tBlk b9 #[.int .i64 r.key, .int .i64 r.avail, .int .i64 r.mark, .slice (some ad) r.out.length co] 38, tBlk (w.heap.size + 1) #[.int .i64 0, .slice none 0 0] 24, tBlk w.heap.size #[.int .i64 start, .slice A R.length cc] 24] wr) (fun _ v15 _ => r.out.length - (RowKit.intOf v15).toNat)
      case atStart => exact ⟨0, by omega, rfl, by simpa [lss] using H3.out⟩
      case round =>
        clear H3 a0 a1 d0 d1 d2 d3 x0 x1
        obtain ⟨k, hk, rfl, H⟩ := hrel
        obtain ⟨A5, c5, hu, _⟩ := (H.own 0 rfl).form
        obtain ⟨L5, hL5⟩ : ∃ L5, (lss ((r.out.take k).eraseIdx i)).length = L5 := ⟨_, rfl⟩
        have hL5b : L5 ≤ 64 := by
          rw [← hL5, lss_len]
          have := List.length_eraseIdx_le (l := r.out.take k) (i := i)
          rw [List.length_take] at this
          omega
        rw [hL5] at hu
        subst hu
        have hL5h := Lib.hid hL5
        have HH := Lib.hid H
        clear H hL5
        have a0 : World.cell? (wr) ⟨w.heap.size, 0, none⟩ = some _ := (HH.out.blk 3 rfl).cell 0
        have a1 : World.cell? (wr) ⟨w.heap.size, 1, none⟩ = some _ := (HH.out.blk 3 rfl).cell 1
        have d0 : World.cell? (wr) ⟨b9, 0, none⟩ = some _ := (HH.out.blk 1 rfl).cell 0
        have d1 : World.cell? (wr) ⟨b9, 1, none⟩ = some _ := (HH.out.blk 1 rfl).cell 1
        have d2 : World.cell? (wr) ⟨b9, 2, none⟩ = some _ := (HH.out.blk 1 rfl).cell 2
        have d3 : World.cell? (wr) ⟨b9, 3, none⟩ = some _ := (HH.out.blk 1 rfl).cell 3
        by_cases hklt : k < r.out.length
        · have g5 : decide ((k : Int) < (r.out.length : Int)) = true := decide_eq_true (by omega)
          have g5b : decide (k < r.out.length) = true := decide_eq_true hklt
          obtain ⟨y, hy⟩ : ∃ y, r.out[k]? = some y := ⟨_, List.getElem?_eq_getElem hklt⟩
          by_cases hki : k = i
          · have g6 : ((k : Int) != (i : Int)) = false := by simp [hki]
            have g6b : (k != i) = false := by simp [hki]
            have he := Lib.hid (er_skip r.out i)
            have hkih := Lib.hid hki
            clear hy hki
            go_wp2_with fail
            go_roundw
            case rel => exact ⟨k + 1, by omega, by go_num, by have := HH.out; rw [hkih.out] at this ⊢; rw [he.out]; exact this⟩
            case measure => simp [RowKit.intOf]; omega
          · have g6 : ((k : Int) != (i : Int)) = true := by simp; omega
            have g6b : (k != i) = true := by simpa using hki
            have he := er_push hy hki
            have erh := Lib.hid (show lss ((r.out.take (k + 1)).eraseIdx i) = lss ((r.out.take k).eraseIdx i) ++ lss [y] by rw [he, lss_append])
            have elh : Hid (L5 + 1 = (lss ((r.out.take k).eraseIdx i)).length + (lss [y]).length) := Lib.hid (by rw [hL5h.out]; rfl)
            obtain ⟨ad2, c2', hv2, LY⟩ := ls_at (hxh.out.row.turns HH.out.t).out hy
            injection hv2 with e4 e5 e6
            injection e4 with e4
            subst e4 e6
            obtain ⟨y0, y1⟩ := LY
            clear hy hki he e5
            go_wp2_with (at_builtin; refine stop_ ?_)
            refine Mk_.mk ?_
            refine (HH.out.alloc #[.int .i64 y.1, .int .i64 y.2] 76).append 1 rfl (one_ls (Blk.new wr #[.int .i64 y.1, .int .i64 y.2] 76)) (L5 + 1) elh.out (lss ((r.out.take (k + 1)).eraseIdx i)) erh.out rfl _ _ _ rfl (.agg #[.int .i64 0, .int .i64 0]) 16 Try.underlying36 infoLs rfl (by decide) rfl rfl (lss_one _) (by omega) (by omega) ?_
            intro A6 c6 w6 H6 t6 _
            have K6 := Lib.hid (H6.keep [1, 2, 3, 4])
            clear H6 t6 HH erh elh y0 y1 a0 a1 d0 d1 d2 d3
            go_wp2_with fail
            go_roundw
            case rel => exact ⟨k + 1, by omega, by go_num, K6.out⟩
            case measure => simp [RowKit.intOf]; omega
        · obtain rfl : k = r.out.length := by omega
          have g5 : decide ((r.out.length : Int) < (r.out.length : Int)) = false := by simp
          have hfull : Hid ((r.out.take r.out.length).eraseIdx i = r.out.eraseIdx i) := Lib.hid (by rw [List.take_length])
          clear d0 d1 d2 d3 a0 a1
          have d0 : World.cell? (wr) ⟨b9, 0, none⟩ = some _ := (HH.out.blk 1 rfl).cell 0
          have d1 : World.cell? (wr) ⟨b9, 1, none⟩ = some _ := (HH.out.blk 1 rfl).cell 1
          have d2 : World.cell? (wr) ⟨b9, 2, none⟩ = some _ := (HH.out.blk 1 rfl).cell 2
          have d3 : World.cell? (wr) ⟨b9, 3, none⟩ = some _ := (HH.out.blk 1 rfl).cell 3
          have df3 : World.frozen? (wr) ⟨b9, 3, none⟩ = false := (HH.out.blk 1 rfl).frozen 3
          have H5 := Lib.hid (HH.out.set 1 rfl 3 (.slice A5 L5 c5))
          clear HH
          go_upto_region 15 with fail
          generalize wr.setCell ⟨b9, 3, none⟩ (.slice A5 L5 c5) = w5 at *
          clear d0 d1 d2 d3 df3
          have d0 : World.cell? (w5) ⟨b9, 0, none⟩ = some _ := (H5.out.blk 1 rfl).cell 0
          have d1 : World.cell? (w5) ⟨b9, 1, none⟩ = some _ := (H5.out.blk 1 rfl).cell 1
          have hwr : IntKind.i64.wrap (p.2 - p.2) = p.2 - p.2 := IntWalk.i64_in _ (by omega)
          obtain ⟨df, hdf⟩ : ∃ df, p.2 - p.2 = df := ⟨_, rfl⟩
          rw [hdf] at hwr
          have hwr2 : wrap64 df = df := by unfold wrap64; omega
          have IA := Lib.hid (two_is r.avail df w5)
          obtain ⟨av, hav⟩ : ∃ av, two r.avail df = av := ⟨_, rfl⟩
          rw [hav] at IA
          have hsp := Lib.hid (show settledR r node spent p = ⟨r.key, av, r.mark, r.out.eraseIdx i⟩ by unfold settledR; rw [hsp0, hdf, hav, hi2h.out])
          have hsn := Lib.hid hsp0
          clear hav
          go_wp2_with fail
          go_at_call 22
          refine Calls.mono (IA.out) ?_
          rintro e w6 ⟨rfl, t6⟩
          have H6 := Lib.hid (H5.out.turns t6)
          clear IA t6 H5 d0 d1
          have d0 : World.cell? (w6) ⟨b9, 0, none⟩ = some _ := (H6.out.blk 1 rfl).cell 0
          have d1 : World.cell? (w6) ⟨b9, 1, none⟩ = some _ := (H6.out.blk 1 rfl).cell 1
          have df1 : World.frozen? (w6) ⟨b9, 1, none⟩ = false := (H6.out.blk 1 rfl).frozen 1
          have d2 : World.cell? (w6) ⟨b9, 2, none⟩ = some _ := (H6.out.blk 1 rfl).cell 2
          have d3 : World.cell? (w6) ⟨b9, 3, none⟩ = some _ := (H6.out.blk 1 rfl).cell 3
          have H7 := Lib.hid (H6.out.set 1 rfl 1 (.int .i64 av))
          clear H6
          go_upto_region 16 with fail
          generalize w6.setCell ⟨b9, 1, none⟩ (.int .i64 av) = w7 at *
          clear d0 d1 d2 d3 df1
          have d0 : World.cell? (w7) ⟨b9, 0, none⟩ = some _ := (H7.out.blk 1 rfl).cell 0
          have d1 : World.cell? (w7) ⟨b9, 1, none⟩ = some _ := (H7.out.blk 1 rfl).cell 1
          have d2 : World.cell? (w7) ⟨b9, 2, none⟩ = some _ := (H7.out.blk 1 rfl).cell 2
          have d3 : World.cell? (w7) ⟨b9, 3, none⟩ = some _ := (H7.out.blk 1 rfl).cell 3
          have a0 : World.cell? (w7) ⟨w.heap.size, 0, none⟩ = some _ := (H7.out.blk 3 rfl).cell 0
          have a1 : World.cell? (w7) ⟨w.heap.size, 1, none⟩ = some _ := (H7.out.blk 3 rfl).cell 1
          have hzl := Blk.lt (H7.out.blk 2 rfl)
          have hne : ∀ k, (Value.slice A5 L5 c5).ownBlock = some k → k ∉ [w.heap.size + 1] ++ G := fun k hk hm => by
            rcases List.mem_append.1 hm with hm | hm
            · have hz := H7.out.ap
              rw [List.mem_singleton.1 hm] at hk
              have h1 := (List.pairwise_cons.1 hz).1 (tBlk (w.heap.size + 1) #[.int .i64 0, .slice none 0 0] 24) (List.mem_of_getElem? (i := 1) rfl) (w.heap.size + 1) (by simpa [tOwn] using hk)
              exact h1 (by simp [tBlk])
            · rcases mine_own H7.out 0 rfl k hk with h1 | h1
              · cases h1
              · have := hGh.out k hm; omega
          have hRS : RowS ([w.heap.size + 1] ++ G) w7 ⟨r.key, av, r.mark, .slice A5 L5 c5⟩ (settledR r node spent p) := by
            rw [hsp.out]
            exact fun W t => ⟨rfl, rfl, rfl, by rw [← hfull.out]; exact ((H7.out.own 0 rfl).turns t hne).reads⟩
          have Wi := set_is_ ([w.heap.size + 1] ++ G) w7 start (.slice A R.length cc) R _ _ (RTS.more hh.out H7.out.t (by intro k hk; rw [List.mem_singleton.1 hk]; omega)) hRS (gl hzl H7.out.t hGh.out) (by omega) hokh.out.rise
          simp only [Rw.v] at Wi
          have Wih := Lib.hid Wi
          clear hRS Wi hne
          go_wp2_with fail
          go_at_call 63
          refine Calls.mono (Wih.out) ?_
          rintro e w8 ⟨v', rfl, hT, t8⟩
          obtain ⟨A', c', hv', _⟩ := hT.rt.form
          obtain ⟨L', hL'⟩ : ∃ L', (withR R (settledR r node spent p)).length = L' := ⟨_, rfl⟩
          rw [hL'] at hv'
          subst hv'
          have H8 := H7.out.turns t8
          clear hL' Wih H7 t8 d0 d1 d2 d3 a0 a1
          have z0 : World.cell? (w8) ⟨w.heap.size + 1, 0, none⟩ = some _ := (H8.blk 2 rfl).cell 0
          have zf0 : World.frozen? (w8) ⟨w.heap.size + 1, 0, none⟩ = false := (H8.blk 2 rfl).frozen 0
          have z1 : World.cell? (w8) ⟨w.heap.size + 1, 1, none⟩ = some _ := (H8.blk 2 rfl).cell 1
          have zf1 : World.frozen? (w8) ⟨w.heap.size + 1, 1, none⟩ = false := (H8.blk 2 rfl).frozen 1
          have H9 := (H8.set 2 rfl 0 (.int .i64 start)).set 2 rfl 1 (.slice A' L' c')
          have hB := H9.blk 2 rfl
          have T9 := ((Turns.refl [w.heap.size + 1] w8).setCell (p := ⟨w.heap.size + 1, 0, none⟩) (by simp) (.int .i64 start)).setCell (p := ⟨w.heap.size + 1, 1, none⟩) (by simp) (.slice A' L' c')
          have hX := hVh.out _ (.slice A' L' c') _ (p.2) (by rw [hset2.out, hsn.out]) (RTS.less hT T9) H9.t
          clear H8 H9 T9 hVh hh hokh hroh hset2 hsn hsp hxh hi2h hfull
          go_wp2_with fail
          refine bodyPost_ret (res_list (rs := [.cell 8 24, .tmp 9]) rfl (by simp) (.cell (w.heap.size + 1) _ _ _ rfl hB Try.underlying24 rfl (by kernel_rfl) (.tmp .nil))) rfl ?_
          exact hX
    · have g1 := decide_eq_false hneg
      by_cases hgt : spent > p.2
      · have g2 := decide_eq_true hgt
        have hsp0 : spentR p.2 spent = p.2 := by unfold spentR; rw [if_neg hneg]; omega
        clear hgt
        clear H2 hneg
        go_wp2_with fail
        go_loopw [14, 15] (fun v14 v15 wr => ∃ (k : Nat), k ≤ r.out.length ∧ v15 = .int .i64 k ∧ Sep [] w [tOwn 76 2 v14 (lss ((r.out.take k).eraseIdx i)), tBlk b9 #[.int .i64 r.key, .int .i64 r.avail, .int .i64 r.mark, .slice (some ad) r.out.length co] 38, tBlk (w.heap.size + 1) #[.int .i64 0, .slice none 0 0] 24, tBlk w.heap.size #[.int .i64 start, .slice A R.length cc] 24] wr) (fun _ v15 _ => r.out.length - (RowKit.intOf v15).toNat)
        case atStart => exact ⟨0, by omega, rfl, by simpa [lss] using H3.out⟩
        case round =>
          clear H3 a0 a1 d0 d1 d2 d3 x0 x1
          obtain ⟨k, hk, rfl, H⟩ := hrel
          obtain ⟨A5, c5, hu, _⟩ := (H.own 0 rfl).form
          obtain ⟨L5, hL5⟩ : ∃ L5, (lss ((r.out.take k).eraseIdx i)).length = L5 := ⟨_, rfl⟩
          have hL5b : L5 ≤ 64 := by
            rw [← hL5, lss_len]
            have := List.length_eraseIdx_le (l := r.out.take k) (i := i)
            rw [List.length_take] at this
            omega
          rw [hL5] at hu
          subst hu
          have hL5h := Lib.hid hL5
          have HH := Lib.hid H
          clear H hL5
          have a0 : World.cell? (wr) ⟨w.heap.size, 0, none⟩ = some _ := (HH.out.blk 3 rfl).cell 0
          have a1 : World.cell? (wr) ⟨w.heap.size, 1, none⟩ = some _ := (HH.out.blk 3 rfl).cell 1
          have d0 : World.cell? (wr) ⟨b9, 0, none⟩ = some _ := (HH.out.blk 1 rfl).cell 0
          have d1 : World.cell? (wr) ⟨b9, 1, none⟩ = some _ := (HH.out.blk 1 rfl).cell 1
          have d2 : World.cell? (wr) ⟨b9, 2, none⟩ = some _ := (HH.out.blk 1 rfl).cell 2
          have d3 : World.cell? (wr) ⟨b9, 3, none⟩ = some _ := (HH.out.blk 1 rfl).cell 3
          by_cases hklt : k < r.out.length
          · have g5 : decide ((k : Int) < (r.out.length : Int)) = true := decide_eq_true (by omega)
            have g5b : decide (k < r.out.length) = true := decide_eq_true hklt
            obtain ⟨y, hy⟩ : ∃ y, r.out[k]? = some y := ⟨_, List.getElem?_eq_getElem hklt⟩
            by_cases hki : k = i
            · have g6 : ((k : Int) != (i : Int)) = false := by simp [hki]
              have g6b : (k != i) = false := by simp [hki]
              have he := Lib.hid (er_skip r.out i)
              have hkih := Lib.hid hki
              clear hy hki
              go_wp2_with fail
              go_roundw
              case rel => exact ⟨k + 1, by omega, by go_num, by have := HH.out; rw [hkih.out] at this ⊢; rw [he.out]; exact this⟩
              case measure => simp [RowKit.intOf]; omega
            · have g6 : ((k : Int) != (i : Int)) = true := by simp; omega
              have g6b : (k != i) = true := by simpa using hki
              have he := er_push hy hki
              have erh := Lib.hid (show lss ((r.out.take (k + 1)).eraseIdx i) = lss ((r.out.take k).eraseIdx i) ++ lss [y] by rw [he, lss_append])
              have elh : Hid (L5 + 1 = (lss ((r.out.take k).eraseIdx i)).length + (lss [y]).length) := Lib.hid (by rw [hL5h.out]; rfl)
              obtain ⟨ad2, c2', hv2, LY⟩ := ls_at (hxh.out.row.turns HH.out.t).out hy
              injection hv2 with e4 e5 e6
              injection e4 with e4
              subst e4 e6
              obtain ⟨y0, y1⟩ := LY
              clear hy hki he e5
              go_wp2_with (at_builtin; refine stop_ ?_)
              refine Mk_.mk ?_
              refine (HH.out.alloc #[.int .i64 y.1, .int .i64 y.2] 76).append 1 rfl (one_ls (Blk.new wr #[.int .i64 y.1, .int .i64 y.2] 76)) (L5 + 1) elh.out (lss ((r.out.take (k + 1)).eraseIdx i)) erh.out rfl _ _ _ rfl (.agg #[.int .i64 0, .int .i64 0]) 16 Try.underlying36 infoLs rfl (by decide) rfl rfl (lss_one _) (by omega) (by omega) ?_
              intro A6 c6 w6 H6 t6 _
              have K6 := Lib.hid (H6.keep [1, 2, 3, 4])
              clear H6 t6 HH erh elh y0 y1 a0 a1 d0 d1 d2 d3
              go_wp2_with fail
              go_roundw
              case rel => exact ⟨k + 1, by omega, by go_num, K6.out⟩
              case measure => simp [RowKit.intOf]; omega
          · obtain rfl : k = r.out.length := by omega
            have g5 : decide ((r.out.length : Int) < (r.out.length : Int)) = false := by simp
            have hfull : Hid ((r.out.take r.out.length).eraseIdx i = r.out.eraseIdx i) := Lib.hid (by rw [List.take_length])
            clear d0 d1 d2 d3 a0 a1
            have d0 : World.cell? (wr) ⟨b9, 0, none⟩ = some _ := (HH.out.blk 1 rfl).cell 0
            have d1 : World.cell? (wr) ⟨b9, 1, none⟩ = some _ := (HH.out.blk 1 rfl).cell 1
            have d2 : World.cell? (wr) ⟨b9, 2, none⟩ = some _ := (HH.out.blk 1 rfl).cell 2
            have d3 : World.cell? (wr) ⟨b9, 3, none⟩ = some _ := (HH.out.blk 1 rfl).cell 3
            have df3 : World.frozen? (wr) ⟨b9, 3, none⟩ = false := (HH.out.blk 1 rfl).frozen 3
            have H5 := Lib.hid (HH.out.set 1 rfl 3 (.slice A5 L5 c5))
            clear HH
            go_upto_region 15 with fail
            generalize wr.setCell ⟨b9, 3, none⟩ (.slice A5 L5 c5) = w5 at *
            clear d0 d1 d2 d3 df3
            have d0 : World.cell? (w5) ⟨b9, 0, none⟩ = some _ := (H5.out.blk 1 rfl).cell 0
            have d1 : World.cell? (w5) ⟨b9, 1, none⟩ = some _ := (H5.out.blk 1 rfl).cell 1
            have hwr : IntKind.i64.wrap (p.2 - p.2) = p.2 - p.2 := IntWalk.i64_in _ (by omega)
            obtain ⟨df, hdf⟩ : ∃ df, p.2 - p.2 = df := ⟨_, rfl⟩
            rw [hdf] at hwr
            have hwr2 : wrap64 df = df := by unfold wrap64; omega
            have IA := Lib.hid (two_is r.avail df w5)
            obtain ⟨av, hav⟩ : ∃ av, two r.avail df = av := ⟨_, rfl⟩
            rw [hav] at IA
            have hsp := Lib.hid (show settledR r node spent p = ⟨r.key, av, r.mark, r.out.eraseIdx i⟩ by unfold settledR; rw [hsp0, hdf, hav, hi2h.out])
            have hsn := Lib.hid hsp0
            clear hav
            go_wp2_with fail
            go_at_call 22
            refine Calls.mono (IA.out) ?_
            rintro e w6 ⟨rfl, t6⟩
            have H6 := Lib.hid (H5.out.turns t6)
            clear IA t6 H5 d0 d1
            have d0 : World.cell? (w6) ⟨b9, 0, none⟩ = some _ := (H6.out.blk 1 rfl).cell 0
            have d1 : World.cell? (w6) ⟨b9, 1, none⟩ = some _ := (H6.out.blk 1 rfl).cell 1
            have df1 : World.frozen? (w6) ⟨b9, 1, none⟩ = false := (H6.out.blk 1 rfl).frozen 1
            have d2 : World.cell? (w6) ⟨b9, 2, none⟩ = some _ := (H6.out.blk 1 rfl).cell 2
            have d3 : World.cell? (w6) ⟨b9, 3, none⟩ = some _ := (H6.out.blk 1 rfl).cell 3
            have H7 := Lib.hid (H6.out.set 1 rfl 1 (.int .i64 av))
            clear H6
            go_upto_region 16 with fail
            generalize w6.setCell ⟨b9, 1, none⟩ (.int .i64 av) = w7 at *
            clear d0 d1 d2 d3 df1
            have d0 : World.cell? (w7) ⟨b9, 0, none⟩ = some _ := (H7.out.blk 1 rfl).cell 0
            have d1 : World.cell? (w7) ⟨b9, 1, none⟩ = some _ := (H7.out.blk 1 rfl).cell 1
            have d2 : World.cell? (w7) ⟨b9, 2, none⟩ = some _ := (H7.out.blk 1 rfl).cell 2
            have d3 : World.cell? (w7) ⟨b9, 3, none⟩ = some _ := (H7.out.blk 1 rfl).cell 3
            have a0 : World.cell? (w7) ⟨w.heap.size, 0, none⟩ = some _ := (H7.out.blk 3 rfl).cell 0
            have a1 : World.cell? (w7) ⟨w.heap.size, 1, none⟩ = some _ := (H7.out.blk 3 rfl).cell 1
            have hzl := Blk.lt (H7.out.blk 2 rfl)
            have hne : ∀ k, (Value.slice A5 L5 c5).ownBlock = some k → k ∉ [w.heap.size + 1] ++ G := fun k hk hm => by
              rcases List.mem_append.1 hm with hm | hm
              · have hz := H7.out.ap
                rw [List.mem_singleton.1 hm] at hk
                have h1 := (List.pairwise_cons.1 hz).1 (tBlk (w.heap.size + 1) #[.int .i64 0, .slice none 0 0] 24) (List.mem_of_getElem? (i := 1) rfl) (w.heap.size + 1) (by simpa [tOwn] using hk)
                exact h1 (by simp [tBlk])
              · rcases mine_own H7.out 0 rfl k hk with h1 | h1
                · cases h1
                · have := hGh.out k hm; omega
            have hRS : RowS ([w.heap.size + 1] ++ G) w7 ⟨r.key, av, r.mark, .slice A5 L5 c5⟩ (settledR r node spent p) := by
              rw [hsp.out]
              exact fun W t => ⟨rfl, rfl, rfl, by rw [← hfull.out]; exact ((H7.out.own 0 rfl).turns t hne).reads⟩
            have Wi := set_is_ ([w.heap.size + 1] ++ G) w7 start (.slice A R.length cc) R _ _ (RTS.more hh.out H7.out.t (by intro k hk; rw [List.mem_singleton.1 hk]; omega)) hRS (gl hzl H7.out.t hGh.out) (by omega) hokh.out.rise
            simp only [Rw.v] at Wi
            have Wih := Lib.hid Wi
            clear hRS Wi hne
            go_wp2_with fail
            go_at_call 63
            refine Calls.mono (Wih.out) ?_
            rintro e w8 ⟨v', rfl, hT, t8⟩
            obtain ⟨A', c', hv', _⟩ := hT.rt.form
            obtain ⟨L', hL'⟩ : ∃ L', (withR R (settledR r node spent p)).length = L' := ⟨_, rfl⟩
            rw [hL'] at hv'
            subst hv'
            have H8 := H7.out.turns t8
            clear hL' Wih H7 t8 d0 d1 d2 d3 a0 a1
            have z0 : World.cell? (w8) ⟨w.heap.size + 1, 0, none⟩ = some _ := (H8.blk 2 rfl).cell 0
            have zf0 : World.frozen? (w8) ⟨w.heap.size + 1, 0, none⟩ = false := (H8.blk 2 rfl).frozen 0
            have z1 : World.cell? (w8) ⟨w.heap.size + 1, 1, none⟩ = some _ := (H8.blk 2 rfl).cell 1
            have zf1 : World.frozen? (w8) ⟨w.heap.size + 1, 1, none⟩ = false := (H8.blk 2 rfl).frozen 1
            have H9 := (H8.set 2 rfl 0 (.int .i64 start)).set 2 rfl 1 (.slice A' L' c')
            have hB := H9.blk 2 rfl
            have T9 := ((Turns.refl [w.heap.size + 1] w8).setCell (p := ⟨w.heap.size + 1, 0, none⟩) (by simp) (.int .i64 start)).setCell (p := ⟨w.heap.size + 1, 1, none⟩) (by simp) (.slice A' L' c')
            have hX := hVh.out _ (.slice A' L' c') _ (p.2) (by rw [hset2.out, hsn.out]) (RTS.less hT T9) H9.t
            clear H8 H9 T9 hVh hh hokh hroh hset2 hsn hsp hxh hi2h hfull
            go_wp2_with fail
            refine bodyPost_ret (res_list (rs := [.cell 8 24, .tmp 9]) rfl (by simp) (.cell (w.heap.size + 1) _ _ _ rfl hB Try.underlying24 rfl (by kernel_rfl) (.tmp .nil))) rfl ?_
            exact hX
      · have g2 := decide_eq_false hgt
        have hsb : 0 ≤ spent ∧ spent ≤ p.2 := by omega
        have hsp0 : spentR p.2 spent = spent := by unfold spentR; rw [if_neg hneg]; omega
        clear hgt
        clear H2 hneg
        go_wp2_with fail
        go_loopw [14, 15] (fun v14 v15 wr => ∃ (k : Nat), k ≤ r.out.length ∧ v15 = .int .i64 k ∧ Sep [] w [tOwn 76 2 v14 (lss ((r.out.take k).eraseIdx i)), tBlk b9 #[.int .i64 r.key, .int .i64 r.avail, .int .i64 r.mark, .slice (some ad) r.out.length co] 38, tBlk (w.heap.size + 1) #[.int .i64 0, .slice none 0 0] 24, tBlk w.heap.size #[.int .i64 start, .slice A R.length cc] 24] wr) (fun _ v15 _ => r.out.length - (RowKit.intOf v15).toNat)
        case atStart => exact ⟨0, by omega, rfl, by simpa [lss] using H3.out⟩
        case round =>
          clear H3 a0 a1 d0 d1 d2 d3 x0 x1
          obtain ⟨k, hk, rfl, H⟩ := hrel
          obtain ⟨A5, c5, hu, _⟩ := (H.own 0 rfl).form
          obtain ⟨L5, hL5⟩ : ∃ L5, (lss ((r.out.take k).eraseIdx i)).length = L5 := ⟨_, rfl⟩
          have hL5b : L5 ≤ 64 := by
            rw [← hL5, lss_len]
            have := List.length_eraseIdx_le (l := r.out.take k) (i := i)
            rw [List.length_take] at this
            omega
          rw [hL5] at hu
          subst hu
          have hL5h := Lib.hid hL5
          have HH := Lib.hid H
          clear H hL5
          have a0 : World.cell? (wr) ⟨w.heap.size, 0, none⟩ = some _ := (HH.out.blk 3 rfl).cell 0
          have a1 : World.cell? (wr) ⟨w.heap.size, 1, none⟩ = some _ := (HH.out.blk 3 rfl).cell 1
          have d0 : World.cell? (wr) ⟨b9, 0, none⟩ = some _ := (HH.out.blk 1 rfl).cell 0
          have d1 : World.cell? (wr) ⟨b9, 1, none⟩ = some _ := (HH.out.blk 1 rfl).cell 1
          have d2 : World.cell? (wr) ⟨b9, 2, none⟩ = some _ := (HH.out.blk 1 rfl).cell 2
          have d3 : World.cell? (wr) ⟨b9, 3, none⟩ = some _ := (HH.out.blk 1 rfl).cell 3
          by_cases hklt : k < r.out.length
          · have g5 : decide ((k : Int) < (r.out.length : Int)) = true := decide_eq_true (by omega)
            have g5b : decide (k < r.out.length) = true := decide_eq_true hklt
            obtain ⟨y, hy⟩ : ∃ y, r.out[k]? = some y := ⟨_, List.getElem?_eq_getElem hklt⟩
            by_cases hki : k = i
            · have g6 : ((k : Int) != (i : Int)) = false := by simp [hki]
              have g6b : (k != i) = false := by simp [hki]
              have he := Lib.hid (er_skip r.out i)
              have hkih := Lib.hid hki
              clear hy hki
              go_wp2_with fail
              go_roundw
              case rel => exact ⟨k + 1, by omega, by go_num, by have := HH.out; rw [hkih.out] at this ⊢; rw [he.out]; exact this⟩
              case measure => simp [RowKit.intOf]; omega
            · have g6 : ((k : Int) != (i : Int)) = true := by simp; omega
              have g6b : (k != i) = true := by simpa using hki
              have he := er_push hy hki
              have erh := Lib.hid (show lss ((r.out.take (k + 1)).eraseIdx i) = lss ((r.out.take k).eraseIdx i) ++ lss [y] by rw [he, lss_append])
              have elh : Hid (L5 + 1 = (lss ((r.out.take k).eraseIdx i)).length + (lss [y]).length) := Lib.hid (by rw [hL5h.out]; rfl)
              obtain ⟨ad2, c2', hv2, LY⟩ := ls_at (hxh.out.row.turns HH.out.t).out hy
              injection hv2 with e4 e5 e6
              injection e4 with e4
              subst e4 e6
              obtain ⟨y0, y1⟩ := LY
              clear hy hki he e5
              go_wp2_with (at_builtin; refine stop_ ?_)
              refine Mk_.mk ?_
              refine (HH.out.alloc #[.int .i64 y.1, .int .i64 y.2] 76).append 1 rfl (one_ls (Blk.new wr #[.int .i64 y.1, .int .i64 y.2] 76)) (L5 + 1) elh.out (lss ((r.out.take (k + 1)).eraseIdx i)) erh.out rfl _ _ _ rfl (.agg #[.int .i64 0, .int .i64 0]) 16 Try.underlying36 infoLs rfl (by decide) rfl rfl (lss_one _) (by omega) (by omega) ?_
              intro A6 c6 w6 H6 t6 _
              have K6 := Lib.hid (H6.keep [1, 2, 3, 4])
              clear H6 t6 HH erh elh y0 y1 a0 a1 d0 d1 d2 d3
              go_wp2_with fail
              go_roundw
              case rel => exact ⟨k + 1, by omega, by go_num, K6.out⟩
              case measure => simp [RowKit.intOf]; omega
          · obtain rfl : k = r.out.length := by omega
            have g5 : decide ((r.out.length : Int) < (r.out.length : Int)) = false := by simp
            have hfull : Hid ((r.out.take r.out.length).eraseIdx i = r.out.eraseIdx i) := Lib.hid (by rw [List.take_length])
            clear d0 d1 d2 d3 a0 a1
            have d0 : World.cell? (wr) ⟨b9, 0, none⟩ = some _ := (HH.out.blk 1 rfl).cell 0
            have d1 : World.cell? (wr) ⟨b9, 1, none⟩ = some _ := (HH.out.blk 1 rfl).cell 1
            have d2 : World.cell? (wr) ⟨b9, 2, none⟩ = some _ := (HH.out.blk 1 rfl).cell 2
            have d3 : World.cell? (wr) ⟨b9, 3, none⟩ = some _ := (HH.out.blk 1 rfl).cell 3
            have df3 : World.frozen? (wr) ⟨b9, 3, none⟩ = false := (HH.out.blk 1 rfl).frozen 3
            have H5 := Lib.hid (HH.out.set 1 rfl 3 (.slice A5 L5 c5))
            clear HH
            go_upto_region 15 with fail
            generalize wr.setCell ⟨b9, 3, none⟩ (.slice A5 L5 c5) = w5 at *
            clear d0 d1 d2 d3 df3
            have d0 : World.cell? (w5) ⟨b9, 0, none⟩ = some _ := (H5.out.blk 1 rfl).cell 0
            have d1 : World.cell? (w5) ⟨b9, 1, none⟩ = some _ := (H5.out.blk 1 rfl).cell 1
            have hwr : IntKind.i64.wrap (p.2 - spent) = p.2 - spent := IntWalk.i64_in _ (by omega)
            obtain ⟨df, hdf⟩ : ∃ df, p.2 - spent = df := ⟨_, rfl⟩
            rw [hdf] at hwr
            have hwr2 : wrap64 df = df := by unfold wrap64; omega
            have IA := Lib.hid (two_is r.avail df w5)
            obtain ⟨av, hav⟩ : ∃ av, two r.avail df = av := ⟨_, rfl⟩
            rw [hav] at IA
            have hsp := Lib.hid (show settledR r node spent p = ⟨r.key, av, r.mark, r.out.eraseIdx i⟩ by unfold settledR; rw [hsp0, hdf, hav, hi2h.out])
            have hsn := Lib.hid hsp0
            clear hav
            go_wp2_with fail
            go_at_call 22
            refine Calls.mono (IA.out) ?_
            rintro e w6 ⟨rfl, t6⟩
            have H6 := Lib.hid (H5.out.turns t6)
            clear IA t6 H5 d0 d1
            have d0 : World.cell? (w6) ⟨b9, 0, none⟩ = some _ := (H6.out.blk 1 rfl).cell 0
            have d1 : World.cell? (w6) ⟨b9, 1, none⟩ = some _ := (H6.out.blk 1 rfl).cell 1
            have df1 : World.frozen? (w6) ⟨b9, 1, none⟩ = false := (H6.out.blk 1 rfl).frozen 1
            have d2 : World.cell? (w6) ⟨b9, 2, none⟩ = some _ := (H6.out.blk 1 rfl).cell 2
            have d3 : World.cell? (w6) ⟨b9, 3, none⟩ = some _ := (H6.out.blk 1 rfl).cell 3
            have H7 := Lib.hid (H6.out.set 1 rfl 1 (.int .i64 av))
            clear H6
            go_upto_region 16 with fail
            generalize w6.setCell ⟨b9, 1, none⟩ (.int .i64 av) = w7 at *
            clear d0 d1 d2 d3 df1
            have d0 : World.cell? (w7) ⟨b9, 0, none⟩ = some _ := (H7.out.blk 1 rfl).cell 0
            have d1 : World.cell? (w7) ⟨b9, 1, none⟩ = some _ := (H7.out.blk 1 rfl).cell 1
            have d2 : World.cell? (w7) ⟨b9, 2, none⟩ = some _ := (H7.out.blk 1 rfl).cell 2
            have d3 : World.cell? (w7) ⟨b9, 3, none⟩ = some _ := (H7.out.blk 1 rfl).cell 3
            have a0 : World.cell? (w7) ⟨w.heap.size, 0, none⟩ = some _ := (H7.out.blk 3 rfl).cell 0
            have a1 : World.cell? (w7) ⟨w.heap.size, 1, none⟩ = some _ := (H7.out.blk 3 rfl).cell 1
            have hzl := Blk.lt (H7.out.blk 2 rfl)
            have hne : ∀ k, (Value.slice A5 L5 c5).ownBlock = some k → k ∉ [w.heap.size + 1] ++ G := fun k hk hm => by
              rcases List.mem_append.1 hm with hm | hm
              · have hz := H7.out.ap
                rw [List.mem_singleton.1 hm] at hk
                have h1 := (List.pairwise_cons.1 hz).1 (tBlk (w.heap.size + 1) #[.int .i64 0, .slice none 0 0] 24) (List.mem_of_getElem? (i := 1) rfl) (w.heap.size + 1) (by simpa [tOwn] using hk)
                exact h1 (by simp [tBlk])
              · rcases mine_own H7.out 0 rfl k hk with h1 | h1
                · cases h1
                · have := hGh.out k hm; omega
            have hRS : RowS ([w.heap.size + 1] ++ G) w7 ⟨r.key, av, r.mark, .slice A5 L5 c5⟩ (settledR r node spent p) := by
              rw [hsp.out]
              exact fun W t => ⟨rfl, rfl, rfl, by rw [← hfull.out]; exact ((H7.out.own 0 rfl).turns t hne).reads⟩
            have Wi := set_is_ ([w.heap.size + 1] ++ G) w7 start (.slice A R.length cc) R _ _ (RTS.more hh.out H7.out.t (by intro k hk; rw [List.mem_singleton.1 hk]; omega)) hRS (gl hzl H7.out.t hGh.out) (by omega) hokh.out.rise
            simp only [Rw.v] at Wi
            have Wih := Lib.hid Wi
            clear hRS Wi hne
            go_wp2_with fail
            go_at_call 63
            refine Calls.mono (Wih.out) ?_
            rintro e w8 ⟨v', rfl, hT, t8⟩
            obtain ⟨A', c', hv', _⟩ := hT.rt.form
            obtain ⟨L', hL'⟩ : ∃ L', (withR R (settledR r node spent p)).length = L' := ⟨_, rfl⟩
            rw [hL'] at hv'
            subst hv'
            have H8 := H7.out.turns t8
            clear hL' Wih H7 t8 d0 d1 d2 d3 a0 a1
            have z0 : World.cell? (w8) ⟨w.heap.size + 1, 0, none⟩ = some _ := (H8.blk 2 rfl).cell 0
            have zf0 : World.frozen? (w8) ⟨w.heap.size + 1, 0, none⟩ = false := (H8.blk 2 rfl).frozen 0
            have z1 : World.cell? (w8) ⟨w.heap.size + 1, 1, none⟩ = some _ := (H8.blk 2 rfl).cell 1
            have zf1 : World.frozen? (w8) ⟨w.heap.size + 1, 1, none⟩ = false := (H8.blk 2 rfl).frozen 1
            have H9 := (H8.set 2 rfl 0 (.int .i64 start)).set 2 rfl 1 (.slice A' L' c')
            have hB := H9.blk 2 rfl
            have T9 := ((Turns.refl [w.heap.size + 1] w8).setCell (p := ⟨w.heap.size + 1, 0, none⟩) (by simp) (.int .i64 start)).setCell (p := ⟨w.heap.size + 1, 1, none⟩) (by simp) (.slice A' L' c')
            have hX := hVh.out _ (.slice A' L' c') _ (spent) (by rw [hset2.out, hsn.out]) (RTS.less hT T9) H9.t
            clear H8 H9 T9 hVh hh hokh hroh hset2 hsn hsp hxh hi2h hfull
            go_wp2_with fail
            refine bodyPost_ret (res_list (rs := [.cell 8 24, .tmp 9]) rfl (by simp) (.cell (w.heap.size + 1) _ _ _ rfl hB Try.underlying24 rfl (by kernel_rfl) (.tmp .nil))) rfl ?_
            exact hX
end Go.Proofs.Ytphhfdlhkginkaa.Bx
