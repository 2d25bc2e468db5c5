/- slices.Insert of one lease, of one row. -/
import Derived.Test.YtphhfdlhkginkaaFq
import Derived.Test.YtphhfdlhkginkaaWg
import Derived.Lib.Overlaps
import Derived.Laws.Externs
import Derived.Deep.Slices
set_option linter.unusedVariables false
set_option linter.unusedSimpArgs false
set_option maxRecDepth 100000
namespace Go.Proofs.Ytphhfdlhkginkaa.Bi
open Go.RowKit Go.MapKept Hm Hs Hf Hx Hy Hv Hz Hu Fa Ff Fq
theorem own_blk {e : TypeId} {sz : Nat} {w : World} {ad : Addr} {n c : Nat} {rows : List (List Value)} (h : OwnS e sz w (.slice (some ad) n c) rows) : ∃ cur, w.heap[ad.block]? = some (.cells cur e (0, 0)) ∧ cur.size = c * sz := by
  rcases h.1.2 with ⟨hv, _⟩ | ⟨g, cap, cur, hv, hg, hh, hl, hm, hs, ht⟩
  · cases hv
  · injection hv with e1 e2 e3
    injection e1 with e1
    subst e1 e3
    exact ⟨cur, hh, hs⟩
theorem row_cells {w : World} {b : Nat} {cs : Array Value} {t : TypeId} (h : Blk w b cs t) {xc : List Value} (hx : cs.toList = xc) : ∀ (j : Nat) (u : Value), ([xc] : List (List Value)).flatten[j]? = some u → w.cell? ((⟨b, 0, none⟩ : Addr).add j) = some u := by
  intro j u hj
  rw [add_zero_, h.cell, ← Array.getElem?_toList, hx]
  simpa using hj
theorem Kr_add (ad : Addr) (m : Nat) : (ad.add m).block = ad.block := by unfold Addr.add; split <;> rfl
theorem ov_insL_is (w : World) (vb : Nat) (cs : Array Value) (ad : Addr) (la ca lb cb : Nat) (hb : Blk w vb cs 76) (cur : Array Value) (hk : w.heap[ad.block]? = some (.cells cur 76 (0, 0))) (hz : cur.size ≠ 0) (hne : vb ≠ ad.block) :
    (callFunc 71 #[.slice (some ⟨vb, 0, none⟩) la ca, .slice (some ad) lb cb]).run Try.prog w = .ok (.value (.bool false)) w := by
  rw [run_callFunc_extern Try.func71 (by kernel_rfl) (by kernel_rfl) (by kernel_rfl) (e := Extern.SlicesOverlaps.overlaps #[36, 36] #[4]) (by kernel_rfl),
    Lib.run_overlaps_apart w 36 4 76 Try.underlying36 2 (fun w => by kernel_rfl) ⟨vb, 0, none⟩ ad la ca lb cb hne 76 76 cs.size cur.size (by unfold Blk at hb; simp [World.shape?, hb]) (by simp [World.shape?, hk]) hz (by unfold Blk at hb; simp [World.frozen?, hb]) (by unfold Blk at hb; simp [World.frozen?, hb])]
  rfl
set_option maxHeartbeats 4000000 in
theorem insL_is (w : World) (v : Value) (rows : List (List Value)) (xc : List Value) (cs : Array Value) (i vb : Nat) (h : Got [tOwn 76 2 v rows, tBlk vb cs 76] w) (hcs : cs.toList = xc) (hi : i ≤ rows.length) (hn : rows.length ≤ 100000) (hxl : xc.length = 2) (h1 : ∀ r ∈ rows, ∀ u ∈ r, u.oneCell' = true) (hx1 : ∀ u ∈ xc, u.oneCell' = true) :
    Calls Try.prog 60 #[v, .int .i64 i, .slice (some ⟨vb, 0, none⟩) 1 1] w fun e w' => ∃ u, e = .returned u ∧ Sep (fps [tOwn 76 2 v rows]) w [tOwn 76 2 u (rows.take i ++ xc :: rows.drop i)] w' := by
  have O := h.sep.own 0 rfl
  have B := h.sep.blk 1 rfl
  have H : Sep (fps [tOwn 76 2 v rows]) w [tOwn 76 2 v rows] w := (Got.one (T := tOwn 76 2 v rows) O).sep
  have hvb : ∀ k, v.ownBlock = some k → vb ≠ k := fun k hk e => by
    have := h.ap
    simp only [List.pairwise_cons] at this
    have := this.1 (tBlk vb cs 76) (by simp) k (by simpa [tOwn] using hk)
    exact this (by simp [tBlk, e])
  have hone : ∀ r ∈ ([xc] : List (List Value)), ∀ u ∈ r, u.oneCell' = true := fun r hr u hu => by rw [List.mem_singleton.1 hr] at hu; exact hx1 u hu
  have hlen1 : ∀ r ∈ ([xc] : List (List Value)), r.length = 2 := fun r hr => by rw [List.mem_singleton.1 hr]; exact hxl
  generalize hFF : fps [tOwn 76 2 v rows] = FF at H ⊢
  obtain ⟨A, c, rfl, hc, hcm, hnil⟩ := O.form
  have RX : RdS 2 w (.slice (some ⟨vb, 0, none⟩) 1 1) [xc] := RdS.of_cells (rows := [xc]) B (by rw [hcs]; simp) hlen1 1 (by simp) (by decide)
  obtain ⟨n, hnn⟩ : ∃ n, rows.length = n := ⟨_, rfl⟩
  rw [hnn] at H O hi hn hc ⊢
  obtain ⟨X, hX⟩ : ∃ X : Ending → World → Prop, X = fun e w' => ∃ u, e = .returned u ∧ Sep FF w [tOwn 76 2 u (rows.take i ++ xc :: rows.drop i)] w' := ⟨_, rfl⟩
  rw [← hX]
  have hXh : Hid (∀ w' u, Sep FF w [tOwn 76 2 u (rows.take i ++ xc :: rows.drop i)] w' → X (.returned u) w') := Lib.hid (fun w' u h => by rw [hX]; exact ⟨u, rfl, h⟩)
  have hHh := Lib.hid H
  have RXh := Lib.hid RX
  have Oh := Lib.hid O
  have Bh := Lib.hid B
  have hnh := Lib.hid hnn
  have h1h := Lib.hid h1
  have honeh := Lib.hid hone
  have hl1h := Lib.hid hlen1
  have hvbh := Lib.hid hvb
  have hcsh := Lib.hid hcs
  have q1 : (i : Int) ≤ (n : Int) := by omega
  have q2 : (n : Int) ≤ (c : Int) := by omega
  have q3 : (i : Int) ≤ (c : Int) := by omega
  clear h hX H RX O B hnn h1 hone hlen1 hvb hcs hxl hx1 hFF
  by_cases hin : i = n
  · subst hin
    have g1 : ((i : Int) == (i : Int)) = true := by simp
    have hcat : Hid (rows.take i ++ xc :: rows.drop i = rows ++ [xc]) := Lib.hid (by rw [List.take_of_length_le (by rw [hnh.out]; exact Nat.le_refl _), List.drop_of_length_le (by rw [hnh.out]; exact Nat.le_refl _)])
    rw [hcat.out] at hXh
    have hlh : Hid (i + 1 = rows.length + ([xc] : List (List Value)).length) := Lib.hid (by rw [hnh.out]; rfl)
    by_cases hci : i = c
    · subst hci
      go_enter Try.func60, Try.ntmps60
      go_wp2_with (at_builtin; refine stop_ ?_)
      refine Mk_.mk ?_
      refine hHh.out.append 0 rfl RXh.out (i + 1) hlh.out (rows ++ [xc]) rfl rfl _ _ _ rfl (.agg #[.int .i64 0, .int .i64 0]) 16 Try.underlying36 infoLs rfl (by decide) rfl rfl honeh.out (by omega) (by omega) ?_
      intro A1 c1 w3 H t3 _
      have hX := hXh.out _ _ H
      clear H t3
      go_wp2_with fail
      exact hX
    · have p2 : ¬ c = i := by omega
      go_enter Try.func60, Try.ntmps60
      go_wp2_with (at_builtin; refine stop_ ?_)
      refine Mk_.mk ?_
      refine hHh.out.append 0 rfl RXh.out (i + 1) hlh.out (rows ++ [xc]) rfl rfl _ _ _ rfl (.agg #[.int .i64 0, .int .i64 0]) 16 Try.underlying36 infoLs rfl (by decide) rfl rfl honeh.out (by omega) (by omega) ?_
      intro A1 c1 w3 H t3 _
      have hX := hXh.out _ _ H
      clear H t3
      go_wp2_with fail
      exact hX
  · have hlt : i < n := by omega
    have g1 : ((i : Int) == (n : Int)) = false := by simp; omega
    have p1 : ¬ c = i := by omega
    have p2 : ¬ i = c := by omega
    cases A with
    | none => have := hnil rfl; omega
    | some ad =>
      by_cases hroom : n + 1 ≤ c
      · obtain ⟨ext, hel, O1⟩ := He.OwnS.extend Oh.out 1 hroom
        obtain ⟨cur, hcur, hcs2⟩ := own_blk O1
        obtain ⟨i1, hi1⟩ : ∃ i1, i + 1 = i1 := ⟨_, rfl⟩
        have hi1h := Lib.hid hi1
        obtain ⟨N, hN⟩ : ∃ N, n + 1 = N := ⟨_, rfl⟩
        have hNh := Lib.hid hN
        have hov : ∀ lb cb, (callFunc 71 #[.slice (some ⟨vb, 0, none⟩) 1 1, .slice (some (ad.add (i1 * 2))) lb cb]).run Try.prog w = .ok (.value (.bool false)) w := fun lb cb => ov_insL_is w vb cs (ad.add (i1 * 2)) 1 1 lb cb Bh.out cur (by rw [Kr_add]; exact hcur) (by rw [hcs2]; omega) (by rw [Kr_add]; exact hvbh.out _ rfl)
        have r0 : (i : Int) + 1 = (i1 : Int) := by omega
        have r0b : (n : Int) + 1 = (N : Int) := by omega
        have s1 : IntKind.i64.wrap ((i : Int) + 1) = (i1 : Int) := by rw [IntWalk.i64_in _ (by omega)]; omega
        have s1b : IntKind.i64.wrap (i1 : Int) = (i1 : Int) := IntWalk.i64_in _ (by omega)
        have r2 : (N : Int) ≤ (c : Int) := by omega
        have r3 : (i1 : Int) ≤ (N : Int) := by omega
        have r3b : (i1 : Int) ≤ (c : Int) := by omega
        have r4 : ¬ c = i1 := by omega
        have r6 : (i : Int) ≤ (N : Int) := by omega
        have g2 : decide ((N : Int) > (c : Int)) = false := decide_eq_false (by omega)
        have O1h := Lib.hid O1
        have hvx := Lib.hid (row_cells Bh.out hcsh.out)
        have helh := Lib.hid hel
        rw [hN] at O1h
        clear hcur O1 hel hcs2 hi1 hN hroom
        have Ow := Lib.hid (O1h.out.turns (Turns.refl [] w).drew (by simp))
        have hsrc := Lib.hid (O1h.out.reads.cells (by decide) ad _ c rfl)
        have hlr := Lib.hid O1h.out.2
        have hlr0 := Lib.hid Oh.out.2
        have hdx := Lib.hid (He.take_drop_ext (ext := ext) (l := rows) (i := i) (by rw [hnh.out]; omega))
        have hnews : Hid (∀ j u, (rows.drop i).flatten[j]? = some u → w.drew.cell? ((ad.add (i * 2)).add j) = some u) := Lib.hid (fun j u hj => by
          rw [Go.Deep.add_add]
          refine hsrc.out _ u ?_
          have e1 : (rows ++ ext).flatten.drop (i * 2) = (rows.drop i).flatten ++ ext.flatten := by
            rw [← Hu.flatten_drop (sz := 2) _ _ hlr.out, List.drop_append_of_le_length (by rw [hnh.out]; omega), List.flatten_append]
          rw [← List.getElem?_drop, e1, List.getElem?_append_left (List.getElem?_eq_some_iff.1 hj).1]
          exact hj)
        go_enter Try.func60, Try.ntmps60
        go_wp2_with (simp only [hov])
        go_wp2_with fail
        refine wp_region_flo [(0, true), (1, true), (2, true), (3, true), (4, true), (5, true), (6, true), (7, true), (8, false)] (fun W => True) (by kernel_rfl) rfl (by kernel_rfl) (by intro c d v a w h; cases d <;> first | (simpa [Exit.then, Exit.inBlock, Act.put] using h) | exact h) (trivial) ?_
        have Td := Lib.hid ((Turns.refl [ad.block] w).drew)
        have Td0 := Lib.hid ((Turns.refl [] w).drew)
        generalize w.drew = w1 at *
        refine flo_read _ rfl (fun K hK => ?_)
        go_simp
        first | (refine hK _ ?_) | (refine ⟨fun W hS => ?_, hK _ ?_⟩; · (skip; try go_simp))
        clear hK K
        refine flo_read _ rfl (fun K hK => ?_)
        go_simp
        first | (refine hK _ ?_) | (refine ⟨fun W hS => ?_, hK _ ?_⟩; · (skip; try go_simp))
        clear hK K
        refine flo_read _ rfl (fun K hK => ?_)
        go_simp
        first | (refine hK _ ?_) | (refine ⟨fun W hS => ?_, hK _ ?_⟩; · (skip; try go_simp))
        clear hK K
        refine flo_read _ rfl (fun K hK => ?_)
        go_simp
        first | (refine hK _ ?_) | (refine ⟨fun W hS => ?_, hK _ ?_⟩; · (skip; try go_simp))
        clear hK K
        refine flo_read _ rfl (fun K hK => ?_)
        go_simp
        first | (refine hK _ ?_) | (refine ⟨fun W hS => ?_, hK _ ?_⟩; · (skip; try go_simp))
        clear hK K
        refine flo_read _ rfl (fun K hK => ?_)
        go_simp
        first | (refine hK _ ?_) | (refine ⟨fun W hS => ?_, hK _ ?_⟩; · (skip; try go_simp))
        clear hK K
        refine flo_read _ rfl (fun K hK => ?_)
        go_simp
        first | (refine hK _ ?_) | (refine ⟨fun W hS => ?_, hK _ ?_⟩; · (skip; try go_simp))
        clear hK K
        refine flo_read _ rfl (fun K hK => ?_)
        go_simp
        first | (refine hK _ ?_) | (refine ⟨fun W hS => ?_, hK _ ?_⟩; · (skip; try go_simp))
        clear hK K
        refine flo_alone _ rfl ?_
        refine He.wp_copy_own (news := rows.drop i) Ow.out rfl _ _ rfl Try.underlying36 (by kernel_rfl) i1 (N - i1) (c - i1) (ad.add (i * 2)) (N - i) (c - i) rfl rfl (by have := hi1h.out; have := hNh.out; have := hnh.out; rw [List.length_drop]; omega) (by have := hi1h.out; have := hNh.out; have := hnh.out; rw [List.length_drop]; omega) (fun r hr => hlr0.out r (List.mem_of_mem_drop hr)) hnews.out (fun r hr => h1h.out r (List.mem_of_mem_drop hr)) ?_
        intro w2 O2 t2
        have O2h := Lib.hid O2
        have T2 := Lib.hid (Td.out.trans t2)
        have hvx2 := Lib.hid (row_cells (Bh.out.turns T2.out (by simp; exact hvbh.out _ rfl)) hcsh.out)
        have ha1 : ([xc] : List (List Value)).length = min 1 (N - i) := by have := hNh.out; simp; omega
        have ha2 : i + ([xc] : List (List Value)).length ≤ N := by have := hNh.out; simp; omega
        have ha1h := Lib.hid ha1
        have ha2h := Lib.hid ha2
        clear ha1 ha2 O2 t2 hnews hvx Ow
        go_wp2_with fail
        refine ⟨fun _ => True, fun _ h => h, trivial, ?_⟩
        refine flo_end ?_
        go_wp2_with (refine He.wp_copy_own (news := [xc]) O2h.out rfl _ _ rfl Try.underlying36 (by kernel_rfl) i (N - i) (c - i) ⟨vb, 0, none⟩ 1 1 rfl rfl ha1h.out ha2h.out hl1h.out hvx2.out honeh.out ?_; intro w3 O3 t3; refine stop_ ?_)
        refine Mk_.mk ?_
        rw [← hi1h.out, He.ins_shift (by rw [hnh.out]; omega) helh.out] at O3
        have T3 := T2.out.trans t3
        have H3 := hHh.out.slice 0 rfl O3 (by simpa [Value.ownBlock] using T3) (.inl rfl)
        have hX := hXh.out _ _ H3
        clear H3 O3 t3 T3 O2h hvx2 T2
        go_wp2_with fail
        exact hX
      · obtain rfl : c = n := by omega
        have g2 : decide ((c : Int) + 1 > (c : Int)) = true := decide_eq_true (by omega)
        obtain ⟨k, hk⟩ : ∃ k : Nat, c + 1 - i = k := ⟨_, rfl⟩
        have hkk : (c : Int) + 1 - (i : Int) = (k : Int) := by omega
        have hwk : IntKind.i64.wrap ((c : Int) + 1 - (i : Int)) = (k : Int) := by rw [hkk]; exact IntWalk.i64_in _ (by omega)
        have hk0 : 0 < k := by omega
        go_enter Try.func60, Try.ntmps60
        go_wp2_with (at_builtin; refine stop_ ?_)
        refine Mk_.mk ?_
        refine He.wp_append_zeros Oh.out rfl _ _ rfl (.agg #[.int .i64 0, .int .i64 0]) 16 .i64 .i64 Try.underlying36 Try.underlying3 infoLs rfl (by decide) i k (by omega) hk0 (by omega) rfl rfl (by omega) (by omega) ?_
        intro w3 G ext hel O3 hG hGm t3
        have hab : (⟨w.heap.size, 0, none⟩ : Addr).block = w.heap.size := rfl
        generalize hgad : (⟨w.heap.size, 0, none⟩ : Addr) = ad2 at *
        have habh := Lib.hid hab
        obtain ⟨N, hN⟩ : ∃ N, i + k = N := ⟨_, rfl⟩
        rw [hN] at O3 hG ⊢
        have hNc : N = c + 1 := by omega
        have r1 : ¬ G = i := by omega
        obtain ⟨i1, hi1⟩ : ∃ i1, i + 1 = i1 := ⟨_, rfl⟩
        have hi1h := Lib.hid hi1
        have r2 : ¬ G = i1 := by omega
        have s1 : IntKind.i64.wrap ((i : Int) + 1) = (i1 : Int) := by rw [IntWalk.i64_in _ (by omega)]; omega
        have s2 : (i1 : Int) ≤ (N : Int) := by omega
        have s3 : (i1 : Int) ≤ (G : Int) := by omega
        have r3 : (i : Int) ≤ (N : Int) := by omega
        have r4 : (N : Int) ≤ (G : Int) := by omega
        have r5 : (i : Int) ≤ (G : Int) := by omega
        have O3h := Lib.hid O3
        have hvx := Lib.hid (row_cells (Bh.out.turns t3 (by simp)) hcsh.out)
        have t3h := Lib.hid t3
        have hgh := Lib.hid hgad
        have helh := Lib.hid hel
        have hNch := Lib.hid hNc
        have hNk := Lib.hid hN
        clear O3 t3 hab hgad hel hNc hN hi1
        have ha1 : ([xc] : List (List Value)).length = min 1 (N - i) := by have := hNch.out; simp; omega
        have ha2 : i + ([xc] : List (List Value)).length ≤ N := by have := hNch.out; simp; omega
        have ha1h := Lib.hid ha1
        have ha2h := Lib.hid ha2
        clear ha1 ha2
        go_wp2_with (refine He.wp_copy_own (news := [xc]) O3h.out rfl _ _ rfl Try.underlying36 (by kernel_rfl) i (N - i) (G - i) ⟨vb, 0, none⟩ 1 1 rfl rfl ha1h.out ha2h.out hl1h.out hvx.out honeh.out ?_; intro w4 O4 t4; refine stop_ ?_)
        refine Mk_.mk ?_
        have T4 := Lib.hid ((t3h.out.mono (G := [ad2.block]) (by simp)).trans t4)
        have O4h := Lib.hid (O4.turns (Turns.refl [] w4).drew (by simp))
        have hadw : ad.block < w.heap.size := Oh.out.lt rfl
        have Oc := Oh.out.turns (T4.out.drew) (fun k hk => by simp [Value.ownBlock] at hk; subst hk; have := habh.out; simp; omega)
        have hsrc := Lib.hid (Oc.reads.cells (by decide) ad _ c rfl)
        have hlr := Lib.hid Oc.2
        have Td := Lib.hid T4.out.drew
        clear O4 t4 Oc hvx O3h
        have hnews : Hid (∀ j u, (rows.drop i).flatten[j]? = some u → w4.drew.cell? ((ad.add (i * 2)).add j) = some u) := Lib.hid (fun j u hj => by
          rw [Go.Deep.add_add]
          refine hsrc.out _ u ?_
          rw [Hu.flatten_drop (sz := 2) _ _ hlr.out, List.getElem?_drop] at hj
          exact hj)
        go_wp2_with fail
        go_wp2_with fail
        refine wp_region_flo [(0, true), (1, true), (2, true), (3, true), (4, true), (5, true), (6, true), (7, true), (8, false)] (fun W => True) (by kernel_rfl) rfl (by kernel_rfl) (by intro c d v a w h; cases d <;> first | (simpa [Exit.then, Exit.inBlock, Act.put] using h) | exact h) (trivial) ?_
        generalize w4.drew = w5 at *
        refine flo_read _ rfl (fun K hK => ?_)
        go_simp
        first | (refine hK _ ?_) | (refine ⟨fun W hS => ?_, hK _ ?_⟩; · (skip; try go_simp))
        clear hK K
        refine flo_read _ rfl (fun K hK => ?_)
        go_simp
        first | (refine hK _ ?_) | (refine ⟨fun W hS => ?_, hK _ ?_⟩; · (skip; try go_simp))
        clear hK K
        refine flo_read _ rfl (fun K hK => ?_)
        go_simp
        first | (refine hK _ ?_) | (refine ⟨fun W hS => ?_, hK _ ?_⟩; · (skip; try go_simp))
        clear hK K
        refine flo_read _ rfl (fun K hK => ?_)
        go_simp
        first | (refine hK _ ?_) | (refine ⟨fun W hS => ?_, hK _ ?_⟩; · (skip; try go_simp))
        clear hK K
        refine flo_read _ rfl (fun K hK => ?_)
        go_simp
        first | (refine hK _ ?_) | (refine ⟨fun W hS => ?_, hK _ ?_⟩; · (skip; try go_simp))
        clear hK K
        refine flo_read _ rfl (fun K hK => ?_)
        go_simp
        first | (refine hK _ ?_) | (refine ⟨fun W hS => ?_, hK _ ?_⟩; · (skip; try go_simp))
        clear hK K
        refine flo_read _ rfl (fun K hK => ?_)
        go_simp
        first | (refine hK _ ?_) | (refine ⟨fun W hS => ?_, hK _ ?_⟩; · (skip; try go_simp))
        clear hK K
        refine flo_read _ rfl (fun K hK => ?_)
        go_simp
        first | (refine hK _ ?_) | (refine ⟨fun W hS => ?_, hK _ ?_⟩; · (skip; try go_simp))
        clear hK K
        refine flo_alone _ rfl ?_
        refine He.wp_copy_own (news := rows.drop i) O4h.out rfl _ _ rfl Try.underlying36 (by kernel_rfl) i1 (N - i1) (G - i1) (ad.add (i * 2)) (c - i) (c - i) rfl rfl (by have := hi1h.out; have := hNch.out; have := hnh.out; rw [List.length_drop]; omega) (by have := hi1h.out; have := hNch.out; have := hnh.out; rw [List.length_drop]; omega) (fun r hr => hlr.out r (List.mem_of_mem_drop hr)) hnews.out (fun r hr => h1h.out r (List.mem_of_mem_drop hr)) ?_
        intro w6 O6 t6
        rw [← hi1h.out] at O6
        rw [He.ins_grow (by rw [hnh.out]; omega) (by rw [helh.out, hnh.out]; have := hNch.out; have := hNk.out; omega)] at O6
        have T6 := Td.out.trans t6
        have hX := hXh.out _ _ ⟨(Turns.refl FF w).then T6 (fun k hk => .inr (by simp at hk; subst hk; rw [habh.out]; exact Nat.le_refl _)), fun T hT => by rw [List.mem_singleton.1 hT]; exact O6, by simp, fun k hk => .inr (by
          have : k = ad2.block := by simpa [fps, tOwn, Value.ownBlock, eq_comm] using hk
          rw [this, habh.out]; exact Nat.le_refl _)⟩
        clear O6 t6 O4h hnews hsrc hlr
        go_wp2_with fail
        refine ⟨fun _ => True, fun _ h => h, trivial, ?_⟩
        refine flo_end ?_
        go_wp2_with fail
        exact hX
theorem ov_insR_is (w : World) (vb : Nat) (cs : Array Value) (ad : Addr) (la ca lb cb : Nat) (hb : Blk w vb cs 38) (cur : Array Value) (hk : w.heap[ad.block]? = some (.cells cur 38 (0, 0))) (hz : cur.size ≠ 0) (hne : vb ≠ ad.block) :
    (callFunc 73 #[.slice (some ⟨vb, 0, none⟩) la ca, .slice (some ad) lb cb]).run Try.prog w = .ok (.value (.bool false)) w := by
  rw [run_callFunc_extern Try.func73 (by kernel_rfl) (by kernel_rfl) (by kernel_rfl) (e := Extern.SlicesOverlaps.overlaps #[22, 22] #[4]) (by kernel_rfl),
    Lib.run_overlaps_apart w 22 4 38 Try.underlying22 4 (fun w => by kernel_rfl) ⟨vb, 0, none⟩ ad la ca lb cb hne 38 38 cs.size cur.size (by unfold Blk at hb; simp [World.shape?, hb]) (by simp [World.shape?, hk]) hz (by unfold Blk at hb; simp [World.frozen?, hb]) (by unfold Blk at hb; simp [World.frozen?, hb])]
  rfl
set_option maxHeartbeats 4000000 in
theorem insR_is (w : World) (v : Value) (rows : List (List Value)) (xc : List Value) (cs : Array Value) (i vb : Nat) (h : Got [tOwn 38 4 v rows, tBlk vb cs 38] w) (hcs : cs.toList = xc) (hi : i ≤ rows.length) (hn : rows.length ≤ 100000) (hxl : xc.length = 4) (h1 : ∀ r ∈ rows, ∀ u ∈ r, u.oneCell' = true) (hx1 : ∀ u ∈ xc, u.oneCell' = true) :
    Calls Try.prog 70 #[v, .int .i64 i, .slice (some ⟨vb, 0, none⟩) 1 1] w fun e w' => ∃ u, e = .returned u ∧ Sep (fps [tOwn 38 4 v rows]) w [tOwn 38 4 u (rows.take i ++ xc :: rows.drop i)] w' := by
  have O := h.sep.own 0 rfl
  have B := h.sep.blk 1 rfl
  have H : Sep (fps [tOwn 38 4 v rows]) w [tOwn 38 4 v rows] w := (Got.one (T := tOwn 38 4 v rows) O).sep
  have hvb : ∀ k, v.ownBlock = some k → vb ≠ k := fun k hk e => by
    have := h.ap
    simp only [List.pairwise_cons] at this
    have := this.1 (tBlk vb cs 38) (by simp) k (by simpa [tOwn] using hk)
    exact this (by simp [tBlk, e])
  have hone : ∀ r ∈ ([xc] : List (List Value)), ∀ u ∈ r, u.oneCell' = true := fun r hr u hu => by rw [List.mem_singleton.1 hr] at hu; exact hx1 u hu
  have hlen1 : ∀ r ∈ ([xc] : List (List Value)), r.length = 4 := fun r hr => by rw [List.mem_singleton.1 hr]; exact hxl
  generalize hFF : fps [tOwn 38 4 v rows] = FF at H ⊢
  obtain ⟨A, c, rfl, hc, hcm, hnil⟩ := O.form
  have RX : RdS 4 w (.slice (some ⟨vb, 0, none⟩) 1 1) [xc] := RdS.of_cells (rows := [xc]) B (by rw [hcs]; simp) hlen1 1 (by simp) (by decide)
  obtain ⟨n, hnn⟩ : ∃ n, rows.length = n := ⟨_, rfl⟩
  rw [hnn] at H O hi hn hc ⊢
  obtain ⟨X, hX⟩ : ∃ X : Ending → World → Prop, X = fun e w' => ∃ u, e = .returned u ∧ Sep FF w [tOwn 38 4 u (rows.take i ++ xc :: rows.drop i)] w' := ⟨_, rfl⟩
  rw [← hX]
  have hXh : Hid (∀ w' u, Sep FF w [tOwn 38 4 u (rows.take i ++ xc :: rows.drop i)] w' → X (.returned u) w') := Lib.hid (fun w' u h => by rw [hX]; exact ⟨u, rfl, h⟩)
  have hHh := Lib.hid H
  have RXh := Lib.hid RX
  have Oh := Lib.hid O
  have Bh := Lib.hid B
  have hnh := Lib.hid hnn
  have h1h := Lib.hid h1
  have honeh := Lib.hid hone
  have hl1h := Lib.hid hlen1
  have hvbh := Lib.hid hvb
  have hcsh := Lib.hid hcs
  have q1 : (i : Int) ≤ (n : Int) := by omega
  have q2 : (n : Int) ≤ (c : Int) := by omega
  have q3 : (i : Int) ≤ (c : Int) := by omega
  clear h hX H RX O B hnn h1 hone hlen1 hvb hcs hxl hx1 hFF
  by_cases hin : i = n
  · subst hin
    have g1 : ((i : Int) == (i : Int)) = true := by simp
    have hcat : Hid (rows.take i ++ xc :: rows.drop i = rows ++ [xc]) := Lib.hid (by rw [List.take_of_length_le (by rw [hnh.out]; exact Nat.le_refl _), List.drop_of_length_le (by rw [hnh.out]; exact Nat.le_refl _)])
    rw [hcat.out] at hXh
    have hlh : Hid (i + 1 = rows.length + ([xc] : List (List Value)).length) := Lib.hid (by rw [hnh.out]; rfl)
    by_cases hci : i = c
    · subst hci
      go_enter Try.func70, Try.ntmps70
      go_wp2_with (at_builtin; refine stop_ ?_)
      refine Mk_.mk ?_
      refine hHh.out.append 0 rfl RXh.out (i + 1) hlh.out (rows ++ [xc]) rfl rfl _ _ _ rfl (.agg #[.int .i64 0, .int .i64 0, .int .i64 0, .slice none 0 0]) 48 Try.underlying22 infoRow rfl (by decide) rfl rfl honeh.out (by omega) (by omega) ?_
      intro A1 c1 w3 H t3 _
      have hX := hXh.out _ _ H
      clear H t3
      go_wp2_with fail
      exact hX
    · have p2 : ¬ c = i := by omega
      go_enter Try.func70, Try.ntmps70
      go_wp2_with (at_builtin; refine stop_ ?_)
      refine Mk_.mk ?_
      refine hHh.out.append 0 rfl RXh.out (i + 1) hlh.out (rows ++ [xc]) rfl rfl _ _ _ rfl (.agg #[.int .i64 0, .int .i64 0, .int .i64 0, .slice none 0 0]) 48 Try.underlying22 infoRow rfl (by decide) rfl rfl honeh.out (by omega) (by omega) ?_
      intro A1 c1 w3 H t3 _
      have hX := hXh.out _ _ H
      clear H t3
      go_wp2_with fail
      exact hX
  · have hlt : i < n := by omega
    have g1 : ((i : Int) == (n : Int)) = false := by simp; omega
    have p1 : ¬ c = i := by omega
    have p2 : ¬ i = c := by omega
    cases A with
    | none => have := hnil rfl; omega
    | some ad =>
      by_cases hroom : n + 1 ≤ c
      · obtain ⟨ext, hel, O1⟩ := He.OwnS.extend Oh.out 1 hroom
        obtain ⟨cur, hcur, hcs2⟩ := own_blk O1
        obtain ⟨i1, hi1⟩ : ∃ i1, i + 1 = i1 := ⟨_, rfl⟩
        have hi1h := Lib.hid hi1
        obtain ⟨N, hN⟩ : ∃ N, n + 1 = N := ⟨_, rfl⟩
        have hNh := Lib.hid hN
        have hov : ∀ lb cb, (callFunc 73 #[.slice (some ⟨vb, 0, none⟩) 1 1, .slice (some (ad.add (i1 * 4))) lb cb]).run Try.prog w = .ok (.value (.bool false)) w := fun lb cb => ov_insR_is w vb cs (ad.add (i1 * 4)) 1 1 lb cb Bh.out cur (by rw [Kr_add]; exact hcur) (by rw [hcs2]; omega) (by rw [Kr_add]; exact hvbh.out _ rfl)
        have r0 : (i : Int) + 1 = (i1 : Int) := by omega
        have r0b : (n : Int) + 1 = (N : Int) := by omega
        have s1 : IntKind.i64.wrap ((i : Int) + 1) = (i1 : Int) := by rw [IntWalk.i64_in _ (by omega)]; omega
        have s1b : IntKind.i64.wrap (i1 : Int) = (i1 : Int) := IntWalk.i64_in _ (by omega)
        have r2 : (N : Int) ≤ (c : Int) := by omega
        have r3 : (i1 : Int) ≤ (N : Int) := by omega
        have r3b : (i1 : Int) ≤ (c : Int) := by omega
        have r4 : ¬ c = i1 := by omega
        have r6 : (i : Int) ≤ (N : Int) := by omega
        have g2 : decide ((N : Int) > (c : Int)) = false := decide_eq_false (by omega)
        have O1h := Lib.hid O1
        have hvx := Lib.hid (row_cells Bh.out hcsh.out)
        have helh := Lib.hid hel
        rw [hN] at O1h
        clear hcur O1 hel hcs2 hi1 hN hroom
        have Ow := Lib.hid (O1h.out.turns (Turns.refl [] w).drew (by simp))
        have hsrc := Lib.hid (O1h.out.reads.cells (by decide) ad _ c rfl)
        have hlr := Lib.hid O1h.out.2
        have hlr0 := Lib.hid Oh.out.2
        have hdx := Lib.hid (He.take_drop_ext (ext := ext) (l := rows) (i := i) (by rw [hnh.out]; omega))
        have hnews : Hid (∀ j u, (rows.drop i).flatten[j]? = some u → w.drew.cell? ((ad.add (i * 4)).add j) = some u) := Lib.hid (fun j u hj => by
          rw [Go.Deep.add_add]
          refine hsrc.out _ u ?_
          have e1 : (rows ++ ext).flatten.drop (i * 4) = (rows.drop i).flatten ++ ext.flatten := by
            rw [← Hu.flatten_drop (sz := 4) _ _ hlr.out, List.drop_append_of_le_length (by rw [hnh.out]; omega), List.flatten_append]
          rw [← List.getElem?_drop, e1, List.getElem?_append_left (List.getElem?_eq_some_iff.1 hj).1]
          exact hj)
        go_enter Try.func70, Try.ntmps70
        go_wp2_with (simp only [hov])
        go_wp2_with fail
        refine wp_region_flo [(0, true), (1, true), (2, true), (3, true), (4, true), (5, true), (6, true), (7, true), (8, false)] (fun W => True) (by kernel_rfl) rfl (by kernel_rfl) (by intro c d v a w h; cases d <;> first | (simpa [Exit.then, Exit.inBlock, Act.put] using h) | exact h) (trivial) ?_
        have Td := Lib.hid ((Turns.refl [ad.block] w).drew)
        have Td0 := Lib.hid ((Turns.refl [] w).drew)
        generalize w.drew = w1 at *
        refine flo_read _ rfl (fun K hK => ?_)
        go_simp
        first | (refine hK _ ?_) | (refine ⟨fun W hS => ?_, hK _ ?_⟩; · (skip; try go_simp))
        clear hK K
        refine flo_read _ rfl (fun K hK => ?_)
        go_simp
        first | (refine hK _ ?_) | (refine ⟨fun W hS => ?_, hK _ ?_⟩; · (skip; try go_simp))
        clear hK K
        refine flo_read _ rfl (fun K hK => ?_)
        go_simp
        first | (refine hK _ ?_) | (refine ⟨fun W hS => ?_, hK _ ?_⟩; · (skip; try go_simp))
        clear hK K
        refine flo_read _ rfl (fun K hK => ?_)
        go_simp
        first | (refine hK _ ?_) | (refine ⟨fun W hS => ?_, hK _ ?_⟩; · (skip; try go_simp))
        clear hK K
        refine flo_read _ rfl (fun K hK => ?_)
        go_simp
        first | (refine hK _ ?_) | (refine ⟨fun W hS => ?_, hK _ ?_⟩; · (skip; try go_simp))
        clear hK K
        refine flo_read _ rfl (fun K hK => ?_)
        go_simp
        first | (refine hK _ ?_) | (refine ⟨fun W hS => ?_, hK _ ?_⟩; · (skip; try go_simp))
        clear hK K
        refine flo_read _ rfl (fun K hK => ?_)
        go_simp
        first | (refine hK _ ?_) | (refine ⟨fun W hS => ?_, hK _ ?_⟩; · (skip; try go_simp))
        clear hK K
        refine flo_read _ rfl (fun K hK => ?_)
        go_simp
        first | (refine hK _ ?_) | (refine ⟨fun W hS => ?_, hK _ ?_⟩; · (skip; try go_simp))
        clear hK K
        refine flo_alone _ rfl ?_
        refine He.wp_copy_own (news := rows.drop i) Ow.out rfl _ _ rfl Try.underlying22 (by kernel_rfl) i1 (N - i1) (c - i1) (ad.add (i * 4)) (N - i) (c - i) rfl rfl (by have := hi1h.out; have := hNh.out; have := hnh.out; rw [List.length_drop]; omega) (by have := hi1h.out; have := hNh.out; have := hnh.out; rw [List.length_drop]; omega) (fun r hr => hlr0.out r (List.mem_of_mem_drop hr)) hnews.out (fun r hr => h1h.out r (List.mem_of_mem_drop hr)) ?_
        intro w2 O2 t2
        have O2h := Lib.hid O2
        have T2 := Lib.hid (Td.out.trans t2)
        have hvx2 := Lib.hid (row_cells (Bh.out.turns T2.out (by simp; exact hvbh.out _ rfl)) hcsh.out)
        have ha1 : ([xc] : List (List Value)).length = min 1 (N - i) := by have := hNh.out; simp; omega
        have ha2 : i + ([xc] : List (List Value)).length ≤ N := by have := hNh.out; simp; omega
        have ha1h := Lib.hid ha1
        have ha2h := Lib.hid ha2
        clear ha1 ha2 O2 t2 hnews hvx Ow
        go_wp2_with fail
        refine ⟨fun _ => True, fun _ h => h, trivial, ?_⟩
        refine flo_end ?_
        go_wp2_with (refine He.wp_copy_own (news := [xc]) O2h.out rfl _ _ rfl Try.underlying22 (by kernel_rfl) i (N - i) (c - i) ⟨vb, 0, none⟩ 1 1 rfl rfl ha1h.out ha2h.out hl1h.out hvx2.out honeh.out ?_; intro w3 O3 t3; refine stop_ ?_)
        refine Mk_.mk ?_
        rw [← hi1h.out, He.ins_shift (by rw [hnh.out]; omega) helh.out] at O3
        have T3 := T2.out.trans t3
        have H3 := hHh.out.slice 0 rfl O3 (by simpa [Value.ownBlock] using T3) (.inl rfl)
        have hX := hXh.out _ _ H3
        clear H3 O3 t3 T3 O2h hvx2 T2
        go_wp2_with fail
        exact hX
      · obtain rfl : c = n := by omega
        have g2 : decide ((c : Int) + 1 > (c : Int)) = true := decide_eq_true (by omega)
        obtain ⟨k, hk⟩ : ∃ k : Nat, c + 1 - i = k := ⟨_, rfl⟩
        have hkk : (c : Int) + 1 - (i : Int) = (k : Int) := by omega
        have hwk : IntKind.i64.wrap ((c : Int) + 1 - (i : Int)) = (k : Int) := by rw [hkk]; exact IntWalk.i64_in _ (by omega)
        have hk0 : 0 < k := by omega
        go_enter Try.func70, Try.ntmps70
        go_wp2_with (at_builtin; refine stop_ ?_)
        refine Mk_.mk ?_
        refine He.wp_append_zeros Oh.out rfl _ _ rfl (.agg #[.int .i64 0, .int .i64 0, .int .i64 0, .slice none 0 0]) 48 .i64 .i64 Try.underlying22 Try.underlying3 infoRow rfl (by decide) i k (by omega) hk0 (by omega) rfl rfl (by omega) (by omega) ?_
        intro w3 G ext hel O3 hG hGm t3
        have hab : (⟨w.heap.size, 0, none⟩ : Addr).block = w.heap.size := rfl
        generalize hgad : (⟨w.heap.size, 0, none⟩ : Addr) = ad2 at *
        have habh := Lib.hid hab
        obtain ⟨N, hN⟩ : ∃ N, i + k = N := ⟨_, rfl⟩
        rw [hN] at O3 hG ⊢
        have hNc : N = c + 1 := by omega
        have r1 : ¬ G = i := by omega
        obtain ⟨i1, hi1⟩ : ∃ i1, i + 1 = i1 := ⟨_, rfl⟩
        have hi1h := Lib.hid hi1
        have r2 : ¬ G = i1 := by omega
        have s1 : IntKind.i64.wrap ((i : Int) + 1) = (i1 : Int) := by rw [IntWalk.i64_in _ (by omega)]; omega
        have s2 : (i1 : Int) ≤ (N : Int) := by omega
        have s3 : (i1 : Int) ≤ (G : Int) := by omega
        have r3 : (i : Int) ≤ (N : Int) := by omega
        have r4 : (N : Int) ≤ (G : Int) := by omega
        have r5 : (i : Int) ≤ (G : Int) := by omega
        have O3h := Lib.hid O3
        have hvx := Lib.hid (row_cells (Bh.out.turns t3 (by simp)) hcsh.out)
        have t3h := Lib.hid t3
        have hgh := Lib.hid hgad
        have helh := Lib.hid hel
        have hNch := Lib.hid hNc
        have hNk := Lib.hid hN
        clear O3 t3 hab hgad hel hNc hN hi1
        have ha1 : ([xc] : List (List Value)).length = min 1 (N - i) := by have := hNch.out; simp; omega
        have ha2 : i + ([xc] : List (List Value)).length ≤ N := by have := hNch.out; simp; omega
        have ha1h := Lib.hid ha1
        have ha2h := Lib.hid ha2
        clear ha1 ha2
        go_wp2_with (refine He.wp_copy_own (news := [xc]) O3h.out rfl _ _ rfl Try.underlying22 (by kernel_rfl) i (N - i) (G - i) ⟨vb, 0, none⟩ 1 1 rfl rfl ha1h.out ha2h.out hl1h.out hvx.out honeh.out ?_; intro w4 O4 t4; refine stop_ ?_)
        refine Mk_.mk ?_
        have T4 := Lib.hid ((t3h.out.mono (G := [ad2.block]) (by simp)).trans t4)
        have O4h := Lib.hid (O4.turns (Turns.refl [] w4).drew (by simp))
        have hadw : ad.block < w.heap.size := Oh.out.lt rfl
        have Oc := Oh.out.turns (T4.out.drew) (fun k hk => by simp [Value.ownBlock] at hk; subst hk; have := habh.out; simp; omega)
        have hsrc := Lib.hid (Oc.reads.cells (by decide) ad _ c rfl)
        have hlr := Lib.hid Oc.2
        have Td := Lib.hid T4.out.drew
        clear O4 t4 Oc hvx O3h
        have hnews : Hid (∀ j u, (rows.drop i).flatten[j]? = some u → w4.drew.cell? ((ad.add (i * 4)).add j) = some u) := Lib.hid (fun j u hj => by
          rw [Go.Deep.add_add]
          refine hsrc.out _ u ?_
          rw [Hu.flatten_drop (sz := 4) _ _ hlr.out, List.getElem?_drop] at hj
          exact hj)
        go_wp2_with fail
        go_wp2_with fail
        refine wp_region_flo [(0, true), (1, true), (2, true), (3, true), (4, true), (5, true), (6, true), (7, true), (8, false)] (fun W => True) (by kernel_rfl) rfl (by kernel_rfl) (by intro c d v a w h; cases d <;> first | (simpa [Exit.then, Exit.inBlock, Act.put] using h) | exact h) (trivial) ?_
        generalize w4.drew = w5 at *
        refine flo_read _ rfl (fun K hK => ?_)
        go_simp
        first | (refine hK _ ?_) | (refine ⟨fun W hS => ?_, hK _ ?_⟩; · (skip; try go_simp))
        clear hK K
        refine flo_read _ rfl (fun K hK => ?_)
        go_simp
        first | (refine hK _ ?_) | (refine ⟨fun W hS => ?_, hK _ ?_⟩; · (skip; try go_simp))
        clear hK K
        refine flo_read _ rfl (fun K hK => ?_)
        go_simp
        first | (refine hK _ ?_) | (refine ⟨fun W hS => ?_, hK _ ?_⟩; · (skip; try go_simp))
        clear hK K
        refine flo_read _ rfl (fun K hK => ?_)
        go_simp
        first | (refine hK _ ?_) | (refine ⟨fun W hS => ?_, hK _ ?_⟩; · (skip; try go_simp))
        clear hK K
        refine flo_read _ rfl (fun K hK => ?_)
        go_simp
        first | (refine hK _ ?_) | (refine ⟨fun W hS => ?_, hK _ ?_⟩; · (skip; try go_simp))
        clear hK K
        refine flo_read _ rfl (fun K hK => ?_)
        go_simp
        first | (refine hK _ ?_) | (refine ⟨fun W hS => ?_, hK _ ?_⟩; · (skip; try go_simp))
        clear hK K
        refine flo_read _ rfl (fun K hK => ?_)
        go_simp
        first | (refine hK _ ?_) | (refine ⟨fun W hS => ?_, hK _ ?_⟩; · (skip; try go_simp))
        clear hK K
        refine flo_read _ rfl (fun K hK => ?_)
        go_simp
        first | (refine hK _ ?_) | (refine ⟨fun W hS => ?_, hK _ ?_⟩; · (skip; try go_simp))
        clear hK K
        refine flo_alone _ rfl ?_
        refine He.wp_copy_own (news := rows.drop i) O4h.out rfl _ _ rfl Try.underlying22 (by kernel_rfl) i1 (N - i1) (G - i1) (ad.add (i * 4)) (c - i) (c - i) rfl rfl (by have := hi1h.out; have := hNch.out; have := hnh.out; rw [List.length_drop]; omega) (by have := hi1h.out; have := hNch.out; have := hnh.out; rw [List.length_drop]; omega) (fun r hr => hlr.out r (List.mem_of_mem_drop hr)) hnews.out (fun r hr => h1h.out r (List.mem_of_mem_drop hr)) ?_
        intro w6 O6 t6
        rw [← hi1h.out] at O6
        rw [He.ins_grow (by rw [hnh.out]; omega) (by rw [helh.out, hnh.out]; have := hNch.out; have := hNk.out; omega)] at O6
        have T6 := Td.out.trans t6
        have hX := hXh.out _ _ ⟨(Turns.refl FF w).then T6 (fun k hk => .inr (by simp at hk; subst hk; rw [habh.out]; exact Nat.le_refl _)), fun T hT => by rw [List.mem_singleton.1 hT]; exact O6, by simp, fun k hk => .inr (by
          have : k = ad2.block := by simpa [fps, tOwn, Value.ownBlock, eq_comm] using hk
          rw [this, habh.out]; exact Nat.le_refl _)⟩
        clear O6 t6 O4h hnews hsrc hlr
        go_wp2_with fail
        refine ⟨fun _ => True, fun _ h => h, trivial, ?_⟩
        refine flo_end ?_
        go_wp2_with fail
        exact hX
end Go.Proofs.Ytphhfdlhkginkaa.Bi
