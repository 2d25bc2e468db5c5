/- The document's numbers of a token. -/
import Derived.Test.YtohokckpheljbaaNe
import Derived.Test.YtohokckpheljbaaKp
set_option linter.unusedVariables false
set_option linter.unusedSimpArgs false
set_option maxRecDepth 100000
namespace Go.Proofs.Ytohokckpheljbaa.Nj
open Go.RowKit Go.MapKept Hm Hs Hr Hb Hf Hg Hv Hx Fa Ff Fg Fi Fj Fq Kw Kn Kr Ks Kt Na Nb Nz Nd Ne_
theorem own_lit (w : World) (xs : List Int) (cs : Array Value) (hx : cs.toList = xs.map (Value.int .i64)) (n : Nat) (hn : n = xs.length) (hl : n ≤ 1000) : OwnS 3 1 (w.alloc (.cells cs 3)) (.slice (some ⟨w.heap.size, 0, none⟩) n n) (ins xs) := by
  subst hn
  have hs : cs.size = xs.length * 1 := by rw [← Array.length_toList, hx, List.length_map, Nat.mul_one]
  have := World.ownsRow_lit (base := 0) (e := 3) (size := 1) w cs xs.length (Nat.zero_le _) (by unfold maxLen; omega) hs
  refine ⟨?_, by intro r hr; unfold ins at hr; obtain ⟨x, _, rfl⟩ := List.mem_map.1 hr; rfl⟩
  rw [ins_len, ins_flat, ← hx]
  exact this
/-- three cells -/
structure K3 (a1 a2 a3 : Addr) (v1 v2 v3 : Value) (W : World) : Prop where
  c1 : W.cell? a1 = some v1
  c2 : W.cell? a2 = some v2
  c3 : W.cell? a3 = some v3
theorem ok_len {N p q : List Int} (h : p ++ q = N) : p.length + q.length = N.length := by rw [← h, List.length_append]
set_option maxHeartbeats 8000000 in
theorem numbers_is (w : World) (t : Tok) (sv rv : Value) (ht : TokR w t sv rv) (hl : (tokN t).length ≤ 2200) (ho : (tokN t).all okNum = true) :
    Calls Try.prog 75 #[tkv t sv rv] w fun e w' => ∃ v, e = .returned v ∧ OwnS 3 1 w' v (ins (tokN t)) ∧ Turns [] w w' ∧ ∀ k, v.ownBlock = some k → w.heap.size ≤ k := by
  obtain ⟨g, s, st, m, R⟩ := t
  obtain ⟨hst, hR⟩ := ht
  simp only at hst hR
  obtain ⟨A, c, rfl, _⟩ := rform hst
  obtain ⟨B, d, rfl, _⟩ := hR.form
  have hsth := Lib.hid hst
  have hRh := Lib.hid hR
  obtain ⟨X, hX⟩ : ∃ X : Ending → World → Prop, X = fun e w' => ∃ v, e = .returned v ∧ OwnS 3 1 w' v (ins (tokN ⟨g, s, st, m, R⟩)) ∧ Turns [] w w' ∧ ∀ k, v.ownBlock = some k → w.heap.size ≤ k := ⟨_, rfl⟩
  rw [← hX]
  have hXh : Hid (∀ A' q' c' w' l, Sep [] w (tOwn 3 1 (.slice A' q' c') (ins (tokN ⟨g, s, st, m, R⟩)) :: l) w' → X (.returned (.slice A' q' c')) w') := Lib.hid (fun A' q' c' w' l h => by rw [hX]; exact ⟨_, rfl, h.own 0 rfl, h.t, fun k hk => by simpa using mine_own h 0 rfl k hk⟩)
  have hNe : [g, s, (st.length : Int)] ++ (st.map (· + 1) ++ ([m, (R.length : Int)] ++ R.flatMap rowN)) = tokN ⟨g, s, st, m, R⟩ := rfl
  generalize tokN ⟨g, s, st, m, R⟩ = N at *
  have hNeh := Lib.hid hNe
  have hlh := Lib.hid hl
  have hoh := Lib.hid ho
  have H1 := Lib.hid ((Sep.start w).alloc #[.int .i64 g, .int .i64 s, .slice A st.length c, .int .i64 m, .slice B R.length d] 39)
  unfold tkv
  simp only
  clear hst hR hX ho hl hNe
  go_enter Try.func75, Try.ntmps75
  go_upto_region 1 with fail
  generalize w.alloc (.cells #[.int .i64 g, .int .i64 s, .slice A st.length c, .int .i64 m, .slice B R.length d] 39) = w1 at *
  generalize w.heap.size = tb at *
  have c0 : World.cell? (w1) ⟨tb, 0, none⟩ = some _ := (H1.out.blk 0 rfl).cell 0
  have c1 : World.cell? (w1) ⟨tb, 1, none⟩ = some _ := (H1.out.blk 0 rfl).cell 1
  have c2 : World.cell? (w1) ⟨tb, 2, none⟩ = some _ := (H1.out.blk 0 rfl).cell 2
  have H2 := Lib.hid (H1.out.newSlice ((Turns.refl [] w1).alloc (.cells #[.int .i64 g, .int .i64 s, .int .i64 st.length] 3)) (own_lit w1 [g, s, (st.length : Int)] #[.int .i64 g, .int .i64 s, .int .i64 st.length] rfl 3 rfl (by omega)) (by intro k hk; simp [Value.ownBlock] at hk; omega))
  clear H1
  go_upto_region 2 with fail
  generalize w1.alloc (.cells #[.int .i64 g, .int .i64 s, .int .i64 st.length] 3) = w2 at *
  generalize w1.heap.size = sb at *
  clear c0 c1 c2
  go_wp2_with fail
  go_loopw [3, 4] (fun v3 v4 wr => ∃ (k : Nat) (p : List Int) (A' : Option Addr) (q c' : Nat), k ≤ st.length ∧ v3 = .slice A' q c' ∧ v4 = .int .i64 k ∧ p ++ ((st.drop k).map (· + 1) ++ ([m, (R.length : Int)] ++ R.flatMap rowN)) = N ∧ Sep [] w [tOwn 3 1 (.slice A' q c') (ins p), tBlk tb #[.int .i64 g, .int .i64 s, .slice A st.length c, .int .i64 m, .slice B R.length d] 39] wr) (fun v3 v4 _ => st.length - (intOf v4).toNat)
  case atStart => exact ⟨0, [g, s, (st.length : Int)], _, _, _, by omega, rfl, rfl, hNeh.out, H2.out⟩
  case round =>
    clear H2
    obtain ⟨k, p, A', q, c', hk, rfl, rfl, hp, H⟩ := hrel
    have c2 : World.cell? (wr) ⟨tb, 2, none⟩ = some _ := (H.blk 1 rfl).cell 2
    by_cases hlt : k < st.length
    · have g1 : decide ((k : Int) < (st.length : Int)) = true := decide_eq_true (by omega)
      have g1b : decide (k < st.length) = true := decide_eq_true hlt
      obtain ⟨x, hx⟩ : ∃ x, st[k]? = some x := ⟨_, List.getElem?_eq_getElem hlt⟩
      obtain ⟨ad, c', hv, _, hc⟩ := (hsth.out.mv (fun a u => H.t.old)).at_ (j := k) (r := [.int .i64 x]) (by unfold ins; rw [List.getElem?_map, hx]; rfl)
      rw [ins_len] at hv
      injection hv with e1 e2 e3
      subst e1 e3
      have i0 := hc 0 _ rfl
      rw [Nat.mul_one, Nat.add_zero] at i0
      rw [drop_cons hx, List.map_cons, List.cons_append] at hp
      have hxb := ok_mem hp hoh.out
      have hw5 : IntKind.i64.wrap (x + 1) = x + 1 := IntWalk.i64_in _ (by omega)
      have hpl := ok_len hp
      have hlN := hlh.out
      have hph : Hid ((p ++ [x + 1]) ++ ((st.drop (k + 1)).map (· + 1) ++ ([m, (R.length : Int)] ++ R.flatMap rowN)) = N) := Lib.hid (by rw [← hp]; simp)
      have hHe := Lib.hid (H.turns ((Turns.refl [] wr).alloc (.cells #[.int .i64 (x + 1)] 3)))
      have R9 := Lib.hid (lit_rd wr [x + 1] #[.int .i64 (x + 1)] rfl 1 rfl (by omega))
      have hpl2 : p.length ≤ 2200 := by omega
      clear hp H hc e2 hx hxb hpl hlN
      go_wp2_with (at_builtin; refine stop_ ?_)
      refine Mk_.mk ?_
      refine hHe.out.append 0 rfl R9.out (p.length + 1) (by rw [ins_len, ins_len]; rfl) (ins (p ++ [x + 1])) (ins_append _ _) rfl _ _ _ rfl (.int .i64 0) 8 Try.underlying34 info3 rfl (by decide) rfl rfl (ins_one _) (by omega) (by omega) ?_
      intro A3 c3 wf Hf tf hnil
      have hHf := Lib.hid Hf
      clear R9 hHe Hf tf hnil c2 i0
      go_wp2_with fail
      go_roundw
      case rel => exact ⟨k + 1, p ++ [x + 1], _, _, _, by omega, rfl, by go_num, hph.out, hHf.out⟩
      case measure => simp [RowKit.intOf]; omega
    · obtain rfl : k = st.length := by omega
      have g1 : decide ((st.length : Int) < (st.length : Int)) = false := by simp
      rw [List.drop_length, List.map_nil, List.nil_append] at hp
      have c3 : World.cell? (wr) ⟨tb, 3, none⟩ = some _ := (H.blk 1 rfl).cell 3
      have c4 : World.cell? (wr) ⟨tb, 4, none⟩ = some _ := (H.blk 1 rfl).cell 4
      have hpl := ok_len hp
      have hlN := hlh.out
      have hpl2 : p.length ≤ 2200 := by omega
      have hph : Hid ((p ++ [m, (R.length : Int)]) ++ R.flatMap rowN = N) := Lib.hid (by rw [← hp]; simp)
      have hHe := Lib.hid (H.turns ((Turns.refl [] wr).alloc (.cells #[.int .i64 m, .int .i64 R.length] 3)))
      have R9 := Lib.hid (lit_rd wr [m, (R.length : Int)] #[.int .i64 m, .int .i64 R.length] rfl 2 rfl (by omega))
      clear hp H hlt hk hpl hlN
      go_wp2_with (at_builtin; refine stop_ ?_)
      refine Mk_.mk ?_
      refine hHe.out.append 0 rfl R9.out (p.length + 2) (by rw [ins_len, ins_len]; rfl) (ins (p ++ [m, (R.length : Int)])) (ins_append _ _) rfl _ _ _ rfl (.int .i64 0) 8 Try.underlying34 info3 rfl (by decide) rfl rfl (ins_one _) (by omega) (by omega) ?_
      intro A3 c3_ wf Hf tf hnil
      have hHf := Lib.hid Hf
      generalize p ++ [m, (R.length : Int)] = p4 at *
      clear R9 hHe Hf tf hnil c2 c3 c4
      go_wp2_with fail
      go_loopw [3, 5] (fun v3 v5 wr => ∃ (k : Nat) (p : List Int) (A' : Option Addr) (q c' : Nat), k ≤ R.length ∧ v3 = .slice A' q c' ∧ v5 = .int .i64 k ∧ p ++ (R.drop k).flatMap rowN = N ∧ Sep [] w [tOwn 3 1 (.slice A' q c') (ins p), tBlk tb #[.int .i64 g, .int .i64 s, .slice A st.length c, .int .i64 m, .slice B R.length d] 39] wr) (fun v3 v5 _ => R.length - (intOf v5).toNat)
      case atStart => exact ⟨0, p4, _, _, _, by omega, rfl, rfl, hph.out, hHf.out⟩
      case round =>
        clear hHf hph p4 hpl2
        obtain ⟨k, p, A', q, c', hk, rfl, rfl, hp, H⟩ := hrel
        have c4 : World.cell? (wr) ⟨tb, 4, none⟩ = some _ := (H.blk 1 rfl).cell 4
        by_cases hlt : k < R.length
        · have g1 : decide ((k : Int) < (R.length : Int)) = true := decide_eq_true (by omega)
          have g1b : decide (k < R.length) = true := decide_eq_true hlt
          obtain ⟨r, hr⟩ : ∃ r, R[k]? = some r := ⟨_, List.getElem?_eq_getElem hlt⟩
          obtain ⟨ad, c', x, hv, hxr, RC⟩ := hRh.out.at_ hr
          injection hv with e1 e2 e3
          subst e1 e3
          obtain ⟨i0, i1, i2, i3⟩ := RC.turns H.t
          rw [hxr.key] at i0
          rw [hxr.avail] at i1
          rw [hxr.mark] at i2
          have hout := hxr.out
          obtain ⟨Ao, co, ho3, _⟩ := ls_form hout
          rw [ho3] at i3 hout
          have houth := Lib.hid hout
          rw [drop_cons hr, List.flatMap_cons] at hp
          rw [show rowN r = [r.key, r.avail, r.mark, (r.out.length : Int)] ++ r.out.flatMap (fun p => [p.1, p.2]) from rfl] at hp
          have hpl := ok_len hp
          have hlN := hlh.out
          have hpl2 : p.length ≤ 2200 := by omega
          have hph : Hid ((p ++ [r.key, r.avail, r.mark, (r.out.length : Int)]) ++ ((r.out.flatMap fun p => [p.1, p.2]) ++ (R.drop (k + 1)).flatMap rowN) = N) := Lib.hid (by rw [← hp]; simp)
          have hH5 := Lib.hid ((H.alloc #[.int .i64 r.key, .int .i64 r.avail, .int .i64 r.mark, .slice Ao r.out.length co] 86).keep [1, 0, 2])
          clear hp H e2 hr hxr ho3 hout RC hpl hlN
          go_upto_region 11 with fail
          generalize wr.alloc (.cells #[.int .i64 r.key, .int .i64 r.avail, .int .i64 r.mark, .slice Ao r.out.length co] 86) = w5 at *
          generalize wr.heap.size = rb at *
          clear i0 i1 i2 i3 c4
          have x0 : World.cell? (w5) ⟨rb, 0, none⟩ = some _ := (hH5.out.blk 1 rfl).cell 0
          have x1 : World.cell? (w5) ⟨rb, 1, none⟩ = some _ := (hH5.out.blk 1 rfl).cell 1
          have x2 : World.cell? (w5) ⟨rb, 2, none⟩ = some _ := (hH5.out.blk 1 rfl).cell 2
          have x3 : World.cell? (w5) ⟨rb, 3, none⟩ = some _ := (hH5.out.blk 1 rfl).cell 3
          have hHe := Lib.hid (hH5.out.turns ((Turns.refl [] w5).alloc (.cells #[.int .i64 r.key, .int .i64 r.avail, .int .i64 r.mark, .int .i64 r.out.length] 3)))
          have R9 := Lib.hid (lit_rd w5 [r.key, r.avail, r.mark, (r.out.length : Int)] #[.int .i64 r.key, .int .i64 r.avail, .int .i64 r.mark, .int .i64 r.out.length] rfl 4 rfl (by omega))
          clear hH5
          go_wp2_with (at_builtin; refine stop_ ?_)
          refine Mk_.mk ?_
          refine hHe.out.append 0 rfl R9.out (p.length + 4) (by rw [ins_len, ins_len]; rfl) (ins (p ++ [r.key, r.avail, r.mark, (r.out.length : Int)])) (ins_append _ _) rfl _ _ _ rfl (.int .i64 0) 8 Try.underlying34 info3 rfl (by decide) rfl rfl (ins_one _) (by omega) (by omega) ?_
          intro A3 c3_ wf Hf tf hnil
          have hHf := Lib.hid Hf
          generalize p ++ [r.key, r.avail, r.mark, (r.out.length : Int)] = p6 at *
          clear R9 hHe Hf tf hnil x0 x1 x2 x3
          go_wp2_with fail
          go_loopw [3, 7] (fun v3 v7 wi => ∃ (j : Nat) (p : List Int) (A' : Option Addr) (q c' : Nat), j ≤ r.out.length ∧ v3 = .slice A' q c' ∧ v7 = .int .i64 j ∧ p ++ (((r.out.drop j).flatMap fun p => [p.1, p.2]) ++ (R.drop (k + 1)).flatMap rowN) = N ∧ Sep [] w [tOwn 3 1 (.slice A' q c') (ins p), tBlk rb #[.int .i64 r.key, .int .i64 r.avail, .int .i64 r.mark, .slice Ao r.out.length co] 86, tBlk tb #[.int .i64 g, .int .i64 s, .slice A st.length c, .int .i64 m, .slice (some ad) R.length d] 39] wi) (fun v3 v7 _ => r.out.length - (intOf v7).toNat)
          case atStart => exact ⟨0, p6, _, _, _, by omega, rfl, rfl, hph.out, hHf.out⟩
          case round =>
            clear hHf hph p6 hpl2
            obtain ⟨j, p, A', q, c', hj, rfl, rfl, hp, H⟩ := hrel
            have x3 : World.cell? (wr) ⟨rb, 3, none⟩ = some _ := (H.blk 1 rfl).cell 3
            by_cases hjl : j < r.out.length
            · have g2 : decide ((j : Int) < (r.out.length : Int)) = true := decide_eq_true (by omega)
              have g2b : decide (j < r.out.length) = true := decide_eq_true hjl
              obtain ⟨y, hy⟩ : ∃ y, r.out[j]? = some y := ⟨_, List.getElem?_eq_getElem hjl⟩
              obtain ⟨ad2, c2, hv, LC⟩ := ls_at houth.out hy
              injection hv with e1 e2 e3
              subst e1 e3
              have LCh := Lib.hid LC
              rw [drop_cons hy, List.flatMap_cons, List.append_assoc] at hp
              have hpl := ok_len hp
              have hlN := hlh.out
              have hpl2 : p.length ≤ 2200 := by omega
              have hph : Hid ((p ++ [y.1, y.2]) ++ (((r.out.drop (j + 1)).flatMap fun p => [p.1, p.2]) ++ (R.drop (k + 1)).flatMap rowN) = N) := Lib.hid (by rw [← hp]; simp)
              have hK : Hid (∀ W, Sep [] w [tOwn 3 1 (.slice A' q c') (ins p), tBlk rb #[.int .i64 r.key, .int .i64 r.avail, .int .i64 r.mark, .slice (some ad2) r.out.length co] 86, tBlk tb #[.int .i64 g, .int .i64 s, .slice A st.length c, .int .i64 m, .slice (some ad) R.length d] 39] W → K3 ⟨rb, 3, none⟩ (ad2.add (j * 2)) ⟨(ad2.add (j * 2)).block, (ad2.add (j * 2)).off + 1, none⟩ (.slice (some ad2) r.out.length co) (.int .i64 y.1) (.int .i64 y.2) W) := Lib.hid (fun W h => ⟨(h.blk 1 rfl).cell 3, (LCh.out.turns h.t).n, (LCh.out.turns h.t).a⟩)
              have hHd := Lib.hid H.drew
              clear hp H e2 hy hpl hlN LC
              go_wp2_with fail
              clear x3
              go_wp2_with fail
              refine wp_region_flo [(0, true), (1, true), (2, true), (3, true), (4, true), (5, true), (6, true), (7, true), (8, true), (9, true), (10, true), (11, true), (12, true), (13, false), (14, false), (15, true)] (fun W => K3 ⟨rb, 3, none⟩ (ad2.add (j * 2)) ⟨(ad2.add (j * 2)).block, (ad2.add (j * 2)).off + 1, none⟩ (.slice (some ad2) r.out.length co) (.int .i64 y.1) (.int .i64 y.2) W) (by kernel_rfl) rfl (by kernel_rfl) (by intro c d v a w h; cases d <;> first | (simpa [Exit.then, Exit.inBlock, Act.put] using h) | exact h) (hK.out _ hHd.out) ?_
              generalize wr.drew = wd at *
              have k1 := (hK.out _ hHd.out).c1
              have k2 := (hK.out _ hHd.out).c2
              have k3 := (hK.out _ hHd.out).c3
              refine flo_read _ rfl (fun K hK => ?_)
              go_simp
              first | (refine hK _ ?_) | (refine ⟨fun W hS => ?_, hK _ ?_⟩; · (have y1 := hS.c1; have y2 := hS.c2; have y3 := hS.c3; try go_simp))
              clear hK K
              refine flo_read _ rfl (fun K hK => ?_)
              go_simp
              first | (refine hK _ ?_) | (refine ⟨fun W hS => ?_, hK _ ?_⟩; · (have y1 := hS.c1; have y2 := hS.c2; have y3 := hS.c3; try go_simp))
              clear hK K
              refine flo_read _ rfl (fun K hK => ?_)
              go_simp
              first | (refine hK _ ?_) | (refine ⟨fun W hS => ?_, hK _ ?_⟩; · (have y1 := hS.c1; have y2 := hS.c2; have y3 := hS.c3; try go_simp))
              clear hK K
              refine flo_read _ rfl (fun K hK => ?_)
              go_simp
              first | (refine hK _ ?_) | (refine ⟨fun W hS => ?_, hK _ ?_⟩; · (have y1 := hS.c1; have y2 := hS.c2; have y3 := hS.c3; try go_simp))
              clear hK K
              refine flo_read _ rfl (fun K hK => ?_)
              go_simp
              first | (refine hK _ ?_) | (refine ⟨fun W hS => ?_, hK _ ?_⟩; · (have y1 := hS.c1; have y2 := hS.c2; have y3 := hS.c3; try go_simp))
              clear hK K
              refine flo_read _ rfl (fun K hK => ?_)
              go_simp
              first | (refine hK _ ?_) | (refine ⟨fun W hS => ?_, hK _ ?_⟩; · (have y1 := hS.c1; have y2 := hS.c2; have y3 := hS.c3; try go_simp))
              clear hK K
              refine flo_read _ rfl (fun K hK => ?_)
              go_simp
              first | (refine hK _ ?_) | (refine ⟨fun W hS => ?_, hK _ ?_⟩; · (have y1 := hS.c1; have y2 := hS.c2; have y3 := hS.c3; try go_simp))
              clear hK K
              refine flo_read _ rfl (fun K hK => ?_)
              go_simp
              first | (refine hK _ ?_) | (refine ⟨fun W hS => ?_, hK _ ?_⟩; · (have y1 := hS.c1; have y2 := hS.c2; have y3 := hS.c3; try go_simp))
              clear hK K
              refine flo_read _ rfl (fun K hK => ?_)
              go_simp
              first | (refine hK _ ?_) | (refine ⟨fun W hS => ?_, hK _ ?_⟩; · (have y1 := hS.c1; have y2 := hS.c2; have y3 := hS.c3; try go_simp))
              clear hK K
              refine flo_read _ rfl (fun K hK => ?_)
              go_simp
              first | (refine hK _ ?_) | (refine ⟨fun W hS => ?_, hK _ ?_⟩; · (have y1 := hS.c1; have y2 := hS.c2; have y3 := hS.c3; try go_simp))
              clear hK K
              refine flo_read _ rfl (fun K hK => ?_)
              go_simp
              first | (refine hK _ ?_) | (refine ⟨fun W hS => ?_, hK _ ?_⟩; · (have y1 := hS.c1; have y2 := hS.c2; have y3 := hS.c3; try go_simp))
              clear hK K
              refine flo_read _ rfl (fun K hK => ?_)
              go_simp
              first | (refine hK _ ?_) | (refine ⟨fun W hS => ?_, hK _ ?_⟩; · (have y1 := hS.c1; have y2 := hS.c2; have y3 := hS.c3; try go_simp))
              clear hK K
              refine flo_read _ rfl (fun K hK => ?_)
              go_simp
              first | (refine hK _ ?_) | (refine ⟨fun W hS => ?_, hK _ ?_⟩; · (have y1 := hS.c1; have y2 := hS.c2; have y3 := hS.c3; try go_simp))
              clear hK K
              clear k1 k2 k3
              have R9 := Lib.hid (lit_rd wd [y.1, y.2] #[.int .i64 y.1, .int .i64 y.2] rfl 2 rfl (by omega))
              have hHe := Lib.hid (hHd.out.turns ((Turns.refl [] wd).alloc (.cells #[.int .i64 y.1, .int .i64 y.2] 3)))
              refine flo_alone _ rfl ?_
              go_wp2_with fail
              refine ⟨fun W => K3 ⟨rb, 3, none⟩ (ad2.add (j * 2)) ⟨(ad2.add (j * 2)).block, (ad2.add (j * 2)).off + 1, none⟩ (.slice (some ad2) r.out.length co) (.int .i64 y.1) (.int .i64 y.2) W, fun W h => h, hK.out _ hHe.out, ?_⟩
              refine flo_alone _ rfl ?_
              refine hHe.out.append 0 rfl R9.out (p.length + 2) (by rw [ins_len, ins_len]; rfl) (ins (p ++ [y.1, y.2])) (ins_append _ _) rfl _ _ _ rfl (.int .i64 0) 8 Try.underlying34 info3 rfl (by decide) rfl rfl (ins_one _) (by omega) (by omega) ?_
              intro A3 c3_ wf Hf tf hnil
              have hHf := Lib.hid Hf
              clear R9 hHe Hf tf hnil hHd
              go_wp2_with fail
              refine ⟨fun W => K3 ⟨rb, 3, none⟩ (ad2.add (j * 2)) ⟨(ad2.add (j * 2)).block, (ad2.add (j * 2)).off + 1, none⟩ (.slice (some ad2) r.out.length co) (.int .i64 y.1) (.int .i64 y.2) W, fun W h => h, ⟨(hHf.out.blk 1 rfl).cell 3, (LCh.out.turns hHf.out.t).n, (LCh.out.turns hHf.out.t).a⟩, ?_⟩
              refine flo_read _ rfl (fun K hK => ?_)
              go_simp
              first | (refine hK _ ?_) | (refine ⟨fun W hS => ?_, hK _ ?_⟩; · (skip; try go_simp))
              clear hK K
              refine flo_end ?_
              go_wp2_with fail
              go_roundw
              case rel => exact ⟨j + 1, p ++ [y.1, y.2], _, _, _, by omega, rfl, by go_num, hph.out, hHf.out⟩
              case measure => simp [RowKit.intOf]; omega
            · obtain rfl : j = r.out.length := by omega
              have g2 : decide ((r.out.length : Int) < (r.out.length : Int)) = false := by simp
              rw [List.drop_length, List.flatMap_nil, List.nil_append] at hp
              have hph := Lib.hid hp
              have hHf := Lib.hid (H.keep [0, 2])
              clear hp H hjl hj
              go_wp2_with fail
              go_roundw
              case rel => exact ⟨k + 1, p, _, _, _, by omega, rfl, by go_num, hph.out, hHf.out⟩
              case measure => simp [RowKit.intOf]; omega
        · obtain rfl : k = R.length := by omega
          have g1 : decide ((R.length : Int) < (R.length : Int)) = false := by simp
          rw [List.drop_length, List.flatMap_nil, List.append_nil] at hp
          subst hp
          have hX := hXh.out _ _ _ _ _ H
          clear H hlt hk
          go_wp2_with fail
          exact hX
end Go.Proofs.Ytohokckpheljbaa.Nj
