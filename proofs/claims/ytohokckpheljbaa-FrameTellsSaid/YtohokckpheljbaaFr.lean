/- frame.Clone: the same token, in memory of its own. -/
import Derived.Test.YtohokckpheljbaaFq
set_option linter.unusedVariables false
set_option linter.unusedSimpArgs false
set_option maxRecDepth 100000
namespace Go.Proofs.Ytohokckpheljbaa.Fr_
open Go.RowKit Go.MapKept Go.Shelf Hm Hs Hf Hx Hy Hv Fa Fb Ff Fg Fi Fq
def fitsT (t : Tok) : Prop := t.st.length ≤ 100 ∧ t.rows.length ≤ 100 ∧ ∀ r ∈ t.rows, r.out.length ≤ 100
/-- k rows have leases of their own -/
structure Part (w wr : World) (n0 : Nat) (X Y : List Rw) (R : List Row) (k : Nat) : Prop where
  le : k ≤ R.length
  len : Y.length = R.length
  done : ∀ (j : Nat) (y : Rw) (r : Row), j < k → Y[j]? = some y → R[j]? = some r → RowIs wr y r ∧ From n0 y.out
  rest : ∀ j, k ≤ j → Y[j]? = X[j]?
theorem rowis_far {w w' : World} {x : Rw} {r : Row} {F : List Nat} {n : Nat} (h : RowIs w x r) (hx : From n x.out) (t : Turns F w w') (hF : ∀ k ∈ F, k < n) : RowIs w' x r :=
  ⟨h.key, h.avail, h.mark, RdS.far h.out t (fun k hk hkF => by have := hx k hk; have := hF k hkF; omega)⟩
theorem Part.next {w wr w5 : World} {n0 k : Nat} {X Y : List Rw} {R : List Row} {F : List Nat} {x : Rw} {r : Row} {u : Value} (h : Part w wr n0 X Y R k) (hr : R[k]? = some r) (t : Turns F wr w5) (hF : ∀ k ∈ F, k < n0) (hx : RowIs w5 ⟨x.key, x.avail, x.mark, u⟩ r) (hu : From n0 u) : Part w w5 n0 X (Y.set k ⟨x.key, x.avail, x.mark, u⟩) R (k + 1) := by
  have hk := (List.getElem?_eq_some_iff.1 hr).1
  refine ⟨by omega, by rw [List.length_set]; exact h.len, fun j y s hj hy hs => ?_, fun j hj => ?_⟩
  · by_cases e : j = k
    · subst e
      rw [List.getElem?_set_self (by rw [h.len]; exact hk)] at hy
      injection hy with hy
      subst hy
      have : r = s := Option.some.inj (hr.symm.trans hs)
      subst this
      exact ⟨hx, hu⟩
    · rw [List.getElem?_set_ne (by omega)] at hy
      obtain ⟨h1, h2⟩ := h.done j y s (by omega) hy hs
      exact ⟨rowis_far h1 h2 t hF, h2⟩
  · rw [List.getElem?_set_ne (by omega)]
    exact h.rest j (by omega)
theorem Part.fin {w wr : World} {n0 : Nat} {X Y : List Rw} {R : List Row} (h : Part w wr n0 X Y R R.length) : RowsIs wr Y R ∧ ∀ y ∈ Y, From n0 y.out := by
  refine ⟨⟨h.len, fun j y r hy hr => (h.done j y r (List.getElem?_eq_some_iff.1 hr).1 hy hr).1⟩, fun y hy => ?_⟩
  obtain ⟨j, hj⟩ := List.getElem?_of_mem hy
  have hjl := (List.getElem?_eq_some_iff.1 hj).1
  obtain ⟨r, hr⟩ : ∃ r, R[j]? = some r := ⟨_, List.getElem?_eq_getElem (by rw [← h.len]; exact hjl)⟩
  exact (h.done j y r (by rw [← h.len]; exact hjl) hj hr).2
set_option maxHeartbeats 4000000 in
theorem clone_is (w : World) (t : Tok) (sv rv : Value) (h : TokR w t sv rv) (hf : fitsT t) : Calls Try.prog 33 #[tkv t sv rv] w fun e w' => ∃ sv' rv', e = .returned (tkv t sv' rv') ∧ TokFrom w.heap.size w' t sv' rv' ∧ Turns [] w w' := by
  obtain ⟨g, s, st, m, R⟩ := t
  obtain ⟨hst, X, hX1, hX2⟩ := h
  obtain ⟨f1, f2, f3⟩ := hf
  simp only at hst hX1 hX2 f1 f2 f3
  have hXl : X.length = R.length := hX2.1
  have H := ((Sep.start w).alloc #[.int .i64 g, .int .i64 s, sv, .int .i64 m, rv] 39).alloc #[.int .i64 0, .int .i64 0, .slice none 0 0, .int .i64 0, .slice none 0 0] 39
  have hrd := hst.mv (fun a u => H.t.old)
  rw [World.size_alloc] at H
  have C1 := Lib.hid (Ft.cloneI_is _ sv st hrd (by omega))
  have C2 := Lib.hid (fun W (t : Turns [] w W) => cloneRow_is W rv X (hX1.mv (fun a u => t.old)) (by omega) (rows_one hX2))
  have hX2h := Lib.hid hX2
  have hf3 := Lib.hid f3
  obtain ⟨Z, hZ⟩ : ∃ Z : Ending → World → Prop, Z = fun e w' => ∃ sv' rv', e = .returned (tkv ⟨g, s, st, m, R⟩ sv' rv') ∧ TokFrom w.heap.size w' ⟨g, s, st, m, R⟩ sv' rv' ∧ Turns [] w w' := ⟨_, rfl⟩
  rw [← hZ]
  have hZh : Hid (∀ w' sv' rv', TokFrom w.heap.size w' ⟨g, s, st, m, R⟩ sv' rv' → Turns [] w w' → Z (.returned (.agg #[.int .i64 g, .int .i64 s, sv', .int .i64 m, rv'])) w') := Lib.hid (fun w' sv' rv' h1 h2 => by rw [hZ]; exact ⟨sv', rv', rfl, h1, h2⟩)
  obtain ⟨A, c, rfl, _⟩ := rform hst
  obtain ⟨B, d, hBv, _⟩ := hX1.form
  rw [List.length_map, hXl] at hBv
  subst hBv
  unfold tkv
  simp only
  have c2 : World.cell? ((w.alloc (.cells #[.int .i64 g, .int .i64 s, .slice A st.length c, .int .i64 m, .slice B R.length d] 39)).alloc (.cells #[.int .i64 0, .int .i64 0, .slice none 0 0, .int .i64 0, .slice none 0 0] 39)) ⟨w.heap.size, 2, none⟩ = some _ := (H.blk 1 rfl).cell 2
  have hHh := Lib.hid H
  clear hst hrd H hX1 hX2 hZ f3
  go_enter Try.func33, Try.ntmps33
  go_wp2_with fail
  go_at_call 72
  refine Calls.mono (C1.out) ?_
  rintro e w1 ⟨u, rfl, o, t1, hbu⟩
  have H := hHh.out.newSlice t1 o hbu
  obtain ⟨A2, c', rfl, _⟩ := formI o
  have hB := H.blk 2 rfl
  have d2 : World.cell? (w1) ⟨w.heap.size, 2, none⟩ = some _ := (hB).cell 2
  have df2 : World.frozen? (w1) ⟨w.heap.size, 2, none⟩ = false := (hB).frozen 2
  have d4 : World.cell? (w1) ⟨w.heap.size, 4, none⟩ = some _ := (hB).cell 4
  have H2 := Lib.hid (H.set 2 rfl 2 (.slice A2 st.length c'))
  clear hHh H o t1 hbu c2 hB C1
  go_wp2_with fail
  go_at_call 73
  refine Calls.mono (C2.out _ H2.out.t) ?_
  rintro e w2 ⟨u, rfl, o, t2, hb2⟩
  have H := H2.out.newSlice t2 o hb2
  obtain ⟨B2, d', hv2, _⟩ := formM o
  rw [hXl] at hv2
  subst hv2
  have hgn := Lib.hid (fun k (hk : (Value.slice B2 R.length d').ownBlock = some k) => OwnS.lt (H.own 0 rfl) hk)
  have hP0 : Part w w2 w2.heap.size X X R 0 := ⟨by omega, hXl, fun j y r hj => by omega, fun j _ => rfl⟩
  have hP0h := Lib.hid hP0
  have hws : w.heap.size + 1 < w2.heap.size := Blk.lt (H.blk 2 rfl)
  have Hh := Lib.hid H
  clear d2 df2 d4 H2 t2 o hb2 H C2 hP0
  go_wp2_with fail
  go_loopw [15] (fun v15 wr => ∃ (k : Nat) (Y : List Rw), v15 = .int .i64 k ∧ Part w wr w2.heap.size X Y R k ∧ w2.heap.size ≤ wr.heap.size ∧ Sep [] w [tOwn 86 4 (.slice B2 R.length d') (Y.map Rw.cells), tOwn 3 1 (.slice A2 st.length c') (ins st), tBlk (w.heap.size + 1) #[.int .i64 0, .int .i64 0, .slice none 0 0, .int .i64 0, .slice none 0 0] 39, tBlk w.heap.size #[.int .i64 g, .int .i64 s, .slice A2 st.length c', .int .i64 m, .slice B R.length d] 39] wr) (fun v15 _ => R.length - (RowKit.intOf v15).toNat)
  case atStart => exact ⟨0, X, rfl, hP0h.out, Nat.le_refl _, Hh.out⟩
  case round =>
    clear Hh hP0h
    obtain ⟨k, Y, rfl, hP, hsz, H⟩ := hrel
    have hk := hP.le
    have hPh := Lib.hid hP
    by_cases hlt : k < R.length
    · have g7 : decide ((k : Int) < (R.length : Int)) = true := decide_eq_true (by omega)
      have g7b : decide (k < R.length) = true := decide_eq_true hlt
      obtain ⟨r, hr⟩ : ∃ r, R[k]? = some r := ⟨_, List.getElem?_eq_getElem hlt⟩
      obtain ⟨x, hx, hxr⟩ := hX2h.out.at_ hr
      have hYx : Y[k]? = some x := by rw [hP.rest k (Nat.le_refl _)]; exact hx
      have hCx : (Y.map Rw.cells)[k]? = some (Rw.cells x) := by rw [List.getElem?_map, hYx]; rfl
      have hxw := hxr.turns H.t
      obtain ⟨Ao, co, hout, _⟩ := ls_form hxw.out
      have L1 := cloneLs_is wr x.out r.out hxw.out (by have := hf3.out r (List.mem_of_getElem? hr); omega)
      rw [hout] at L1
      have L1h := Lib.hid L1
      have hYl : Y.length = R.length := hP.len
      obtain ⟨ad, c3, hv2, hcl, _⟩ := Hy.Sep.setAt H 0 rfl hCx
      rw [List.length_map, hYl] at hv2
      injection hv2 with e4 e5 e6
      subst e4 e6
      have i3 := hcl 3 _ rfl
      rw [add_field _ _ _ (by omega), hout] at i3
      have hHh := Lib.hid H
      have hCxh := Lib.hid hCx
      have hkey := Lib.hid hxw.key
      have hav := Lib.hid hxw.avail
      have hmk := Lib.hid hxw.mark
      have hrh := Lib.hid hr
      clear hx hYx hCx hxr hxw L1 hcl e5 H hP hr
      go_wp2_with fail
      go_at_call 74
      refine Calls.mono (L1h.out) ?_
      rintro e w4 ⟨u5, rfl, o4, t4, hb4⟩
      obtain ⟨A5, c5, hu5, _⟩ := ls_form o4.reads
      subst hu5
      have H4 := hHh.out.turns t4
      clear i3
      obtain ⟨ad2, c6, hv3, hcl, hst⟩ := Hy.Sep.setAt H4 0 rfl hCxh.out
      rw [List.length_map, hYl] at hv3
      injection hv3 with e7 e8 e9
      injection e7 with e7
      subst e7
      have z0 := hcl 3 _ rfl
      rw [add_field _ _ _ (by omega), hout] at z0
      obtain ⟨f0, hs2⟩ := hst 3 (by omega) ⟨(ad.add (k * 4)).block, (ad.add (k * 4)).off + 3, none⟩ (add_field _ _ _ (by omega)).symm
      have hbl : (ad.add (k * 4)).block = ad.block := by unfold Addr.add; split <;> rfl
      have tset : Turns [ad.block] w4 (w4.setCell ⟨(ad.add (k * 4)).block, (ad.add (k * 4)).off + 3, none⟩ (.slice A5 r.out.length c5)) := (Turns.refl _ _).setCell (by left; rw [hbl]; simp) _
      have hgb := hgn.out ad.block rfl
      have hfrom : From w2.heap.size (.slice A5 r.out.length c5) := fun q hq => Nat.le_trans hsz (hb4 q hq)
      have hRow : RowIs (w4.setCell ⟨(ad.add (k * 4)).block, (ad.add (k * 4)).off + 3, none⟩ (.slice A5 r.out.length c5)) ⟨x.key, x.avail, x.mark, .slice A5 r.out.length c5⟩ r :=
        ⟨hkey.out, hav.out, hmk.out, RdS.far o4.reads tset (fun q hq hqF => by have := hfrom q hq; simp at hqF; omega)⟩
      have hPn := Lib.hid (Part.next (x := x) hPh.out hrh.out (F := [ad.block]) ((t4.mono (G := [ad.block]) (by simp)).trans tset) (by simpa using hgb) hRow hfrom)
      have H5 := hs2 (.slice A5 r.out.length c5)
      rw [show (Rw.cells x).set 3 (.slice A5 r.out.length c5) = Rw.cells ⟨x.key, x.avail, x.mark, .slice A5 r.out.length c5⟩ from rfl, ← List.map_set] at H5
      have H5h := Lib.hid H5
      have hsz5 : w2.heap.size ≤ (w4.setCell ⟨(ad.add (k * 4)).block, (ad.add (k * 4)).off + 3, none⟩ (.slice A5 r.out.length c5)).heap.size := Nat.le_trans hsz (Nat.le_trans t4.size tset.size)
      have hsz5h := Lib.hid hsz5
      clear H4 hcl hst hs2 e8 e9 t4 hHh L1h H5 hRow tset hsz5 hout hbl
      go_wp2_with fail
      go_roundw
      case rel => exact ⟨k + 1, _, by go_num, hPn.out, hsz5h.out, H5h.out⟩
      case measure => simp [RowKit.intOf]; omega
    · obtain rfl : k = R.length := by omega
      have g7 : decide ((R.length : Int) < (R.length : Int)) = false := by simp
      have hB := H.blk 3 rfl
      have hZb := H.blk 2 rfl
      have d0 : World.cell? (wr) ⟨w.heap.size, 0, none⟩ = some _ := (hB).cell 0
      have d1 : World.cell? (wr) ⟨w.heap.size, 1, none⟩ = some _ := (hB).cell 1
      have d2 : World.cell? (wr) ⟨w.heap.size, 2, none⟩ = some _ := (hB).cell 2
      have d3 : World.cell? (wr) ⟨w.heap.size, 3, none⟩ = some _ := (hB).cell 3
      have d4 : World.cell? (wr) ⟨w.heap.size, 4, none⟩ = some _ := (hB).cell 4
      have df4 : World.frozen? (wr) ⟨w.heap.size, 4, none⟩ = false := (hB).frozen 4
      have z0 : World.cell? (wr) ⟨w.heap.size + 1, 0, none⟩ = some _ := (hZb).cell 0
      have zf0 : World.frozen? (wr) ⟨w.heap.size + 1, 0, none⟩ = false := (hZb).frozen 0
      have z1 : World.cell? (wr) ⟨w.heap.size + 1, 1, none⟩ = some _ := (hZb).cell 1
      have zf1 : World.frozen? (wr) ⟨w.heap.size + 1, 1, none⟩ = false := (hZb).frozen 1
      have z2 : World.cell? (wr) ⟨w.heap.size + 1, 2, none⟩ = some _ := (hZb).cell 2
      have zf2 : World.frozen? (wr) ⟨w.heap.size + 1, 2, none⟩ = false := (hZb).frozen 2
      have z3 : World.cell? (wr) ⟨w.heap.size + 1, 3, none⟩ = some _ := (hZb).cell 3
      have zf3 : World.frozen? (wr) ⟨w.heap.size + 1, 3, none⟩ = false := (hZb).frozen 3
      have z4 : World.cell? (wr) ⟨w.heap.size + 1, 4, none⟩ = some _ := (hZb).cell 4
      have zf4 : World.frozen? (wr) ⟨w.heap.size + 1, 4, none⟩ = false := (hZb).frozen 4
      have H5 := ((((((H.set 3 rfl 4 (.slice B2 R.length d')).set 2 rfl 0 (.int .i64 g)).set 2 rfl 1 (.int .i64 s)).set 2 rfl 2 (.slice A2 st.length c')).set 2 rfl 3 (.int .i64 m)).set 2 rfl 4 (.slice B2 R.length d'))
      have T5 := ((((((Turns.refl [w.heap.size, w.heap.size + 1] wr).setCell (p := ⟨w.heap.size, 4, none⟩) (by simp) (.slice B2 R.length d')).setCell (p := ⟨w.heap.size + 1, 0, none⟩) (by simp) (.int .i64 g)).setCell (p := ⟨w.heap.size + 1, 1, none⟩) (by simp) (.int .i64 s)).setCell (p := ⟨w.heap.size + 1, 2, none⟩) (by simp) (.slice A2 st.length c')).setCell (p := ⟨w.heap.size + 1, 3, none⟩) (by simp) (.int .i64 m)).setCell (p := ⟨w.heap.size + 1, 4, none⟩) (by simp) (.slice B2 R.length d')
      obtain ⟨q1, q2⟩ := hPh.out.fin
      have hR5 := H5.blk 2 rfl
      have T := H5.t
      have hsmall : ∀ k ∈ [w.heap.size, w.heap.size + 1], k < w2.heap.size := by intro k hk; simp at hk; omega
      have hX := hZh.out _ (.slice A2 st.length c') (.slice B2 R.length d') ⟨fun q hq => by simpa using mine_own H5 1 rfl q hq, (H5.own 1 rfl).reads, ⟨fun q hq => by simpa using mine_own H5 0 rfl q hq, Y, (H5.own 0 rfl).reads, ⟨q1.1, fun j y r hy hr => rowis_far (q1.2 j y r hy hr) (q2 y (List.mem_of_getElem? hy)) T5 hsmall⟩, fun y hy q hq => Nat.le_trans (by omega) (q2 y hy q hq)⟩⟩ T
      clear H5 H hB hZb hP hPh q1 q2 T5
      go_wp2_with fail
      refine bodyPost_ret (res_one rfl (.cell (w.heap.size + 1) _ _ _ rfl hR5 Try.underlying39 rfl (by kernel_rfl) .nil)) rfl ?_
      exact hX
end Go.Proofs.Ytohokckpheljbaa.Fr_
