/- The ledger's with. -/
import Derived.Test.YtphhfdlhkginkaaBi
import Derived.Test.YtphhfdlhkginkaaBc
import Derived.Deep.Cut
set_option linter.unusedVariables false
set_option linter.unusedSimpArgs false
set_option maxRecDepth 100000
namespace Go.Proofs.Ytphhfdlhkginkaa.Bj
open Go.RowKit Go.MapKept Hm Hs Hf Hx Hy Hv Hz Hu Fa Ff Fq Ba Bb Bc Bi
theorem step4 {F : List Nat} {w0 w : World} {L : List Th} (H : Sep F w0 L w) (n : Nat) {e : TypeId} {ad : Addr} {N c : Nat} {rows : List (List Value)} {q : Nat} {r : List Value} (hn : L[n]? = some (tOwn e 4 (.slice (some ad) N c) rows)) (hj : rows[q]? = some r) (hr : r.length = 4) (i : Nat) (hi : i < 4) (a : Addr) (ha : a = ad.add (q * 4 + i)) (u : Value) :
    (∃ z, w.cell? a = some z) ∧ w.frozen? a = false ∧ Sep F w0 (L.set n (tOwn e 4 (.slice (some ad) N c) (rows.set q (r.set i u)))) (w.setCell a u) := by
  obtain ⟨ad2, c2, hv, hc, hs⟩ := Hy.Sep.setAt H n hn hj
  injection hv with e1 e2 e3
  injection e1 with e1
  subst e1
  obtain ⟨h1, h2⟩ := hs i hi a ha
  refine ⟨?_, h1, h2 u⟩
  obtain ⟨z, hz⟩ : ∃ z, r[i]? = some z := ⟨_, List.getElem?_eq_getElem (by omega)⟩
  exact ⟨z, by rw [ha]; exact hc i z hz⟩
theorem next4 {F : List Nat} {w0 w : World} {L : List Th} {n : Nat} {e : TypeId} {ad : Addr} {N c : Nat} {rows : List (List Value)} {q : Nat} {r : List Value} (H : Sep F w0 (L.set n (tOwn e 4 (.slice (some ad) N c) (rows.set q r))) w) (hn : n < L.length) (hq : q < rows.length) (hr : r.length = 4) (i : Nat) (hi : i < 4) (a : Addr) (ha : a = ad.add (q * 4 + i)) (u : Value) :
    (∃ z, w.cell? a = some z) ∧ w.frozen? a = false ∧ Sep F w0 (L.set n (tOwn e 4 (.slice (some ad) N c) (rows.set q (r.set i u)))) (w.setCell a u) := by
  have h := step4 H n (e := e) (ad := ad) (N := N) (c := c) (rows := rows.set q r) (q := q) (r := r) (by rw [List.getElem?_set_self hn]) (by rw [List.getElem?_set_self hq]) hr i hi a ha u
  rw [List.set_set, List.set_set] at h
  exact h
/-- a whole row is stored -/
structure Put4 (w : World) (A : Addr) (x : Rw) (Q : World → Prop) : Prop where
  c0 : ∃ u, w.cell? A = some u
  f0 : w.frozen? A = false
  c1 : ∃ u, (w.setCell A (.int .i64 x.key)).cell? ⟨A.block, A.off + 1, none⟩ = some u
  f1 : (w.setCell A (.int .i64 x.key)).frozen? ⟨A.block, A.off + 1, none⟩ = false
  c2 : ∃ u, ((w.setCell A (.int .i64 x.key)).setCell ⟨A.block, A.off + 1, none⟩ (.int .i64 x.avail)).cell? ⟨A.block, A.off + 2, none⟩ = some u
  f2 : ((w.setCell A (.int .i64 x.key)).setCell ⟨A.block, A.off + 1, none⟩ (.int .i64 x.avail)).frozen? ⟨A.block, A.off + 2, none⟩ = false
  c3 : ∃ u, (((w.setCell A (.int .i64 x.key)).setCell ⟨A.block, A.off + 1, none⟩ (.int .i64 x.avail)).setCell ⟨A.block, A.off + 2, none⟩ (.int .i64 x.mark)).cell? ⟨A.block, A.off + 3, none⟩ = some u
  f3 : (((w.setCell A (.int .i64 x.key)).setCell ⟨A.block, A.off + 1, none⟩ (.int .i64 x.avail)).setCell ⟨A.block, A.off + 2, none⟩ (.int .i64 x.mark)).frozen? ⟨A.block, A.off + 3, none⟩ = false
  fin : Q ((((w.setCell A (.int .i64 x.key)).setCell ⟨A.block, A.off + 1, none⟩ (.int .i64 x.avail)).setCell ⟨A.block, A.off + 2, none⟩ (.int .i64 x.mark)).setCell ⟨A.block, A.off + 3, none⟩ x.out)
theorem put4 {F : List Nat} {w0 w : World} {L : List Th} (H : Sep F w0 L w) (n : Nat) {e : TypeId} {ad : Addr} {N c : Nat} {C : List Rw} {q : Nat} (x : Rw) (hn : L[n]? = some (tOwn e 4 (.slice (some ad) N c) (C.map Rw.cells))) (hq : q < C.length) : Put4 w (ad.add (q * 4)) x (Sep F w0 (L.set n (tOwn e 4 (.slice (some ad) N c) ((C.set q x).map Rw.cells)))) := by
  have hnl := (List.getElem?_eq_some_iff.1 hn).1
  have hql : q < (C.map Rw.cells).length := by simpa using hq
  obtain ⟨y, hy⟩ : ∃ y, C[q]? = some y := ⟨_, List.getElem?_eq_getElem hq⟩
  obtain ⟨a0, b0, H0⟩ := step4 H n hn (q := q) (r := Rw.cells y) (by rw [List.getElem?_map, hy]; rfl) rfl 0 (by omega) (ad.add (q * 4)) rfl (.int .i64 x.key)
  obtain ⟨a1, b1, H1⟩ := next4 H0 hnl hql rfl 1 (by omega) ⟨(ad.add (q * 4)).block, (ad.add (q * 4)).off + 1, none⟩ (add_field _ _ _ (by omega)).symm (.int .i64 x.avail)
  obtain ⟨a2, b2, H2⟩ := next4 H1 hnl hql rfl 2 (by omega) ⟨(ad.add (q * 4)).block, (ad.add (q * 4)).off + 2, none⟩ (add_field _ _ _ (by omega)).symm (.int .i64 x.mark)
  obtain ⟨a3, b3, H3⟩ := next4 H2 hnl hql rfl 3 (by omega) ⟨(ad.add (q * 4)).block, (ad.add (q * 4)).off + 3, none⟩ (add_field _ _ _ (by omega)).symm x.out
  exact ⟨a0, b0, a1, b1, a2, b2, a3, b3, by rw [List.map_set]; exact H3⟩
theorem RowsIs.set_ {w : World} {X : List Rw} {R : List Row} (h : RowsIs w X R) {x : Rw} {r : Row} (hx : RowIs w x r) (p : Nat) : RowsIs w (X.set p x) (R.set p r) := by
  refine ⟨by simp [h.1], fun j y s hy hs => ?_⟩
  by_cases e : j = p
  · subst e
    have hj := (List.getElem?_eq_some_iff.1 hy).1
    rw [List.length_set] at hj
    rw [List.getElem?_set_self hj] at hy
    rw [List.getElem?_set_self (by rw [← h.1]; exact hj)] at hs
    injection hy with hy
    injection hs with hs
    subst hy hs
    exact hx
  · rw [List.getElem?_set_ne (by omega)] at hy hs
    exact h.2 j y s hy hs
theorem RowsIs.app {w : World} {X Y : List Rw} {R S : List Row} (h : RowsIs w X R) (k : RowsIs w Y S) : RowsIs w (X ++ Y) (R ++ S) := by
  refine ⟨by simp [h.1, k.1], fun j y s hy hs => ?_⟩
  by_cases hj : j < X.length
  · rw [List.getElem?_append_left hj] at hy
    rw [List.getElem?_append_left (by rw [← h.1]; exact hj)] at hs
    exact h.2 j y s hy hs
  · rw [List.getElem?_append_right (by omega)] at hy
    rw [List.getElem?_append_right (by rw [← h.1]; omega), ← h.1] at hs
    exact k.2 _ y s hy hs
theorem RowsIs.take_ {w : World} {X : List Rw} {R : List Row} (h : RowsIs w X R) (p : Nat) : RowsIs w (X.take p) (R.take p) := by
  refine ⟨by simp [h.1], fun j y s hy hs => ?_⟩
  rw [List.getElem?_take] at hy hs
  split at hy
  · rw [if_pos (by assumption)] at hs
    exact h.2 j y s hy hs
  · cases hy
theorem RowsIs.drop_ {w : World} {X : List Rw} {R : List Row} (h : RowsIs w X R) (p : Nat) : RowsIs w (X.drop p) (R.drop p) := by
  refine ⟨by simp [h.1], fun j y s hy hs => ?_⟩
  rw [List.getElem?_drop] at hy hs
  exact h.2 _ y s hy hs
theorem RowsIs.one {w : World} {x : Rw} {r : Row} (hx : RowIs w x r) : RowsIs w [x] [r] := (RowsIs.nil w).snoc hx
theorem RowsIs.ins_ {w : World} {X : List Rw} {R : List Row} (h : RowsIs w X R) {x : Rw} {r : Row} (hx : RowIs w x r) (p : Nat) : RowsIs w (X.take p ++ x :: X.drop p) (R.take p ++ r :: R.drop p) :=
  RowsIs.app (RowsIs.take_ h p) (RowsIs.app (RowsIs.one hx) (RowsIs.drop_ h p))
set_option maxHeartbeats 8000000 in
theorem with_is (G : List Nat) (w : World) (start : Int) (v : Value) (R : List Row) (x : Rw) (r : Row) (hs : RTS G w v R) (hxs : RowS G w x r) (hG : ∀ k ∈ G, k < w.heap.size) (hn : R.length ≤ 100000) : Calls Try.prog 59 #[.agg #[.int .i64 start, v], x.v] w fun e w' => ∃ v', e = .returned (.agg #[.int .i64 start, v']) ∧ RTS G w' v' (withR R r) ∧ Turns [] w w' := by
  have hx := hxs.row
  have h := hs.rt
  obtain ⟨Ao, co, rfl, ho⟩ := row_form hx
  obtain ⟨A, c, rfl, hlc, hcm⟩ := h.form
  have hA := Lib.hid (fun W (t : Turns [] w W) => at_is W start r.key (.slice A R.length c) R (h.turns t))
  have H := (((Sep.start w).alloc #[.int .i64 start, .slice A R.length c] 24).alloc #[.int .i64 r.key, .int .i64 r.avail, .int .i64 r.mark, .slice Ao r.out.length co] 38).alloc #[.int .i64 0, .slice none 0 0] 24
  rw [World.size_alloc, World.size_alloc] at H
  obtain ⟨V, hV⟩ : ∃ V : Ending → World → Prop, V = fun e w' => ∃ v', e = .returned (.agg #[.int .i64 start, v']) ∧ RTS G w' v' (withR R r) ∧ Turns [] w w' := ⟨_, rfl⟩
  rw [← hV]
  have hVh : Hid (∀ w' v', RTS G w' v' (withR R r) → Turns [] w w' → V (.returned (.agg #[.int .i64 start, v'])) w') := Lib.hid (fun w' v' h1 h2 => by rw [hV]; exact ⟨v', rfl, h1, h2⟩)
  obtain ⟨Xs, hXS⟩ := hs
  obtain ⟨hX1, hX2⟩ := hXS w (Turns.refl _ _)
  have hXSh := Lib.hid hXS
  have hxsh := Lib.hid hxs
  have hGh := Lib.hid hG
  have hXl : Xs.length = R.length := hX2.1
  have hone := Lib.hid (rows_one hX2)
  have hX1h := Lib.hid hX1
  have hX2h := Lib.hid hX2
  have hxh := Lib.hid hx
  have hXlh := Lib.hid hXl
  have hpl := pl_le R r.key
  have hww : Hid (withR R r = if isAt R r.key then R.set (pl R r.key) r else R.take (pl R r.key) ++ r :: R.drop (pl R r.key)) := Lib.hid rfl
  obtain ⟨p, hp⟩ : ∃ p, pl R r.key = p := ⟨_, rfl⟩
  rw [hp] at hA hpl hww
  have c0 : World.cell? (((w.alloc (.cells #[.int .i64 start, .slice A R.length c] 24)).alloc (.cells #[.int .i64 r.key, .int .i64 r.avail, .int .i64 r.mark, .slice Ao r.out.length co] 38)).alloc (.cells #[.int .i64 0, .slice none 0 0] 24)) ⟨w.heap.size, 0, none⟩ = some _ := (H.blk 2 rfl).cell 0
  have c1 : World.cell? (((w.alloc (.cells #[.int .i64 start, .slice A R.length c] 24)).alloc (.cells #[.int .i64 r.key, .int .i64 r.avail, .int .i64 r.mark, .slice Ao r.out.length co] 38)).alloc (.cells #[.int .i64 0, .slice none 0 0] 24)) ⟨w.heap.size, 1, none⟩ = some _ := (H.blk 2 rfl).cell 1
  have e0 : World.cell? (((w.alloc (.cells #[.int .i64 start, .slice A R.length c] 24)).alloc (.cells #[.int .i64 r.key, .int .i64 r.avail, .int .i64 r.mark, .slice Ao r.out.length co] 38)).alloc (.cells #[.int .i64 0, .slice none 0 0] 24)) ⟨w.heap.size + 1, 0, none⟩ = some _ := (H.blk 1 rfl).cell 0
  have Hh := Lib.hid H
  have hplt : Hid (isAt R r.key = true → p < R.length) := Lib.hid (fun hat => by obtain ⟨y, hy, _⟩ := isAt_true hat; rw [hp] at hy; exact (List.getElem?_eq_some_iff.1 hy).1)
  generalize isAt R r.key = b at *
  clear H hV hX1 hX2 hx hXl hp ho h hXS hxs hG
  unfold Rw.v
  simp only
  go_enter Try.func59, Try.ntmps59
  go_wp2_with fail
  go_at_call 37
  refine Calls.mono (hA.out _ Hh.out.t) ?_
  rintro e w1 ⟨rfl, t1⟩
  have H1 := Lib.hid (Hh.out.turns t1)
  have d0 : World.cell? (w1) ⟨w.heap.size, 0, none⟩ = some _ := (H1.out.blk 2 rfl).cell 0
  have d1 : World.cell? (w1) ⟨w.heap.size, 1, none⟩ = some _ := (H1.out.blk 2 rfl).cell 1
  clear c0 c1 e0 Hh hA t1
  go_wp2_with (at_make; refine stop_ ?_)
  refine Mk_.mk ?_
  refine He.wp_make_n rfl _ _ _ rfl (.agg #[.int .i64 0, .int .i64 0, .int .i64 0, .slice none 0 0]) 48 Try.underlying22 infoRow .i64 .i64 R.length rfl rfl (by omega) (by omega) ?_
  intro w2 rows0 hl0 O2 t2
  have H2 := Lib.hid (H1.out.newSlice t2 O2 (by simp [Value.ownBlock]))
  have hgad : (⟨w1.heap.size, 0, none⟩ : Addr).spot = none := rfl
  generalize (⟨w1.heap.size, 0, none⟩ : Addr) = ad2 at *
  have f0 : World.cell? (w2) ⟨w.heap.size, 0, none⟩ = some _ := (H2.out.blk 3 rfl).cell 0
  have f1 : World.cell? (w2) ⟨w.heap.size, 1, none⟩ = some _ := (H2.out.blk 3 rfl).cell 1
  have O2h := Lib.hid O2
  have hrd := Lib.hid (hX1h.out.mv (fun a u => H2.out.t.old))
  have hXm : Hid ((Xs.map Rw.cells).length = R.length) := Lib.hid (by rw [List.length_map]; exact hXlh.out)
  clear d0 d1 O2 t2 hl0 hgad H1
  go_wp2_with (refine He.wp_copy_full O2h.out hrd.out hXm.out (by decide) rfl _ _ rfl Try.underlying22 (by kernel_rfl) rfl rfl hone.out ?_; intro w3 O3 t3; refine stop_ ?_)
  refine Mk_.mk ?_
  have H3 := Lib.hid (H2.out.slice 0 rfl O3 (by simpa [Value.ownBlock] using t3) (.inl rfl))
  clear f0 f1 O3 t3 O2h H2 hrd
  have f0 : World.cell? (w3) ⟨w.heap.size, 0, none⟩ = some _ := (H3.out.blk 3 rfl).cell 0
  have f1 : World.cell? (w3) ⟨w.heap.size, 1, none⟩ = some _ := (H3.out.blk 3 rfl).cell 1
  have g0 : World.cell? (w3) ⟨w.heap.size + 1, 0, none⟩ = some _ := (H3.out.blk 2 rfl).cell 0
  have g1 : World.cell? (w3) ⟨w.heap.size + 1, 1, none⟩ = some _ := (H3.out.blk 2 rfl).cell 1
  have g2 : World.cell? (w3) ⟨w.heap.size + 1, 2, none⟩ = some _ := (H3.out.blk 2 rfl).cell 2
  have g3 : World.cell? (w3) ⟨w.heap.size + 1, 3, none⟩ = some _ := (H3.out.blk 2 rfl).cell 3
  have z0 : World.cell? (w3) ⟨w.heap.size + 1 + 1, 0, none⟩ = some _ := (H3.out.blk 1 rfl).cell 0
  have zf0 : World.frozen? (w3) ⟨w.heap.size + 1 + 1, 0, none⟩ = false := (H3.out.blk 1 rfl).frozen 0
  have z1 : World.cell? (w3) ⟨w.heap.size + 1 + 1, 1, none⟩ = some _ := (H3.out.blk 1 rfl).cell 1
  have zf1 : World.frozen? (w3) ⟨w.heap.size + 1 + 1, 1, none⟩ = false := (H3.out.blk 1 rfl).frozen 1
  cases b with
  | true =>
    have hplt := hplt.out rfl
    have q1 : (p : Int) < (R.length : Int) := by omega
    obtain ⟨⟨z0', y0⟩, m0, ⟨z1', y1⟩, m1, ⟨z2', y2⟩, m2, ⟨z3', y3⟩, m3, H4⟩ := put4 H3.out 0 ⟨r.key, r.avail, r.mark, .slice Ao r.out.length co⟩ rfl (show p < Xs.length by rw [hXlh.out]; exact hplt)
    have H4h := Lib.hid H4
    clear H4
    go_upto_region 7 with fail
    generalize (((w3.setCell (ad2.add (p * 4)) (.int .i64 r.key)).setCell ⟨(ad2.add (p * 4)).block, (ad2.add (p * 4)).off + 1, none⟩ (.int .i64 r.avail)).setCell ⟨(ad2.add (p * 4)).block, (ad2.add (p * 4)).off + 2, none⟩ (.int .i64 r.mark)).setCell ⟨(ad2.add (p * 4)).block, (ad2.add (p * 4)).off + 3, none⟩ (.slice Ao r.out.length co) = w4 at *
    clear f0 f1 g0 g1 g2 g3 z0 zf0 z1 zf1 y0 y1 y2 y3 m0 m1 m2 m3 H3
    have H5 := H4h
    clear H4h
    have f0 : World.cell? (w4) ⟨w.heap.size, 0, none⟩ = some _ := (H5.out.blk 3 rfl).cell 0
    have f1 : World.cell? (w4) ⟨w.heap.size, 1, none⟩ = some _ := (H5.out.blk 3 rfl).cell 1
    have ff1 : World.frozen? (w4) ⟨w.heap.size, 1, none⟩ = false := (H5.out.blk 3 rfl).frozen 1
    have z0 : World.cell? (w4) ⟨w.heap.size + 1 + 1, 0, none⟩ = some _ := (H5.out.blk 1 rfl).cell 0
    have zf0 : World.frozen? (w4) ⟨w.heap.size + 1 + 1, 0, none⟩ = false := (H5.out.blk 1 rfl).frozen 0
    have z1 : World.cell? (w4) ⟨w.heap.size + 1 + 1, 1, none⟩ = some _ := (H5.out.blk 1 rfl).cell 1
    have zf1 : World.frozen? (w4) ⟨w.heap.size + 1 + 1, 1, none⟩ = false := (H5.out.blk 1 rfl).frozen 1
    have H6 := ((H5.out.set 3 rfl 1 (.slice (some ad2) R.length R.length)).set 1 rfl 0 (.int .i64 start)).set 1 rfl 1 (.slice (some ad2) R.length R.length)
    have hB := H6.blk 1 rfl
    have hX := hVh.out _ (.slice (some ad2) R.length R.length) ⟨_, fun W t => ⟨((H6.own 0 rfl).turns t (fun k hk hkG => by
      rcases mine_own H6 0 rfl k hk with h1 | h1
      · cases h1
      · have := hGh.out k hkG; omega)).reads, by rw [hww.out]; exact (by rw [if_pos rfl]; exact RowsIs.set_ (hXSh.out W ((H6.t.mono (by simp)).trans t)).2 (hxsh.out W ((H6.t.mono (by simp)).trans t)) p)⟩⟩ H6.t
    clear H6 H5 hVh hww hxh hX2h hX1h hone hXlh hXm
    go_wp2_with fail
    refine bodyPost_ret (res_one rfl (.cell (w.heap.size + 1 + 1) _ _ _ rfl hB Try.underlying24 rfl (by kernel_rfl) .nil)) rfl ?_
    exact hX
  | false =>
    have H4 := Lib.hid (H3.out.alloc #[.int .i64 r.key, .int .i64 r.avail, .int .i64 r.mark, .slice Ao r.out.length co] 38)
    have hI := Lib.hid (insR_is _ _ _ [.int .i64 r.key, .int .i64 r.avail, .int .i64 r.mark, .slice Ao r.out.length co] #[.int .i64 r.key, .int .i64 r.avail, .int .i64 r.mark, .slice Ao r.out.length co] p _ (H4.out.got [1, 0]) rfl (by rw [hXm.out]; exact hpl) (by rw [hXm.out]; exact hn) rfl hone.out (by intro u hu; simp at hu; rcases hu with rfl | rfl | rfl | rfl <;> rfl))
    go_upto_region 6 with fail
    go_wp2_with fail
    go_at_call 70
    refine Calls.mono (hI.out) ?_
    rintro e w4 ⟨u, rfl, k4⟩
    have H4' := (H4.out.call [1] k4).keep [0, 2, 3, 4]
    have em : (Xs.map Rw.cells).take p ++ [.int .i64 r.key, .int .i64 r.avail, .int .i64 r.mark, .slice Ao r.out.length co] :: (Xs.map Rw.cells).drop p = (Xs.take p ++ (⟨r.key, r.avail, r.mark, .slice Ao r.out.length co⟩ : Rw) :: Xs.drop p).map Rw.cells := by rw [List.map_append, List.map_cons, List.map_take, List.map_drop]; rfl
    rw [em] at H4'
    obtain ⟨A5, c5, hu, _⟩ := formM (H4'.own 0 rfl)
    obtain ⟨L5, hL5⟩ : ∃ L5, (Xs.take p ++ (⟨r.key, r.avail, r.mark, .slice Ao r.out.length co⟩ : Rw) :: Xs.drop p).length = L5 := ⟨_, rfl⟩
    rw [hL5] at hu
    subst hu
    have H5 := Lib.hid H4'
    clear H4 H4' k4 hI em hL5 H3 f0 f1 g0 g1 g2 g3 z0 zf0 z1 zf1
    have f0 : World.cell? (w4) ⟨w.heap.size, 0, none⟩ = some _ := (H5.out.blk 3 rfl).cell 0
    have f1 : World.cell? (w4) ⟨w.heap.size, 1, none⟩ = some _ := (H5.out.blk 3 rfl).cell 1
    have ff1 : World.frozen? (w4) ⟨w.heap.size, 1, none⟩ = false := (H5.out.blk 3 rfl).frozen 1
    have z0 : World.cell? (w4) ⟨w.heap.size + 1 + 1, 0, none⟩ = some _ := (H5.out.blk 1 rfl).cell 0
    have zf0 : World.frozen? (w4) ⟨w.heap.size + 1 + 1, 0, none⟩ = false := (H5.out.blk 1 rfl).frozen 0
    have z1 : World.cell? (w4) ⟨w.heap.size + 1 + 1, 1, none⟩ = some _ := (H5.out.blk 1 rfl).cell 1
    have zf1 : World.frozen? (w4) ⟨w.heap.size + 1 + 1, 1, none⟩ = false := (H5.out.blk 1 rfl).frozen 1
    have H6 := ((H5.out.set 3 rfl 1 (.slice A5 L5 c5)).set 1 rfl 0 (.int .i64 start)).set 1 rfl 1 (.slice A5 L5 c5)
    have hB := H6.blk 1 rfl
    have hX := hVh.out _ (.slice A5 L5 c5) ⟨_, fun W t => ⟨((H6.own 0 rfl).turns t (fun k hk hkG => by
      rcases mine_own H6 0 rfl k hk with h1 | h1
      · cases h1
      · have := hGh.out k hkG; omega)).reads, by rw [hww.out]; exact (by rw [if_neg (by simp)]; exact RowsIs.ins_ (hXSh.out W ((H6.t.mono (by simp)).trans t)).2 (hxsh.out W ((H6.t.mono (by simp)).trans t)) p)⟩⟩ H6.t
    clear H6 H5 hVh hww hxh hX2h hX1h hone hXlh hXm
    go_wp2_with fail
    refine bodyPost_ret (res_one rfl (.cell (w.heap.size + 1 + 1) _ _ _ rfl hB Try.underlying24 rfl (by kernel_rfl) .nil)) rfl ?_
    exact hX
end Go.Proofs.Ytphhfdlhkginkaa.Bj
