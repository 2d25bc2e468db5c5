/- slices.DeleteFunc, whose predicate may turn a thing of its own. -/
import Derived.Test.YtoojemdehmabhaaQc
import Derived.Test.YtoojemdehmabhaaHz
set_option linter.unusedVariables false
set_option linter.unusedSimpArgs false
set_option maxRecDepth 100000
namespace Go.Proofs.Ytoojemdehmabhaa.Qd
open Go.RowKit Go.MapKept Go.Shelf Hm Hs Hf Hg Hx Hy Hv Qa Qb Qc
theorem zeroItem (w : World) : (zeroValue 34).run Try.prog w = .ok (.agg #[.int .i64 0, .int .i64 0, .int .i64 0, .int .i64 0, .int .i64 0]) w := by kernel_rfl
theorem zeroOne : ∀ u ∈ (Value.agg #[.int .i64 0, .int .i64 0, .int .i64 0, .int .i64 0, .int .i64 0]).cells, u.oneCell' = true := by
  intro u hu
  have h0 : u ∈ (Value.agg #[.int .i64 0, .int .i64 0, .int .i64 0, .int .i64 0, .int .i64 0]).cells.toList := Array.mem_def.1 hu
  have this : u ∈ [Value.int .i64 0, .int .i64 0, .int .i64 0, .int .i64 0, .int .i64 0] := h0
  simp at this
  subst this
  rfl
theorem step5 {F : List Nat} {w0 w : World} {L : List Th} (H : Sep F w0 L w) (n : Nat) {e : TypeId} {ad : Addr} {N c : Nat} {rows : List (List Value)} {q : Nat} {r : List Value} (hn : L[n]? = some (tOwn e 5 (.slice (some ad) N c) rows)) (hj : rows[q]? = some r) (hr : r.length = 5) (i : Nat) (hi : i < 5) (a : Addr) (ha : a = ad.add (q * 5 + i)) (u : Value) :
    (∃ z, w.cell? a = some z) ∧ w.frozen? a = false ∧ Sep F w0 (L.set n (tOwn e 5 (.slice (some ad) N c) (rows.set q (r.set i u)))) (w.setCell a u) := by
  obtain ⟨ad2, c2, hv, hc, hs⟩ := Hy.Sep.setAt H n hn hj
  injection hv with e1 e2 e3
  injection e1 with e1
  subst e1
  obtain ⟨h1, h2⟩ := hs i hi a ha
  refine ⟨?_, h1, h2 u⟩
  obtain ⟨z, hz⟩ : ∃ z, r[i]? = some z := ⟨_, List.getElem?_eq_getElem (by omega)⟩
  exact ⟨z, by rw [ha]; exact hc i z hz⟩
theorem next5 {F : List Nat} {w0 w : World} {L : List Th} {n : Nat} {e : TypeId} {ad : Addr} {N c : Nat} {rows : List (List Value)} {q : Nat} {r : List Value} (H : Sep F w0 (L.set n (tOwn e 5 (.slice (some ad) N c) (rows.set q r))) w) (hn : n < L.length) (hq : q < rows.length) (hr : r.length = 5) (i : Nat) (hi : i < 5) (a : Addr) (ha : a = ad.add (q * 5 + i)) (u : Value) :
    (∃ z, w.cell? a = some z) ∧ w.frozen? a = false ∧ Sep F w0 (L.set n (tOwn e 5 (.slice (some ad) N c) (rows.set q (r.set i u)))) (w.setCell a u) := by
  have h := step5 H n (e := e) (ad := ad) (N := N) (c := c) (rows := rows.set q r) (q := q) (r := r) (by rw [List.getElem?_set_self hn]) (by rw [List.getElem?_set_self hq]) hr i hi a ha u
  rw [List.set_set, List.set_set] at h
  exact h
/-- a whole item is stored -/
structure Put5 (w : World) (A : Addr) (x : It) (Q : World → Prop) : Prop where
  c0 : ∃ u, w.cell? A = some u
  f0 : w.frozen? A = false
  c1 : ∃ u, (w.setCell A (.int .i64 x.id)).cell? ⟨A.block, A.off + 1, none⟩ = some u
  f1 : (w.setCell A (.int .i64 x.id)).frozen? ⟨A.block, A.off + 1, none⟩ = false
  c2 : ∃ u, ((w.setCell A (.int .i64 x.id)).setCell ⟨A.block, A.off + 1, none⟩ (.int .i64 x.key)).cell? ⟨A.block, A.off + 2, none⟩ = some u
  f2 : ((w.setCell A (.int .i64 x.id)).setCell ⟨A.block, A.off + 1, none⟩ (.int .i64 x.key)).frozen? ⟨A.block, A.off + 2, none⟩ = false
  c3 : ∃ u, (((w.setCell A (.int .i64 x.id)).setCell ⟨A.block, A.off + 1, none⟩ (.int .i64 x.key)).setCell ⟨A.block, A.off + 2, none⟩ (.int .i64 x.cost)).cell? ⟨A.block, A.off + 3, none⟩ = some u
  f3 : (((w.setCell A (.int .i64 x.id)).setCell ⟨A.block, A.off + 1, none⟩ (.int .i64 x.key)).setCell ⟨A.block, A.off + 2, none⟩ (.int .i64 x.cost)).frozen? ⟨A.block, A.off + 3, none⟩ = false
  c4 : ∃ u, ((((w.setCell A (.int .i64 x.id)).setCell ⟨A.block, A.off + 1, none⟩ (.int .i64 x.key)).setCell ⟨A.block, A.off + 2, none⟩ (.int .i64 x.cost)).setCell ⟨A.block, A.off + 3, none⟩ (.int .i64 x.cls)).cell? ⟨A.block, A.off + 4, none⟩ = some u
  f4 : ((((w.setCell A (.int .i64 x.id)).setCell ⟨A.block, A.off + 1, none⟩ (.int .i64 x.key)).setCell ⟨A.block, A.off + 2, none⟩ (.int .i64 x.cost)).setCell ⟨A.block, A.off + 3, none⟩ (.int .i64 x.cls)).frozen? ⟨A.block, A.off + 4, none⟩ = false
  fin : Q (((((w.setCell A (.int .i64 x.id)).setCell ⟨A.block, A.off + 1, none⟩ (.int .i64 x.key)).setCell ⟨A.block, A.off + 2, none⟩ (.int .i64 x.cost)).setCell ⟨A.block, A.off + 3, none⟩ (.int .i64 x.cls)).setCell ⟨A.block, A.off + 4, none⟩ (.int .i64 x.until_))
theorem put5 {F : List Nat} {w0 w : World} {L : List Th} (H : Sep F w0 L w) (n : Nat) {e : TypeId} {ad : Addr} {N c : Nat} {C : List It} {q : Nat} (x : It) (hn : L[n]? = some (tOwn e 5 (.slice (some ad) N c) (C.map It.cells))) (hq : q < C.length) : Put5 w (ad.add (q * 5)) x (Sep F w0 (L.set n (tOwn e 5 (.slice (some ad) N c) ((C.set q x).map It.cells)))) := by
  have hnl := (List.getElem?_eq_some_iff.1 hn).1
  have hql : q < (C.map It.cells).length := by simpa using hq
  obtain ⟨y, hy⟩ : ∃ y, C[q]? = some y := ⟨_, List.getElem?_eq_getElem hq⟩
  obtain ⟨a0, b0, H0⟩ := step5 H n hn (q := q) (r := It.cells y) (by rw [List.getElem?_map, hy]; rfl) rfl 0 (by omega) (ad.add (q * 5)) rfl (.int .i64 x.id)
  obtain ⟨a1, b1, H1⟩ := next5 H0 hnl hql rfl 1 (by omega) ⟨(ad.add (q * 5)).block, (ad.add (q * 5)).off + 1, none⟩ (add_field _ _ _ (by omega)).symm (.int .i64 x.key)
  obtain ⟨a2, b2, H2⟩ := next5 H1 hnl hql rfl 2 (by omega) ⟨(ad.add (q * 5)).block, (ad.add (q * 5)).off + 2, none⟩ (add_field _ _ _ (by omega)).symm (.int .i64 x.cost)
  obtain ⟨a3, b3, H3⟩ := next5 H2 hnl hql rfl 3 (by omega) ⟨(ad.add (q * 5)).block, (ad.add (q * 5)).off + 3, none⟩ (add_field _ _ _ (by omega)).symm (.int .i64 x.cls)
  obtain ⟨a4, b4, H4⟩ := next5 H3 hnl hql rfl 4 (by omega) ⟨(ad.add (q * 5)).block, (ad.add (q * 5)).off + 4, none⟩ (add_field _ _ _ (by omega)).symm (.int .i64 x.until_)
  exact ⟨a0, b0, a1, b1, a2, b2, a3, b3, a4, b4, by rw [List.map_set]; exact H4⟩
set_option maxHeartbeats 2000000 in
theorem delete_st (w : World) (v : Value) (l : List It) (T : Th) (p : It → Bool) (g : Nat) (cb : Array Value) (St : List It → Th → Prop) (eg : ∀ args w, (callFunc g args).run Try.prog w = .ok (.enter g args) w) (h : Got [tIt v l, T] w) (hn : l.length ≤ 100000) (hT : St [] T) (hp : Says Try.prog g cb p St) :
    Calls Try.prog 82 #[v, .func (.func g) #[] cb] w fun e w' => ∃ u T', e = .returned u ∧ St l T' ∧ Sep (fps [tIt v l, T]) w [tIt u (l.filter (fun x => !p x)), T'] w' := by
  have hI := index_st w v l T p g cb St eg h hn hT hp
  have H := h.sep
  generalize hFF : fps [tIt v l, T] = FF at H hI ⊢
  obtain ⟨A, c, rfl, _⟩ := (H.own 0 rfl).form
  rw [List.length_map] at H hI ⊢
  obtain ⟨X, hX⟩ : ∃ X : Ending → World → Prop, X = fun e w' => ∃ u T', e = .returned u ∧ St l T' ∧ Sep FF w [tIt u (l.filter (fun x => !p x)), T'] w' := ⟨_, rfl⟩
  rw [← hX]
  have hXh : Hid (∀ w' u T', St l T' → Sep FF w [tIt u (l.filter (fun x => !p x)), T'] w' → X (.returned u) w') := Lib.hid (fun w' u T' h1 h2 => by rw [hX]; exact ⟨u, T', rfl, h1, h2⟩)
  have hph := Lib.hid hp
  clear hX h hFF hp hT H
  rcases ixFrom_is p l 0 with ⟨r1, r2⟩ | ⟨i, xi, r1, r2, r3, r4⟩
  · have hs : Qc.seen p l = l.length := by unfold Qc.seen; rw [if_pos r1]
    have hf : l.filter (fun x => !p x) = l := List.filter_eq_self.2 (fun x hx => by rw [r2 x hx]; rfl)
    rw [r1, hs, List.take_length] at hI
    rw [hf] at hXh
    have hIh := Lib.hid hI
    clear hI r1 r2 hs hf
    go_enter Try.func82, Try.ntmps82
    go_wp2_with fail
    go_at_call 101
    refine Calls.mono (hIh.out) ?_
    rintro e w1 ⟨rfl, T1, hT1, H⟩
    have hX := hXh.out _ _ _ hT1 H
    clear H hT1
    go_wp2_with fail
    exact hX
  · rw [Nat.zero_add] at r4
    have hs : Qc.seen p l = i + 1 := by unfold Qc.seen; rw [r4, if_neg (by omega)]; simp
    rw [r4, hs] at hI
    have hIh := Lib.hid hI
    have hM := Lib.hid (Mid.start r1 r2 r3)
    have hil := (List.getElem?_eq_some_iff.1 r1).1
    have g0 : ((i : Int) == -1) = false := by simp
    clear hI r1 r2 r3 r4 hs
    go_enter Try.func82, Try.ntmps82
    go_wp2_with fail
    go_at_call 101
    refine Calls.mono (hIh.out) ?_
    rintro e w1 ⟨rfl, T1, hT1, H⟩
    have hT1h := Lib.hid hT1
    clear hT1 hIh
    have hHh := Lib.hid H
    clear H
    go_wp2_with fail
    have H := hHh.out
    clear hHh
    go_loopw [5, 6] (fun v5 v6 wr => ∃ (q j : Nat) (C : List It) (T : Th), j ≤ l.length ∧ v5 = .int .i64 q ∧ v6 = .int .i64 j ∧ Mid p l C q j ∧ St (l.take j) T ∧ Sep FF w [tIt (.slice A l.length c) C, T] wr) (fun _ v6 _ => l.length - (RowKit.intOf v6).toNat)
    case atStart => exact ⟨i, i + 1, l, T1, by omega, rfl, by go_num, hM.out, hT1h.out, H⟩
    case round =>
      obtain ⟨q, j, C, T2, hj, rfl, rfl, hMj, hT2, H1⟩ := hrel
      clear H
      have H := H1
      clear H1
      have hq := hMj.le
      have hCl := hMj.len
      have hMjh := Lib.hid hMj
      have hT2h := Lib.hid hT2
      clear hMj hT2
      by_cases hlt : j < l.length
      · have g1 : decide ((j : Int) < (l.length : Int)) = true := by simp; omega
        obtain ⟨x, hx⟩ : ∃ x, l[j]? = some x := ⟨_, List.getElem?_eq_getElem hlt⟩
        obtain ⟨ad, c', hv, L⟩ := icells_at (H.own 0 rfl).reads (hMjh.out.at_ hx)
        rw [hCl] at hv
        injection hv with e1 e2 e3
        subst e1 e3
        obtain ⟨i0, i1, i2, i3, i4⟩ := L
        replace H := H.alloc #[.int .i64 x.id, .int .i64 x.key, .int .i64 x.cost, .int .i64 x.cls, .int .i64 x.until_] 34
        have hc := hph.out (l.take j) T2 _ x (by rw [List.length_take]; omega) hT2h.out (H.at_ 2 rfl)
        rw [← take_next hx] at hc
        unfold It.v at hc
        have hch := Lib.hid hc
        have hxh := Lib.hid hx
        clear hx e2 hc
        cases hpx : p x with
        | true =>
          rw [hpx] at hch
          have hnx := Lib.hid (hMjh.out.skip hxh.out hpx)
          go_wp2_with (first | (go_at_fn g; refine Calls.mono hch.out ?_; rintro e w2 ⟨rfl, T3, hT3, h3⟩; replace H := (H.call [2] h3).keep [2, 0]; have hT3h := Lib.hid hT3; clear h3 hT3) | go_in)
          go_roundw
          case rel => exact ⟨q, j + 1, C, T3, by omega, rfl, by go_num, hnx.out, hT3h.out, H⟩
          case measure => simp [RowKit.intOf]; omega
        | false =>
          rw [hpx] at hch
          have hnx := Lib.hid (hMjh.out.keep hxh.out hpx)
          go_wp2_with (first | (go_at_fn g; refine Calls.mono hch.out ?_; rintro e w2 ⟨rfl, T3, hT3, h3⟩; replace H := (H.call [2] h3).keep [2, 0, 1]; have hT3h := Lib.hid hT3; clear h3 hT3 i0 i1 i2 i3 i4; refine stop_ ?_) | go_in)
          refine Mk_.mk ?_
          have d0 : World.cell? (w2) ⟨wr.heap.size, 0, none⟩ = some _ := (H.blk 2 rfl).cell 0
          have d1 : World.cell? (w2) ⟨wr.heap.size, 1, none⟩ = some _ := (H.blk 2 rfl).cell 1
          have d2 : World.cell? (w2) ⟨wr.heap.size, 2, none⟩ = some _ := (H.blk 2 rfl).cell 2
          have d3 : World.cell? (w2) ⟨wr.heap.size, 3, none⟩ = some _ := (H.blk 2 rfl).cell 3
          have d4 : World.cell? (w2) ⟨wr.heap.size, 4, none⟩ = some _ := (H.blk 2 rfl).cell 4
          obtain ⟨⟨z0, y0⟩, f0, ⟨z1, y1⟩, f1, ⟨z2, y2⟩, f2, ⟨z3, y3⟩, f3, ⟨z4, y4⟩, f4, H5⟩ := put5 H 0 x rfl (show q < C.length by omega)
          clear H
          go_wp2_with fail
          go_roundw
          case rel => exact ⟨q + 1, j + 1, C.set q x, T3, by omega, by go_num, by go_num, hnx.out, hT3h.out, H5.keep [0, 1]⟩
          case measure => simp [RowKit.intOf]; omega
      · obtain rfl : j = l.length := by omega
        have g1 : decide ((l.length : Int) < (l.length : Int)) = false := by simp
        obtain ⟨D1, D2⟩ := hMjh.out.done
        have hT3 := hT2h.out
        rw [List.take_length] at hT3
        obtain ⟨A2, c2, hv2, hc2, _, hnil⟩ := (H.own 0 rfl).form
        rw [List.length_map, hCl] at hv2 hc2
        injection hv2 with e1 e2 e3
        subst e1 e3
        cases A with
        | none => have := hnil rfl; omega
        | some ad =>
          have hc0 : ¬ c = 0 := by omega
          have hcq : ¬ c = q := by omega
          have hql : (q : Int) ≤ (l.length : Int) := by omega
          have hqc : (q : Int) ≤ (c : Int) := by omega
          have hT3h := Lib.hid hT3
          have D1h := Lib.hid D1
          have D2h := Lib.hid D2
          clear hT3 D1 D2 e2 hnil hT2h hMjh hM hT1h
          have O := Lib.hid (H.own 0 rfl)
          have hqn := Lib.hid (show q < l.length by omega)
          go_wp2_with (refine Hz.wp_clear_tail O.out rfl _ rfl Try.underlying37 _ (zeroItem _) rfl zeroOne (by decide) q hqn.out rfl ?_; intro w3 o3 t3)
          replace H := H.slice 0 rfl (rows' := (l.filter (fun x => !p x)).map It.cells) (v' := .slice (some ad) q c) (by rw [← List.map_take, D1h.out] at o3; exact o3) (by simpa [Value.ownBlock] using t3) (.inl rfl)
          have hX := hXh.out _ _ _ hT3h.out H
          clear H t3 o3
          go_wp2_with fail
          exact hX
end Go.Proofs.Ytoojemdehmabhaa.Qd
