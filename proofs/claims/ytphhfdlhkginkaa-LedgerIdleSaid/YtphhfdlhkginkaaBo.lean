/- slices.IndexFunc, DeleteFunc of rows: the predicate turns nothing. -/
import Derived.Test.YtphhfdlhkginkaaBj
import Derived.Test.YtphhfdlhkginkaaWg
set_option linter.unusedVariables false
set_option linter.unusedSimpArgs false
set_option maxRecDepth 100000
namespace Go.Proofs.Ytphhfdlhkginkaa.Bo
open Go.RowKit Go.MapKept Hm Hs Hf Hx Hy Hv Hz Hu Fa Ff Fq Ba Bc Bj Ia
/-- each row's leases are a slice -/
def Sl (X : List Rw) : Prop := ∀ x ∈ X, ∃ A n c, x.out = .slice A n c
theorem rows_sl {w : World} {X : List Rw} {R : List Row} (h : RowsIs w X R) : Sl X := by
  intro x hx
  obtain ⟨j, hj⟩ := List.getElem?_of_mem hx
  have hjl := (List.getElem?_eq_some_iff.1 hj).1
  obtain ⟨s, hs⟩ : ∃ s, R[j]? = some s := ⟨_, List.getElem?_eq_getElem (by rw [← h.1]; exact hjl)⟩
  obtain ⟨A, c, ho, _⟩ := ls_form (h.2 j x s hj hs).out
  exact ⟨A, _, c, ho⟩
/-- the predicate g says p x, whatever new there is -/
def Tells (P : Program) (g : Nat) (cb : Array Value) (w0 : World) (X : List Rw) (p : Rw → Bool) : Prop := ∀ W x, x ∈ X → Turns [] w0 W → Calls P g (#[x.v] ++ cb) W fun e w' => e = .returned (.bool (p x)) ∧ Turns [] W w'
theorem rcells_at {w : World} {v : Value} {X : List Rw} {j : Nat} {x : Rw} (h : RdS 4 w v (X.map Rw.cells)) (hj : X[j]? = some x) : ∃ ad c, v = .slice (some ad) X.length c ∧ RCells w ad (j * 4) x := by
  obtain ⟨ad, c, hv, _, hc⟩ := h.at_ (j := j) (r := Rw.cells x) (by rw [List.getElem?_map, hj]; rfl)
  rw [List.length_map] at hv
  have c0 := hc 0 _ rfl
  have c1 := hc 1 _ rfl
  have c2 := hc 2 _ rfl
  have c3 := hc 3 _ rfl
  rw [Nat.add_zero] at c0
  rw [add_field _ _ _ (by omega)] at c1 c2 c3
  exact ⟨ad, c, hv, ⟨c0, c1, c2, c3⟩⟩
set_option maxHeartbeats 1000000 in
theorem indexR_is (w0 w : World) (v : Value) (X : List Rw) (p : Rw → Bool) (g : Nat) (cb : Array Value) (eg : ∀ args w, (callFunc g args).run Try.prog w = .ok (.enter g args) w) (h : RdS 4 w v (X.map Rw.cells)) (t0 : Turns [] w0 w) (hn : X.length ≤ 100000) (hs : Sl X) (hp : Tells Try.prog g cb w0 X p) :
    Calls Try.prog 69 #[v, .func (.func g) #[] cb] w fun e w' => e = .returned (.int .i64 (ixFrom p X 0)) ∧ Turns [] w w' := by
  have hh := Lib.hid h
  obtain ⟨A, c, rfl, _⟩ := h.form
  rw [List.length_map]
  obtain ⟨r, hr⟩ : ∃ r, ixFrom p X 0 = r := ⟨_, rfl⟩
  rw [hr]
  have hrh := Lib.hid hr
  have hph := Lib.hid hp
  have hsh := Lib.hid hs
  have t0h := Lib.hid t0
  clear h hr hp hs t0
  go_enter Try.func69, Try.ntmps69
  go_wp2_with fail
  go_loopw [5, 8] (fun _ v8 wr => ∃ (j : Nat), j ≤ X.length ∧ v8 = .int .i64 j ∧ ixFrom p (X.drop j) j = r ∧ Turns [] w wr) (fun _ v8 _ => X.length - (RowKit.intOf v8).toNat)
  case atStart => exact ⟨0, by omega, rfl, hrh.out, Turns.refl _ _⟩
  case round =>
    obtain ⟨j, hj, rfl, hpj, T⟩ := hrel
    by_cases hlt : j < X.length
    · have g1 : decide ((j : Int) < (X.length : Int)) = true := by simp; omega
      have g1b : decide (j < X.length) = true := decide_eq_true hlt
      obtain ⟨x, hx⟩ : ∃ x, X[j]? = some x := ⟨_, List.getElem?_eq_getElem hlt⟩
      obtain ⟨ad, c', hv, L⟩ := rcells_at hh.out hx
      injection hv with e1 e2 e3
      subst e1 e3
      rw [Fa.drop_cons hx] at hpj
      unfold ixFrom at hpj
      have hxm := List.mem_of_getElem? hx
      obtain ⟨Ax, nx, cx, hox⟩ := hsh.out x hxm
      have hc := hph.out wr x hxm (t0h.out.trans T)
      generalize p x = q at *
      obtain ⟨xk, xa, xm, xo⟩ := x
      simp only at hox
      subst hox
      obtain ⟨i0, i1, i2, i3⟩ := L.turns T
      simp only [Rw.v] at hc
      have hch := Lib.hid hc
      clear hx e2 L hc hxm
      cases q with
      | true =>
        simp only [if_true] at hpj
        subst hpj
        go_wp2_with (first | (go_at_fn g; refine Calls.mono hch.out ?_; rintro e w2 ⟨rfl, t2⟩) | go_in)
        go_ret
        exact ⟨rfl, T.trans t2⟩
      | false =>
        simp only [Bool.false_eq_true, if_false] at hpj
        have hpjh := Lib.hid hpj
        clear hpj
        go_wp2_with (first | (go_at_fn g; refine Calls.mono hch.out ?_; rintro e w2 ⟨rfl, t2⟩) | go_in)
        go_roundw
        case rel => exact ⟨j + 1, by omega, by go_num, hpjh.out, T.trans t2⟩
        case measure => simp [RowKit.intOf]; omega
    · obtain rfl : j = X.length := by omega
      have g1 : decide ((X.length : Int) < (X.length : Int)) = false := by simp
      rw [List.drop_length] at hpj
      unfold ixFrom at hpj
      subst hpj
      go_wp2_with fail
      go_ret
      exact ⟨rfl, T⟩
theorem zeroRow (w : World) : (zeroValue 38).run Try.prog w = .ok (.agg #[.int .i64 0, .int .i64 0, .int .i64 0, .slice none 0 0]) w := by kernel_rfl
theorem zeroRowOne : ∀ u ∈ (Value.agg #[.int .i64 0, .int .i64 0, .int .i64 0, .slice none 0 0]).cells, u.oneCell' = true := by
  intro u hu
  have h0 : u ∈ (Value.agg #[.int .i64 0, .int .i64 0, .int .i64 0, .slice none 0 0]).cells.toList := Array.mem_def.1 hu
  have this : u ∈ [Value.int .i64 0, .int .i64 0, .int .i64 0, .slice none 0 0] := h0
  simp at this
  rcases this with rfl | rfl <;> rfl
theorem Sl.set_ {X C : List Rw} (h : Sl X) {q : Nat} {x : Rw} (hx : x ∈ X) (hC : ∀ y ∈ C, y ∈ X) : ∀ y ∈ C.set q x, y ∈ X := fun y hy => by
  rcases List.mem_or_eq_of_mem_set hy with hy | rfl
  · exact hC y hy
  · exact hx
set_option maxHeartbeats 4000000 in
theorem deleteR_is (w0 w : World) (v : Value) (X : List Rw) (p : Rw → Bool) (g : Nat) (cb : Array Value) (eg : ∀ args w, (callFunc g args).run Try.prog w = .ok (.enter g args) w) (H : Sep [] w0 [tOwn 38 4 v (X.map Rw.cells)] w) (hn : X.length ≤ 100000) (hs : Sl X) (hp : Tells Try.prog g cb w0 X p) :
    Calls Try.prog 55 #[v, .func (.func g) #[] cb] w fun e w' => ∃ u, e = .returned u ∧ Sep [] w0 [tOwn 38 4 u ((X.filter (fun x => !p x)).map Rw.cells)] w' := by
  have hI := indexR_is w0 w v X p g cb eg (H.own 0 rfl).reads H.t hn hs hp
  obtain ⟨A, c, rfl, hcc⟩ := (H.own 0 rfl).form
  clear hcc
  rw [List.length_map] at H hI ⊢
  obtain ⟨V, hV⟩ : ∃ V : Ending → World → Prop, V = fun e w' => ∃ u, e = .returned u ∧ Sep [] w0 [tOwn 38 4 u ((X.filter (fun x => !p x)).map Rw.cells)] w' := ⟨_, rfl⟩
  rw [← hV]
  have hVh : Hid (∀ w' u, Sep [] w0 [tOwn 38 4 u ((X.filter (fun x => !p x)).map Rw.cells)] w' → V (.returned u) w') := Lib.hid (fun w' u h1 => by rw [hV]; exact ⟨u, rfl, h1⟩)
  have hHh := Lib.hid H
  have hph := Lib.hid hp
  have hsh := Lib.hid hs
  clear hV H hp hs
  rcases ixFrom_is p X 0 with ⟨r1, r2⟩ | ⟨i, xi, r1, r2, r3, r4⟩
  · have hf : X.filter (fun x => !p x) = X := List.filter_eq_self.2 (fun x hx => by rw [r2 x hx]; rfl)
    rw [r1] at hI
    rw [hf] at hVh
    have hIh := Lib.hid hI
    clear hI r1 r2 hf
    go_enter Try.func55, Try.ntmps55
    go_wp2_with fail
    go_at_call 69
    refine Calls.mono (hIh.out) ?_
    rintro e w1 ⟨rfl, t1⟩
    have hX := hVh.out _ _ (hHh.out.turns t1)
    go_wp2_with fail
    exact hX
  · rw [Nat.zero_add] at r4
    rw [r4] at hI
    have hIh := Lib.hid hI
    have hM := Lib.hid (Mid.start r1 r2 r3)
    have hil := (List.getElem?_eq_some_iff.1 r1).1
    have g0 : ((i : Int) == -1) = false := by simp
    clear hI r1 r2 r3 r4
    go_enter Try.func55, Try.ntmps55
    go_wp2_with fail
    go_at_call 69
    refine Calls.mono (hIh.out) ?_
    rintro e w1 ⟨rfl, t1⟩
    have H := hHh.out.turns t1
    clear hHh hIh t1
    have hHh := Lib.hid H
    clear H
    go_wp2_with fail
    have H := hHh.out
    clear hHh
    go_loopw [5, 6] (fun v5 v6 wr => ∃ (q j : Nat) (C : List Rw), j ≤ X.length ∧ v5 = .int .i64 q ∧ v6 = .int .i64 j ∧ Mid p X C q j ∧ Hid (∀ y ∈ C, y ∈ X) ∧ Sep [] w0 [tOwn 38 4 (.slice A X.length c) (C.map Rw.cells)] wr) (fun _ v6 _ => X.length - (RowKit.intOf v6).toNat)
    case atStart => exact ⟨i, i + 1, X, by omega, rfl, by go_num, hM.out, (show Hid _ from fun y hy => hy), H⟩
    case round =>
      obtain ⟨q, j, C, hj, rfl, rfl, hMj, hCX, H1⟩ := hrel
      clear H
      have H := H1
      clear H1
      have hq := hMj.le
      have hCl := hMj.len
      have hMjh := Lib.hid hMj
      clear hMj
      by_cases hlt : j < X.length
      · have g1 : decide ((j : Int) < (X.length : Int)) = true := by simp; omega
        have g1b : decide (j < X.length) = true := decide_eq_true hlt
        obtain ⟨x, hx⟩ : ∃ x, X[j]? = some x := ⟨_, List.getElem?_eq_getElem hlt⟩
        obtain ⟨ad, c', hv, L⟩ := rcells_at (H.own 0 rfl).reads (hMjh.out.at_ hx)
        rw [hCl] at hv
        injection hv with e1 e2 e3
        subst e1 e3
        have hxm := List.mem_of_getElem? hx
        obtain ⟨Ax, nx, cx, hox⟩ := hsh.out x hxm
        have H2 := H.alloc x.cells.toArray 38
        have hc := hph.out _ x hxm H2.t
        have hnxk := Lib.hid (fun h => hMjh.out.skip hx h)
        have hnxp := Lib.hid (fun h => hMjh.out.keep hx h)
        have hCs := Lib.hid (Sl.set_ (q := q) hsh.out hxm hCX.out)
        generalize p x = b at *
        obtain ⟨xk, xa, xm, xo⟩ := x
        simp only at hox
        subst hox
        obtain ⟨i0, i1, i2, i3⟩ := L
        simp only [Rw.v] at hc
        simp only [Rw.cells] at H2 hc
        have hch := Lib.hid hc
        have H2h := Lib.hid H2
        clear hx e2 hc hxm H H2
        cases b with
        | true =>
          have hnx := Lib.hid (hnxk.out rfl)
          go_wp2_with (first | (go_at_fn g; refine Calls.mono hch.out ?_; rintro e w2 ⟨rfl, t2⟩) | go_in)
          go_roundw
          case rel => exact ⟨q, j + 1, C, by omega, rfl, by go_num, hnx.out, hCX, (H2h.out.turns t2).keep [1]⟩
          case measure => simp [RowKit.intOf]; omega
        | false =>
          have hnx := Lib.hid (hnxp.out rfl)
          go_wp2_with (first | (go_at_fn g; refine Calls.mono hch.out ?_; rintro e w2 ⟨rfl, t2⟩; clear i0 i1 i2 i3; refine stop_ ?_) | go_in)
          refine Mk_.mk ?_
          have H3 := H2h.out.turns t2
          have d0 : World.cell? (w2) ⟨wr.heap.size, 0, none⟩ = some _ := (H3.blk 0 rfl).cell 0
          have d1 : World.cell? (w2) ⟨wr.heap.size, 1, none⟩ = some _ := (H3.blk 0 rfl).cell 1
          have d2 : World.cell? (w2) ⟨wr.heap.size, 2, none⟩ = some _ := (H3.blk 0 rfl).cell 2
          have d3 : World.cell? (w2) ⟨wr.heap.size, 3, none⟩ = some _ := (H3.blk 0 rfl).cell 3
          obtain ⟨⟨z0, y0⟩, f0, ⟨z1, y1⟩, f1, ⟨z2, y2⟩, f2, ⟨z3, y3⟩, f3, H5⟩ := put4 H3 1 ⟨xk, xa, xm, .slice Ax nx cx⟩ rfl (show q < C.length by omega)
          have H5h := Lib.hid H5
          clear H2h H3 H5 t2
          go_wp2_with fail
          go_roundw
          case rel => exact ⟨q + 1, j + 1, C.set q ⟨xk, xa, xm, .slice Ax nx cx⟩, by omega, by go_num, by go_num, hnx.out, hCs, H5h.out.keep [1]⟩
          case measure => simp [RowKit.intOf]; omega
      · obtain rfl : j = X.length := by omega
        have g1 : decide ((X.length : Int) < (X.length : Int)) = false := by simp
        obtain ⟨D1, D2⟩ := hMjh.out.done
        obtain ⟨A2, c2, hv2, hc2, _, hnil⟩ := (H.own 0 rfl).form
        rw [List.length_map, hCl] at hv2 hc2
        injection hv2 with e1 e2 e3
        subst e1 e3
        cases A with
        | none => have := hnil rfl; omega
        | some ad =>
          have hc0 : ¬ c = 0 := by omega
          have hcq : ¬ c = q := by omega
          have hql : (q : Int) ≤ (X.length : Int) := by omega
          have hqc : (q : Int) ≤ (c : Int) := by omega
          have D1h := Lib.hid D1
          have D2h := Lib.hid D2
          clear D1 D2 e2 hnil hMjh hM
          have O := Lib.hid (H.own 0 rfl)
          have hqn := Lib.hid (show q < X.length by omega)
          go_wp2_with (refine Hz.wp_clear_tail O.out rfl _ rfl Try.underlying22 _ (zeroRow _) rfl zeroRowOne (by decide) q hqn.out rfl ?_; intro w3 o3 t3)
          replace H := H.slice 0 rfl (rows' := (X.filter (fun x => !p x)).map Rw.cells) (v' := .slice (some ad) q c) (by rw [← List.map_take, D1h.out] at o3; exact o3) (by simpa [Value.ownBlock] using t3) (.inl rfl)
          have hX := hVh.out _ _ H
          clear H t3 o3
          go_wp2_with fail
          exact hX
end Go.Proofs.Ytphhfdlhkginkaa.Bo
