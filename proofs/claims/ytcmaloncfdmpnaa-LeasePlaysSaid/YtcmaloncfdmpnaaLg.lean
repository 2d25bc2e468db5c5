/- The walks of the document's wallet: Spend, Put. -/
import Derived.Test.YtcmaloncfdmpnaaLf
set_option linter.unusedVariables false
set_option linter.unusedSimpArgs false
set_option maxRecDepth 100000
namespace Go.Proofs.Ytcmaloncfdmpnaa.Lg
open Go.RowKit Go.MapKept Hm Hs Hf Hg Hk Hx Hy Hv Hl Sm Sat Wa Lw La Lb Ld Le Lf
/-- Spend: what is told, and what is left -/
def spendD (R : List Lea) (k cost now : Int) : Int × Bool × List Lea :=
  if cost < 1 then (0, false, R) else if cost > left R k now then (0, false, R) else
    match find R k with | none => (0, false, R) | some x => (x.gen, true, R.set (pos R k).toNat { x with spent := wrap64 (x.spent + cost) })
set_option maxHeartbeats 1000000 in
theorem spend_is (w : World) (d : Nat) (lv : Value) (R : List Lea) (k cost now : Int) (h : Got (rw11 d lv R) w) (hn : R.length ≤ 100000) (n : Int) (ok : Bool) (R' : List Lea) (hR : spendD R k cost now = (n, ok, R')) :
    Calls Try.prog 114 #[.pointer (some ⟨d, 0, none⟩), .int .i64 k, .int .i64 cost, .int .i64 now] w (DOut w d lv R R' (.tuple #[.int .i64 n, .bool ok])) := by
  have hA := fun w lv h => at_is w d lv R k h (by omega)
  have hL := left_is w d lv R k now h (by omega)
  have H := h.sep
  generalize hFF : fps (rw11 d lv R) = FF at H
  obtain ⟨A, c, rfl, _⟩ := (H.own 1 rfl).form
  have hX : ∀ w' lv', Sep FF w (rw11 d lv' R') w' → DOut w d (.slice A (R.map Lea.cells).length c) R R' (.tuple #[.int .i64 n, .bool ok]) (.returned (.tuple #[.int .i64 n, .bool ok])) w' := fun w' lv' h1 => ⟨rfl, lv', by rw [hFF]; exact h1⟩
  generalize DOut w d (.slice A (R.map Lea.cells).length c) R R' (.tuple #[.int .i64 n, .bool ok]) = X at *
  rw [List.length_map] at H
  have hAh := Lib.hid hA
  unfold spendD at hR
  obtain ⟨lf, hlf⟩ : ∃ lf, left R k now = lf := ⟨_, rfl⟩
  rw [hlf] at hR hL
  have hLh := Lib.hid hL
  have hlfh := Lib.hid hlf
  clear hFF h hA hL hlf
  by_cases h1 : cost < 1
  · rw [if_pos h1] at hR
    simp only [Prod.mk.injEq] at hR
    obtain ⟨rfl, rfl, rfl⟩ := hR
    have hXh := Lib.hid hX
    have g0 := decide_eq_true h1
    clear hX h1
    go_enter Try.func114, Try.ntmps114
    have hX := hXh.out _ _ H
    clear H
    go_wp2_with fail
    exact hX
  · rw [if_neg h1] at hR
    have g0 : decide (cost < 1) = false := decide_eq_false h1
    by_cases h2 : cost > lf
    · rw [if_pos h2] at hR
      simp only [Prod.mk.injEq] at hR
      obtain ⟨rfl, rfl, rfl⟩ := hR
      have hXh := Lib.hid hX
      have g1 := decide_eq_true h2
      clear hX h1 h2
      go_enter Try.func114, Try.ntmps114
      go_wp2_with fail
      go_at_call 68
      refine Calls.mono (hLh.out) ?_
      rintro e w1 ⟨rfl, t1⟩
      have hX := hXh.out _ _ (H.turns t1)
      clear H t1
      go_wp2_with fail
      exact hX
    · rw [if_neg h2] at hR
      have g1 : decide (cost > lf) = false := decide_eq_false h2
      rcases pos_is R k with ⟨p1, p2⟩ | ⟨i, x, p1, p2, p3, p4⟩
      · have : lf = 0 := by rw [← hlfh.out]; unfold left; rw [p2]
        omega
      · rw [p3, p4] at hR
        simp only [Prod.mk.injEq, Int.toNat_natCast] at hR
        obtain ⟨rfl, rfl, rfl⟩ := hR
        have hXh := Lib.hid hX
        rw [p4] at hAh
        have hi := (List.getElem?_eq_some_iff.1 p1).1
        have p1h := Lib.hid p1
        clear hX h1 h2 p1 p2 p3 p4
        go_enter Try.func114, Try.ntmps114
        go_wp2_with fail
        go_at_call 68
        refine Calls.mono (hLh.out) ?_
        rintro e w1 ⟨rfl, t1⟩
        replace H := H.turns t1
        clear t1 hLh
        have hAc := Lib.hid (hAh.out _ _ (H.got [0, 1]))
        clear hAh
        go_wp2_with fail
        go_at_call 116
        refine Calls.mono (hAc.out) ?_
        rintro e w2 ⟨rfl, t2⟩
        replace H := H.turns t2
        clear t2 hAc
        replace H := H.newSlice ((Turns.refl _ _).alloc (.cells #[] 162)) (own_nil_lit w2 162 5) (by simp [Value.ownBlock])
        have c0 : World.cell? (w2.alloc (.cells #[] 162)) ⟨d, 0, none⟩ = some _ := (H.blk 1 rfl).cell 0
        have hs1 := Lib.hid (H.own 2 rfl).reads
        go_wp2_with (at_builtin; refine stop_ ?_)
        refine Mk_.mk ?_
        refine H.append 0 rfl hs1.out R.length (by simp) (R.map Lea.cells) (by simp) rfl _ _ _ rfl (.agg #[.int .i64 0, .int .i64 0, .int .i64 0, .int .i64 0, .int .i64 0]) 40 Try.underlying103 infoM rfl (by decide) rfl rfl (mcells_one _) (by omega) (by omega) ?_
        clear H hs1 c0
        intro A1 c1 w3 H t3 _
        clear t3
        have p1r : (R.map Lea.cells)[i]? = some (Lea.cells x) := by rw [List.getElem?_map, p1h.out]; rfl
        obtain ⟨ad, c', hv, hcells, hset⟩ := Hy.Sep.setAt H 0 rfl p1r
        rw [List.length_map] at hv
        injection hv with e1 e2 e3
        subst e1 e3
        obtain ⟨i0, i1, i2, i3, i4⟩ := lcells_of hcells
        obtain ⟨f3, hset⟩ := hset 3 (by omega) ⟨(ad.add (i * 5)).block, (ad.add (i * 5)).off + 3, none⟩ (add_field _ _ _ (by omega)).symm
        replace H := hset (.int .i64 (wrap64 (x.spent + cost)))
        rw [show (R.map Lea.cells).set i ((Lea.cells x).set 3 (.int .i64 (wrap64 (x.spent + cost)))) = (R.set i { x with spent := wrap64 (x.spent + cost) }).map Lea.cells from by rw [List.map_set]; rfl] at H
        clear hset hcells e2 p1r
        have hp2 : (R.set i { x with spent := wrap64 (x.spent + cost) })[i]? = some { x with spent := wrap64 (x.spent + cost) } := by rw [List.getElem?_set_self hi]
        have hp2h := Lib.hid hp2
        have c0 : World.cell? (w3.setCell ⟨(ad.add (i * 5)).block, (ad.add (i * 5)).off + 3, none⟩ (.int .i64 (wrap64 (x.spent + cost)))) ⟨d, 0, none⟩ = some _ := (H.blk 1 rfl).cell 0
        have cf0 : World.frozen? (w3.setCell ⟨(ad.add (i * 5)).block, (ad.add (i * 5)).off + 3, none⟩ (.int .i64 (wrap64 (x.spent + cost)))) ⟨d, 0, none⟩ = false := (H.blk 1 rfl).frozen 0
        replace H := H.set 1 rfl 0 (.slice (some ad) R.length c1)
        obtain ⟨ad2, c2, hv2, L2⟩ := lcells_at (H.own 0 rfl).reads hp2h.out
        rw [List.length_set] at hv2
        injection hv2 with e1 e2 e3
        injection e1 with e1
        subst e1 e3
        have j1 := L2.g
        have hlen : (R.set i { x with spent := wrap64 (x.spent + cost) }).length = R.length := List.length_set
        replace H := (H.keep [1, 0])
        have hX := hXh.out _ (.slice (some ad) R.length c1) H
        clear H L2 hp2 e2 hlen
        go_wp2_with fail
        exact hX
/-- one step of Put's walk along the leases -/
def pst (x : Lea) (a : List Lea × Bool) (y : Lea) : List Lea × Bool := if a.2 = false ∧ y.key > x.key then (a.1 ++ [x] ++ [y], true) else (a.1 ++ [y], a.2)
def pend (x : Lea) (a : List Lea × Bool) : List Lea := if a.2 = false then a.1 ++ [x] else a.1
def pin (x : Lea) (R : List Lea) : List Lea := pend x (R.foldl (pst x) ([], false))
theorem pst_len (x : Lea) : ∀ (S : List Lea) (a : List Lea × Bool), (S.foldl (pst x) a).1.length ≤ a.1.length + 2 * S.length
  | [], a => by simp
  | o :: S, a => by
    rw [List.foldl_cons]
    have h1 := pst_len x S (pst x a o)
    have h2 : (pst x a o).1.length ≤ a.1.length + 2 := by
      unfold pst
      obtain ⟨l, b⟩ := a
      split <;> simp
    simp only [List.length_cons]
    omega
/-- Put: the error, what is left -/
def putD (R : List Lea) (x : Lea) : Int × List Lea :=
  if badB x then (1, R) else match find R x.key with | some _ => (5, R) | none => (0, pin x R)
end Go.Proofs.Ytcmaloncfdmpnaa.Lg
