/- LeasePlays: Of, Same, step, want, alive. -/
import Derived.Test.YtcmaloncfdmpnaaLh
import Derived.Test.YtcmaloncfdmpnaaLi
import Derived.Lib.Hide
set_option linter.unusedVariables false
set_option linter.unusedSimpArgs false
set_option maxRecDepth 100000
namespace Go.Proofs.Ytcmaloncfdmpnaa.Lj
open Go.RowKit Go.MapKept Hm Hs Hf Hg Hk Hx Hy Hv Hl Sm Sat Wa Lw La Lb Ld Le Lf Lg Lh Li
structure Act where
  kind : Int
  l : Lea
  now : Int
def Act.v (a : Act) : Value := .agg #[.int .u8 a.kind, .int .i64 a.l.key, .int .i64 a.l.gen, .int .i64 a.l.amount, .int .i64 a.l.spent, .int .i64 a.l.until_, .int .i64 a.now]
def Act.cells (a : Act) : List Value := [.int .u8 a.kind, .int .i64 a.l.key, .int .i64 a.l.gen, .int .i64 a.l.amount, .int .i64 a.l.spent, .int .i64 a.l.until_, .int .i64 a.now]
set_option maxHeartbeats 1000000 in
theorem of_is (w : World) (v : Value) (R : List Lea) (h : RdS 5 w v (R.map Lea.cells)) (hn : R.length ≤ 1000000) : Calls Try.prog 65 #[v] w fun e w' => ∃ u, e = .returned u ∧ OwnS 162 5 w' u (R.map Lea.cells) ∧ Turns [] w w' ∧ (∀ k, u.ownBlock = some k → w.heap.size ≤ k) := by
  have hh := Lib.hid h
  obtain ⟨A, c, rfl, _⟩ := h.form
  rw [List.length_map]
  have H := (Sep.start w).nilSlice 162 5
  clear h
  go_enter Try.func65, Try.ntmps65
  go_wp2_with fail
  go_loopw [3, 4] (fun v3 v4 wr => ∃ (j : Nat), j ≤ R.length ∧ v4 = .int .i64 j ∧ Sep [] w [tOwn 162 5 v3 ((R.take j).map Lea.cells)] wr) (fun _ v4 _ => R.length - (RowKit.intOf v4).toNat)
  case atStart => exact ⟨0, by omega, rfl, H⟩
  case round =>
    obtain ⟨j, hj, rfl, H1⟩ := hrel
    clear H
    have H := H1
    clear H1
    obtain ⟨N, c3, rfl, _⟩ := formM (H.own 0 rfl)
    have htl : (R.take j).length = j := by rw [List.length_take]; omega
    rw [htl] at H ⊢
    by_cases hlt : j < R.length
    · have g1 : decide ((j : Int) < (R.length : Int)) = true := by simp; omega
      obtain ⟨x, hx⟩ : ∃ x, R[j]? = some x := ⟨_, List.getElem?_eq_getElem hlt⟩
      obtain ⟨ad, c', hv, L⟩ := lcells_at hh.out hx
      rw [List.length_map] at hv
      injection hv with e1 e2 e3
      subst e1 e3
      obtain ⟨i0, i1, i2, i3, i4⟩ := L.turns H.t
      have hap : (R.take (j + 1)).map Lea.cells = (R.take j).map Lea.cells ++ [x].map Lea.cells := by rw [List.take_add_one, hx, List.map_append]; rfl
      have haph := Lib.hid hap
      have htlh := Lib.hid htl
      clear hx hap e2 L htl
      replace H := H.alloc #[.int .i64 x.key, .int .i64 x.gen, .int .i64 x.amount, .int .i64 x.spent, .int .i64 x.until_] 109
      replace H := H.alloc #[.int .i64 x.key, .int .i64 x.gen, .int .i64 x.amount, .int .i64 x.spent, .int .i64 x.until_] 162
      rw [World.size_alloc] at H
      have hs2h := Lib.hid (oneLea (H.blk 0 rfl))
      go_wp2_with (at_builtin; refine stop_ ?_)
      refine Mk_.mk ?_
      refine H.append 2 rfl hs2h.out (j + 1) (by rw [List.length_map, htlh.out]; rfl) ((R.take (j + 1)).map Lea.cells) haph.out rfl _ _ _ rfl (.agg #[.int .i64 0, .int .i64 0, .int .i64 0, .int .i64 0, .int .i64 0]) 40 Try.underlying103 infoM rfl (by decide) rfl rfl (mcells_one _) (by omega) (by omega) ?_
      clear H hs2h
      intro N c3 wn H tn _
      clear tn i0 i1 i2 i3 i4
      replace H := H.keep [2]
      go_wp2_with fail
      go_roundw
      case rel => exact ⟨j + 1, by omega, by go_num, H⟩
      case measure => simp [RowKit.intOf]; omega
    · obtain rfl : j = R.length := by omega
      have g1 : decide ((R.length : Int) < (R.length : Int)) = false := by simp
      rw [List.take_length] at H
      have O := H.own 0 rfl
      have T := H.t
      have Mi := mine_own H 0 rfl
      clear H
      go_wp2_with fail
      go_ret
      exact ⟨_, rfl, O, T, fun q hq => by simpa using Mi q hq⟩
theorem same_is (w : World) (v u : Value) (R : List Lea) (hv : RdS 5 w v (R.map Lea.cells)) (hu : RdS 5 w u (R.map Lea.cells)) : Calls Try.prog 64 #[v, u] w fun e w' => e = .returned (.bool true) ∧ Turns [] w w' := by
  have hv0 := Lib.hid hv
  have hu0 := Lib.hid hu
  obtain ⟨A, c, rfl, hc, hcm⟩ := hv.form
  obtain ⟨B, c2, rfl, hc2, hcm2⟩ := hu.form
  simp only [List.length_map] at hc hc2 ⊢
  clear hv hu
  go_enter Try.func64, Try.ntmps64
  go_wp2_with fail
  go_loopw [5] (fun v5 wr => ∃ (k : Nat), k ≤ R.length ∧ v5 = .int .i64 k ∧ Turns [] w wr) (fun v5 _ => R.length - (RowKit.intOf v5).toNat)
  case atStart => exact ⟨0, Nat.zero_le _, rfl, Turns.refl _ _⟩
  case round =>
    obtain ⟨k, hk, rfl, T⟩ := hrel
    by_cases hlt : k < R.length
    · have g1 : decide ((k : Int) < (R.length : Int)) = true := by simp; omega
      obtain ⟨x, hx⟩ : ∃ x, R[k]? = some x := ⟨_, List.getElem?_eq_getElem hlt⟩
      obtain ⟨ad, c', hv, L⟩ := lcells_at hv0.out hx
      obtain ⟨ad2, c2', hv2, L2⟩ := lcells_at hu0.out hx
      rw [List.length_map] at hv hv2
      injection hv with e1 e2 e3
      injection hv2 with e4 e5 e6
      subst e1 e3 e4 e6
      obtain ⟨i0, i1, i2, i3, i4⟩ := L.turns T
      obtain ⟨k0, k1, k2, k3, k4⟩ := L2.turns T
      clear hx L L2 e2 e5 hv0 hu0
      go_wp2_with fail
      go_quiet (fail)
      go_wp2_with fail
      go_roundw
      case rel => exact ⟨k + 1, by omega, by go_num, T.drewN _⟩
      case measure => simp [RowKit.intOf]; omega
    · obtain rfl : k = R.length := by omega
      have g1 : decide ((R.length : Int) < (R.length : Int)) = false := by simp
      go_wp2_with fail
      go_ret
      exact ⟨rfl, T⟩
def drl (l : List Lea) (g : Int) : List Lea := l.filter (stays g)
/-- step: what is told, and the leases behind it -/
def stepR (l : List Lea) (a : Act) : Int × Bool × List Lea :=
  if a.kind.tmod 7 = 0 ∨ a.kind.tmod 7 = 1 then ((putR l a.l).1, true, (putR l a.l).2)
  else if a.kind.tmod 7 = 5 then (closeR l a.l.key a.l.gen, true, delL l a.l.key)
  else if a.kind.tmod 7 = 6 then ((l.length : Int) - ((drl l a.l.gen).length : Int), true, drl l a.l.gen)
  else spendR l a.l.key a.l.amount a.now
def StepOut (w : World) (b m : Nat) (n : Int) (ok : Bool) (l' : List Lea) (e : Ending) (w' : World) : Prop := e = .returned (.tuple #[.int .i64 n, .bool ok]) ∧ IsWallet w' b m l' ∧ Turns [m] w w'
set_option maxHeartbeats 1000000 in
theorem step_is (w : World) (b m : Nat) (l : List Lea) (h : IsWallet w b m l) (a : Act) (hl : l.length ≤ 1000000) (n : Int) (ok : Bool) (l' : List Lea) (hR : stepR l a = (n, ok, l')) :
    Calls Try.prog 62 #[.pointer (some ⟨b, 0, none⟩), a.v] w (StepOut w b m n ok l') := by
  have hX : ∀ w', IsWallet w' b m l' → Turns [m] w w' → StepOut w b m n ok l' (.returned (.tuple #[.int .i64 n, .bool ok])) w' := fun w' h1 h2 => ⟨rfl, h1, h2⟩
  generalize StepOut w b m n ok l' = X at *
  obtain ⟨k, x, now⟩ := a
  have T0 := (Turns.refl [] w).alloc (.cells #[.int .u8 k, .int .i64 x.key, .int .i64 x.gen, .int .i64 x.amount, .int .i64 x.spent, .int .i64 x.until_, .int .i64 now] 111)
  have h1 := h.turns T0 (by simp) (by simp)
  have hXh := Lib.hid (fun w' i t => hX w' i ((T0.mono (by simp)).trans t))
  unfold stepR at hR
  dsimp only at hR
  unfold Act.v
  clear hX T0 h
  by_cases c0 : k.tmod 7 = 0 ∨ k.tmod 7 = 1
  · rw [if_pos c0] at hR
    simp only [Prod.mk.injEq] at hR
    obtain ⟨r1, rfl, r2⟩ := hR
    have P := put_any x _ b m l h1 n l' (by rw [← r1, ← r2])
    unfold Lea.v at P
    have Ph := Lib.hid P
    clear P r1 r2 h1
    rcases c0 with c0 | c0
    · go_enter Try.func62, Try.ntmps62
      go_wp2_with fail
      go_at_call 70
      refine Calls.mono (Ph.out) ?_
      rintro e w1 ⟨rfl, h2, t2⟩
      have hX := hXh.out _ h2 t2
      clear h2 t2
      go_wp2_with fail
      exact hX
    · go_enter Try.func62, Try.ntmps62
      go_wp2_with fail
      go_at_call 70
      refine Calls.mono (Ph.out) ?_
      rintro e w1 ⟨rfl, h2, t2⟩
      have hX := hXh.out _ h2 t2
      clear h2 t2
      go_wp2_with fail
      exact hX
  · rw [if_neg c0] at hR
    have d0 : ¬ k.tmod 7 = 0 := fun e => c0 (.inl e)
    have d1 : ¬ k.tmod 7 = 1 := fun e => c0 (.inr e)
    clear c0
    by_cases c5 : k.tmod 7 = 5
    · rw [if_pos c5] at hR
      simp only [Prod.mk.injEq] at hR
      obtain ⟨r1, rfl, rfl⟩ := hR
      have P := close_any x.key x.gen _ b m l h1 n r1
      have Ph := Lib.hid P
      clear P r1 h1 d0 d1
      go_enter Try.func62, Try.ntmps62
      go_wp2_with fail
      go_at_call 72
      refine Calls.mono (Ph.out) ?_
      rintro e w1 ⟨rfl, h2, t2⟩
      have hX := hXh.out _ h2 t2
      clear h2 t2
      go_wp2_with fail
      exact hX
    · rw [if_neg c5] at hR
      by_cases c6 : k.tmod 7 = 6
      · rw [if_pos c6] at hR
        simp only [Prod.mk.injEq] at hR
        obtain ⟨r1, rfl, rfl⟩ := hR
        have P := La.drop_is _ b m l h1 x.gen hl
        change Calls _ _ _ _ (fun e w' => e = .returned (.int .i64 ((l.length : Int) - ((drl l x.gen).length : Int))) ∧ IsWallet w' b m (drl l x.gen) ∧ Turns [m] _ w') at P
        rw [r1] at P
        have Ph := Lib.hid P
        clear P r1 h1 d0 d1 c5
        go_enter Try.func62, Try.ntmps62
        go_wp2_with fail
        go_at_call 71
        refine Calls.mono (Ph.out) ?_
        rintro e w1 ⟨rfl, h2, t2⟩
        have hX := hXh.out _ h2 t2
        clear h2 t2
        go_wp2_with fail
        exact hX
      · rw [if_neg c6] at hR
        have P := spend_any x.key x.amount now _ b m l h1 n ok l' hR
        have Ph := Lib.hid P
        have q0 : (k.tmod 7 == 0) = false := by simpa using d0
        have q1 : (k.tmod 7 == 1) = false := by simpa using d1
        have q5 : (k.tmod 7 == 5) = false := by simpa using c5
        have q6 : (k.tmod 7 == 6) = false := by simpa using c6
        clear P hR h1 d0 d1 c5 c6
        go_enter Try.func62, Try.ntmps62
        go_wp2_with fail
        go_at_call 69
        refine Calls.mono (Ph.out) ?_
        rintro e w1 ⟨rfl, h2, t2⟩
        have hX := hXh.out _ h2 t2
        clear h2 t2
        go_wp2_with fail
        exact hX
end Go.Proofs.Ytcmaloncfdmpnaa.Lj
