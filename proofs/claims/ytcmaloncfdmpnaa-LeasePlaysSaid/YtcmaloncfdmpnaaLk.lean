/- LeasePlays: want, alive. -/
import Derived.Test.YtcmaloncfdmpnaaLj
set_option linter.unusedVariables false
set_option linter.unusedSimpArgs false
set_option maxRecDepth 100000
namespace Go.Proofs.Ytcmaloncfdmpnaa.Lk
open Go.RowKit Go.MapKept Hm Hs Hf Hg Hk Hx Hy Hv Hl Sm Sat Wa Lw La Lb Ld Le Lf Lg Lh Li Lj
def wantR (R : List Lea) (a : Lj.Act) : Int × Bool × List Lea :=
  if a.kind.tmod 7 = 0 ∨ a.kind.tmod 7 = 1 then ((putD R a.l).1, true, (putD R a.l).2)
  else if a.kind.tmod 7 = 5 then (closeD R a.l.key a.l.gen, true, closeL R a.l.key)
  else if a.kind.tmod 7 = 6 then ((R.length : Int) - ((R.filter (stays a.l.gen)).length : Int), true, R.filter (stays a.l.gen))
  else spendD R a.l.key a.l.amount a.now
theorem oneL {w : World} {b : Nat} {x : Lea} (h : Blk w b #[.int .i64 x.key, .int .i64 x.gen, .int .i64 x.amount, .int .i64 x.spent, .int .i64 x.until_] 109) : RdS 5 w (.slice (some ⟨b, 0, none⟩) 1 1) ([x].map Lea.cells) :=
  RdS.of_cells (rows := [x].map Lea.cells) h rfl (by simp [Lea.cells]) 1 (by simp) (by decide)
set_option maxHeartbeats 2000000 in
theorem want_is (w : World) (d : Nat) (lv : Value) (R : List Lea) (h : Got (rw11 d lv R) w) (a : Lj.Act) (hl : R.length ≤ 100000) (n : Int) (ok : Bool) (R' : List Lea) (hR : wantR R a = (n, ok, R')) :
    Calls Try.prog 63 #[.pointer (some ⟨d, 0, none⟩), a.v] w (DOut w d lv R R' (.tuple #[.int .i64 n, .bool ok])) := by
  have H := h.sep
  generalize hFF : fps (rw11 d lv R) = FF at H
  have hX : ∀ w' lv', Sep FF w (rw11 d lv' R') w' → DOut w d lv R R' (.tuple #[.int .i64 n, .bool ok]) (.returned (.tuple #[.int .i64 n, .bool ok])) w' := fun w' lv' h1 => ⟨rfl, lv', by rw [hFF]; exact h1⟩
  generalize DOut w d lv R R' (.tuple #[.int .i64 n, .bool ok]) = X at *
  obtain ⟨k, x, now⟩ := a
  replace H := H.alloc #[.int .u8 k, .int .i64 x.key, .int .i64 x.gen, .int .i64 x.amount, .int .i64 x.spent, .int .i64 x.until_, .int .i64 now] 111
  have hXh := Lib.hid hX
  unfold wantR at hR
  dsimp only at hR
  unfold Lj.Act.v
  clear hX h hFF
  by_cases c0 : k.tmod 7 = 0 ∨ k.tmod 7 = 1
  · rw [if_pos c0] at hR
    simp only [Prod.mk.injEq] at hR
    obtain ⟨r1, rfl, r2⟩ := hR
    have P := fun w lv h => put_is x w d lv R h hl n R' (by rw [← r1, ← r2])
    unfold Lea.v at P
    have Ph := Lib.hid P
    clear P r1 r2
    replace H := H.alloc #[.int .i64 x.key, .int .i64 x.gen, .int .i64 x.amount, .int .i64 x.spent, .int .i64 x.until_] 109
    rw [World.size_alloc] at H
    have Oh := Lib.hid (of_is _ _ [x] (oneL (H.blk 0 rfl)) (by simp))
    rcases c0 with c0 | c0
    · go_enter Try.func63, Try.ntmps63
      go_wp2_with fail
      go_at_call 65
      refine Calls.mono (Oh.out) ?_
      rintro e w1 ⟨u, rfl, o, t, _⟩
      replace H := H.turns t
      obtain ⟨ad, c, rfl, L⟩ := lcells_at (j := 0) o.reads rfl
      obtain ⟨i0, i1, i2, i3, i4⟩ := L
      have Pc := Lib.hid (Ph.out _ _ (H.got [2, 3]))
      clear Oh Ph t o
      rw [Nat.zero_mul, show ad.add 0 = ad from by unfold Addr.add; simp] at i0 i1 i2 i3 i4
      go_wp2_with fail
      go_at_call 111
      refine Calls.mono (Pc.out) ?_
      rintro e w2 ⟨rfl, lv2, h2⟩
      have hX := hXh.out _ _ ((H.call [2, 3] h2).keep [0, 1])
      clear H h2
      go_wp2_with fail
      exact hX
    · go_enter Try.func63, Try.ntmps63
      go_wp2_with fail
      go_at_call 65
      refine Calls.mono (Oh.out) ?_
      rintro e w1 ⟨u, rfl, o, t, _⟩
      replace H := H.turns t
      obtain ⟨ad, c, rfl, L⟩ := lcells_at (j := 0) o.reads rfl
      obtain ⟨i0, i1, i2, i3, i4⟩ := L
      have Pc := Lib.hid (Ph.out _ _ (H.got [2, 3]))
      clear Oh Ph t o
      rw [Nat.zero_mul, show ad.add 0 = ad from by unfold Addr.add; simp] at i0 i1 i2 i3 i4
      go_wp2_with fail
      go_at_call 111
      refine Calls.mono (Pc.out) ?_
      rintro e w2 ⟨rfl, lv2, h2⟩
      have hX := hXh.out _ _ ((H.call [2, 3] h2).keep [0, 1])
      clear H h2
      go_wp2_with fail
      exact hX
  · rw [if_neg c0] at hR
    have d0 : ¬ k.tmod 7 = 0 := fun e => c0 (.inl e)
    have d1 : ¬ k.tmod 7 = 1 := fun e => c0 (.inr e)
    clear c0
    by_cases c5 : k.tmod 7 = 5
    · rw [if_pos c5] at hR
      simp only [Prod.mk.injEq] at hR
      obtain ⟨r1, rfl, rfl⟩ := hR
      have P := close_is _ d lv R x.key x.gen (H.got [1, 2]) hl
      rw [r1] at P
      have Ph := Lib.hid P
      clear P r1 d0 d1
      go_enter Try.func63, Try.ntmps63
      go_wp2_with fail
      go_at_call 112
      refine Calls.mono (Ph.out) ?_
      rintro e w1 ⟨rfl, lv2, h2⟩
      have hX := hXh.out _ _ ((H.call [1, 2] h2).keep [0, 1])
      clear H h2
      go_wp2_with fail
      exact hX
    · rw [if_neg c5] at hR
      by_cases c6 : k.tmod 7 = 6
      · rw [if_pos c6] at hR
        simp only [Prod.mk.injEq] at hR
        obtain ⟨r1, rfl, rfl⟩ := hR
        have P := Lf.drop_is _ d lv R x.gen (H.got [1, 2]) hl
        rw [r1] at P
        have Ph := Lib.hid P
        clear P r1 d0 d1 c5
        go_enter Try.func63, Try.ntmps63
        go_wp2_with fail
        go_at_call 113
        refine Calls.mono (Ph.out) ?_
        rintro e w1 ⟨rfl, lv2, h2⟩
        have hX := hXh.out _ _ ((H.call [1, 2] h2).keep [0, 1])
        clear H h2
        go_wp2_with fail
        exact hX
      · rw [if_neg c6] at hR
        have P := Lg.spend_is _ d lv R x.key x.amount now (H.got [1, 2]) hl n ok R' hR
        have Ph := Lib.hid P
        have q0 : (k.tmod 7 == 0) = false := by simpa using d0
        have q1 : (k.tmod 7 == 1) = false := by simpa using d1
        have q5 : (k.tmod 7 == 5) = false := by simpa using c5
        have q6 : (k.tmod 7 == 6) = false := by simpa using c6
        clear P hR d0 d1 c5 c6
        go_enter Try.func63, Try.ntmps63
        go_wp2_with fail
        go_at_call 114
        refine Calls.mono (Ph.out) ?_
        rintro e w1 ⟨rfl, lv2, h2⟩
        have hX := hXh.out _ _ ((H.call [1, 2] h2).keep [0, 1])
        clear H h2
        go_wp2_with fail
        exact hX
attribute [local go_sem] Lea.v Lea.zero
theorem alive_any (w : World) : Calls Try.prog 60 #[] w fun e w' => e = .returned (.bool true) ∧ Turns [] w w' := by
  have p0 : putR [] ⟨3, 7, 5, 0, 20⟩ = (0, [⟨3, 7, 5, 0, 20⟩]) := by rfl
  have s1 : spendR [⟨3, 7, 5, 0, 20⟩] 3 4 19 = (7, true, [⟨3, 7, 5, 4, 20⟩]) := by unfold spendR left setL wrap64; rfl
  have s2 : spendR [⟨3, 7, 5, 4, 20⟩] 3 2 19 = (0, false, [⟨3, 7, 5, 4, 20⟩]) := by unfold spendR left setL wrap64; rfl
  have s3 : spendR [⟨3, 7, 5, 4, 20⟩] 3 1 20 = (0, false, [⟨3, 7, 5, 4, 20⟩]) := by unfold spendR left setL wrap64; rfl
  have f4 : Lw.left [⟨3, 7, 5, 4, 20⟩] 3 0 = 1 := by unfold left wrap64; rfl
  have c5 : closeR [⟨3, 7, 5, 4, 20⟩] 3 7 = 4 := by rfl
  have d5 : delL [⟨3, 7, 5, 4, 20⟩] 3 = [] := by rfl
  have c6 : closeR [] 3 7 = -1 := by rfl
  go_enter Try.func60, Try.ntmps60
  go_wp2_with fail
  go_at_call 61
  refine (Lw.new_any _).mono ?_
  rintro e w1 ⟨b, m, rfl, h1, hb, hm, t1⟩
  go_wp2_with fail
  go_at_call 70
  refine (put_any ⟨3, 7, 5, 0, 20⟩ _ b m _ h1 _ _ p0).mono ?_
  rintro e w2 ⟨rfl, h2, t2⟩
  go_wp2_with fail
  go_at_call 69
  refine (Lw.spend_any 3 4 19 _ b m _ h2 _ _ _ s1).mono ?_
  rintro e w3 ⟨rfl, h3, t3⟩
  go_wp2_with fail
  go_at_call 69
  refine (Lw.spend_any 3 2 19 _ b m _ h3 _ _ _ s2).mono ?_
  rintro e w4 ⟨rfl, h4, t4⟩
  go_wp2_with fail
  go_at_call 69
  refine (Lw.spend_any 3 1 20 _ b m _ h4 _ _ _ s3).mono ?_
  rintro e w5 ⟨rfl, h5, t5⟩
  go_wp2_with fail
  go_at_call 67
  refine (Lw.left_is 3 0 _ b m _ h5 _ f4).mono ?_
  rintro e w6 ⟨rfl, h6, t6⟩
  go_wp2_with fail
  go_at_call 72
  refine (Lw.close_any 3 7 _ b m _ h6 _ c5).mono ?_
  rintro e w7 ⟨rfl, h7, t7⟩
  rw [d5] at h7
  go_wp2_with fail
  go_at_call 72
  refine (Lw.close_any 3 7 _ b m _ h7 _ c6).mono ?_
  rintro e w8 ⟨rfl, h8, t8⟩
  go_wp2_with fail
  go_ret
  have t := ((((((t1.mono (fun _ h => by cases h)).trans t2).trans t3).trans t4).trans t5).trans t6).trans t7 |>.trans t8
  exact ⟨rfl, ⟨t.os, t.tape, t.output, t.size, fun k hk _ => t.block k hk (by simp; omega)⟩⟩

end Go.Proofs.Ytcmaloncfdmpnaa.Lk
