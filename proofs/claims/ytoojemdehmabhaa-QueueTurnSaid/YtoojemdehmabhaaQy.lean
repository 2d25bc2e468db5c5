/- annonalaw12's step; the contracts of Put and Take, whatever comes. -/
import Derived.Test.YtoojemdehmabhaaQx
set_option linter.unusedVariables false
set_option linter.unusedSimpArgs false
set_option maxRecDepth 100000
namespace Go.Proofs.Ytoojemdehmabhaa.Qy
open Go.RowKit Go.MapKept Go.Shelf Hm Hs Hf Hg Hx Hy Hv Qa Qb Qe Qf Qg Qh Qi Qj Qk Qm Qq Qr Qt Qv Qw Qx
/-- Take: what is told, what stays -/
def takeQ (l : List It) (id : Int) : It × Bool × List It := if posQ l id < 0 then (It.zero, false, l) else (l.getD (posQ l id).toNat It.zero, true, l.eraseIdx (posQ l id).toNat)
/-- Put: what is told, what is left -/
def putQ (room : Int) (l : List It) (x : It) : Int × List It :=
  if badQ x = true then (1, l) else if posQ l x.id ≥ 0 then (5, l) else if (l.length : Int) ≥ room then (3, l) else (0, l ++ [x])
theorem take_any (w : World) (b : Nat) (room : Int) (iv : Value) (l : List It) (id : Int) (h : Got (qm b room iv l) w) (hn : l.length ≤ 100000) (y : It) (ok : Bool) (l' : List It) (hq : takeQ l id = (y, ok, l')) : Calls Try.prog 14 #[.pointer (some ⟨b, 0, none⟩), .int .i64 id] w fun e w' => e = .returned (.tuple #[y.v, .bool ok]) ∧ ∃ iv', Sep (fps (qm b room iv l)) w (qm b room iv' l') w' := by
  unfold takeQ at hq
  rcases pos_is l id with ⟨h1, _⟩ | ⟨i, x, h1, h2, h3, h4⟩
  · rw [h1, if_pos (by omega)] at hq
    simp only [Prod.mk.injEq] at hq
    obtain ⟨rfl, rfl, rfl⟩ := hq
    refine (take_none w b room iv l id h hn h1).mono ?_
    rintro e w' ⟨rfl, t⟩
    exact ⟨rfl, iv, h.sep.turns t⟩
  · rw [h4, if_neg (by omega)] at hq
    simp only [Prod.mk.injEq, Int.toNat_natCast] at hq
    obtain ⟨rfl, rfl, rfl⟩ := hq
    rw [List.getD_eq_getElem?_getD, h1]
    exact take_some w b room iv l id i x h hn h4 h1
theorem rtake_any (w : World) (d : Nat) (room : Int) (lv : Value) (l : List It) (id : Int) (h : Got (rq d room lv l) w) (hn : l.length ≤ 100000) (y : It) (ok : Bool) (l' : List It) (hq : takeQ l id = (y, ok, l')) : Calls Try.prog 53 #[.pointer (some ⟨d, 0, none⟩), .int .i64 id] w fun e w' => e = .returned (.tuple #[y.v, .bool ok]) ∧ ∃ lv', Sep (fps (rq d room lv l)) w (rq d room lv' l') w' := by
  unfold takeQ at hq
  rcases pos_is l id with ⟨h1, _⟩ | ⟨i, x, h1, h2, h3, h4⟩
  · rw [h1, if_pos (by omega)] at hq
    simp only [Prod.mk.injEq] at hq
    obtain ⟨rfl, rfl, rfl⟩ := hq
    refine (rtake_none w d room lv l id h hn h1).mono ?_
    rintro e w' ⟨rfl, t⟩
    exact ⟨rfl, lv, h.sep.turns t⟩
  · rw [h4, if_neg (by omega)] at hq
    simp only [Prod.mk.injEq, Int.toNat_natCast] at hq
    obtain ⟨rfl, rfl, rfl⟩ := hq
    rw [List.getD_eq_getElem?_getD, h1]
    exact rtake_some w d room lv l id i x h hn h4 h1
theorem put_any (w : World) (x : It) (b : Nat) (room : Int) (iv : Value) (l : List It) (h : Got (qm b room iv l) w) (hn : l.length ≤ 100000) (n : Int) (l' : List It) (hq : putQ room l x = (n, l')) : Calls Try.prog 46 #[.pointer (some ⟨b, 0, none⟩), x.v] w fun e w' => e = .returned (.int .i64 n) ∧ ∃ iv', Sep (fps (qm b room iv l)) w (qm b room iv' l') w' := by
  unfold putQ at hq
  by_cases hb : badQ x = true
  · rw [if_pos hb] at hq
    simp only [Prod.mk.injEq] at hq
    obtain ⟨rfl, rfl⟩ := hq
    refine (put_bad w x b hb).mono ?_
    rintro e w' ⟨rfl, t⟩
    exact ⟨rfl, iv, h.sep.turns t⟩
  · rw [if_neg hb] at hq
    have hb' : badQ x = false := by simpa using hb
    by_cases hp : posQ l x.id ≥ 0
    · rw [if_pos hp] at hq
      simp only [Prod.mk.injEq] at hq
      obtain ⟨rfl, rfl⟩ := hq
      refine (put_twice w x b room iv l h hn hb' hp).mono ?_
      rintro e w' ⟨rfl, t⟩
      exact ⟨rfl, iv, h.sep.turns t⟩
    · rw [if_neg hp] at hq
      by_cases hr : (l.length : Int) ≥ room
      · rw [if_pos hr] at hq
        simp only [Prod.mk.injEq] at hq
        obtain ⟨rfl, rfl⟩ := hq
        refine (put_full w x b room iv l h hn hb' hp hr).mono ?_
        rintro e w' ⟨rfl, t⟩
        exact ⟨rfl, iv, h.sep.turns t⟩
      · rw [if_neg hr] at hq
        simp only [Prod.mk.injEq] at hq
        obtain ⟨rfl, rfl⟩ := hq
        exact put_good w x b room iv l h hn hb' hp hr
theorem rput_any (w : World) (x : It) (d : Nat) (room : Int) (lv : Value) (l : List It) (h : Got (rq d room lv l) w) (hn : l.length ≤ 100000) (n : Int) (l' : List It) (hq : putQ room l x = (n, l')) : Calls Try.prog 55 #[.pointer (some ⟨d, 0, none⟩), x.v] w fun e w' => e = .returned (.int .i64 n) ∧ ∃ lv', Sep (fps (rq d room lv l)) w (rq d room lv' l') w' := by
  unfold putQ at hq
  by_cases hb : badQ x = true
  · rw [if_pos hb] at hq
    simp only [Prod.mk.injEq] at hq
    obtain ⟨rfl, rfl⟩ := hq
    refine (rput_bad w x d hb).mono ?_
    rintro e w' ⟨rfl, t⟩
    exact ⟨rfl, lv, h.sep.turns t⟩
  · rw [if_neg hb] at hq
    have hb' : badQ x = false := by simpa using hb
    by_cases hp : posQ l x.id ≥ 0
    · rw [if_pos hp] at hq
      simp only [Prod.mk.injEq] at hq
      obtain ⟨rfl, rfl⟩ := hq
      refine (rput_twice w x d room lv l h hn hb' hp).mono ?_
      rintro e w' ⟨rfl, t⟩
      exact ⟨rfl, lv, h.sep.turns t⟩
    · rw [if_neg hp] at hq
      by_cases hr : (l.length : Int) ≥ room
      · rw [if_pos hr] at hq
        simp only [Prod.mk.injEq] at hq
        obtain ⟨rfl, rfl⟩ := hq
        refine (rput_full w x d room lv l h hn hb' hp hr).mono ?_
        rintro e w' ⟨rfl, t⟩
        exact ⟨rfl, lv, h.sep.turns t⟩
      · rw [if_neg hr] at hq
        simp only [Prod.mk.injEq] at hq
        obtain ⟨rfl, rfl⟩ := hq
        exact rput_good w x d room lv l h hn hb' hp hr
structure Act where
  kind : Int
  x : It
def Act.v (a : Act) : Value := .agg #[.int .u8 a.kind, .int .i64 a.x.id, .int .i64 a.x.key, .int .i64 a.x.cost, .int .i64 a.x.cls, .int .i64 a.x.until_]
def Act.cells (a : Act) : List Value := [.int .u8 a.kind, .int .i64 a.x.id, .int .i64 a.x.key, .int .i64 a.x.cost, .int .i64 a.x.cls, .int .i64 a.x.until_]
/-- an act's items -/
def stepQ (room : Int) (l : List It) (a : Act) : List It :=
  if a.kind.tmod 6 = 4 then (takeQ l a.x.id).2.2 else if a.kind.tmod 6 = 5 then stay l a.x.until_ else (putQ room l a.x).2
abbrev both (b d : Nat) (room : Int) (iv lv : Value) (l : List It) : List Th := qm b room iv l ++ rq d room lv l
set_option maxHeartbeats 4000000 in
theorem step_is (w : World) (b d : Nat) (room : Int) (iv lv : Value) (l : List It) (a : Act) (h : Got (both b d room iv lv l) w) (hn : l.length ≤ 1000) : Calls Try.prog 11 #[.pointer (some ⟨b, 0, none⟩), .pointer (some ⟨d, 0, none⟩), a.v] w
    fun e w' => e = .returned (.bool true) ∧ ∃ iv' lv', Sep (fps (both b d room iv lv l)) w (both b d room iv' lv' (stepQ room l a)) w' := by
  obtain ⟨l', hl'⟩ : ∃ l', stepQ room l a = l' := ⟨_, rfl⟩
  rw [hl']
  have H := h.sep
  generalize hFF : fps (both b d room iv lv l) = FF at H ⊢
  obtain ⟨X, hX⟩ : ∃ X : Ending → World → Prop, X = fun e w' => e = .returned (.bool true) ∧ ∃ iv' lv', Sep FF w (both b d room iv' lv' l') w' := ⟨_, rfl⟩
  rw [← hX]
  have hXh : Hid (∀ w' iv' lv', Sep FF w (both b d room iv' lv' l') w' → X (.returned (.bool true)) w') := Lib.hid (fun w' iv' lv' h => by rw [hX]; exact ⟨rfl, iv', lv', h⟩)
  clear hX hFF h
  obtain ⟨k, x⟩ := a
  unfold Act.v
  unfold stepQ at hl'
  dsimp only at hl' ⊢
  replace H := H.alloc #[.int .u8 k, .int .i64 x.id, .int .i64 x.key, .int .i64 x.cost, .int .i64 x.cls, .int .i64 x.until_] 36
  by_cases k4 : k.tmod 6 = 4
  · rw [if_pos k4] at hl'
    obtain ⟨y, ok, l2, hq⟩ : ∃ y ok l2, takeQ l x.id = (y, ok, l2) := ⟨_, _, _, rfl⟩
    rw [hq] at hl'
    dsimp only at hl'
    subst hl'
    have T1 := Lib.hid (take_any _ b room iv l x.id (H.got [1, 2]) (by omega) y ok l2 hq)
    have T2 := Lib.hid (fun w lv h => rtake_any w d room lv l x.id h (by omega) y ok l2 hq)
    unfold It.v at T1 T2
    have hHh := Lib.hid H
    clear H hq
    go_enter Try.func11, Try.ntmps11
    go_wp2_with fail
    go_at_call 14
    refine Calls.mono (T1.out) ?_
    rintro e w2 ⟨rfl, iv2, h2⟩
    have H := hHh.out.call [1, 2] h2
    have a1 : World.cell? (w2) ⟨w.heap.size, 1, none⟩ = some _ := (H.blk 2 rfl).cell 1
    replace H := H.alloc #[.int .i64 y.id, .int .i64 y.key, .int .i64 y.cost, .int .i64 y.cls, .int .i64 y.until_] 34
    have a1b : (w2.alloc (.cells #[.int .i64 y.id, .int .i64 y.key, .int .i64 y.cost, .int .i64 y.cls, .int .i64 y.until_] 34)).cell? ⟨w.heap.size, 1, none⟩ = some _ := (H.blk 3 rfl).cell 1
    have T3 := Lib.hid (T2.out _ _ (H.got [4, 5]))
    have hH2 := Lib.hid H
    clear H hHh h2 T1 T2
    go_wp2_with fail
    go_at_call 53
    refine Calls.mono (T3.out) ?_
    rintro e w3 ⟨rfl, lv3, h3⟩
    have H := hH2.out.call [4, 5] h3
    clear h3 hH2 T3 a1b a1
    replace H := (H.alloc #[.int .i64 y.id, .int .i64 y.key, .int .i64 y.cost, .int .i64 y.cls, .int .i64 y.until_] 84).drew
    go_wp2_with fail
    generalize w2.heap.size = xb at *
    generalize w3.heap.size = yb at *
    generalize w3.alloc (.cells #[.int .i64 y.id, .int .i64 y.key, .int .i64 y.cost, .int .i64 y.cls, .int .i64 y.until_] 84) = w4 at *
    go_wp2_with fail
    refine wp_region_flo [(0, true), (1, true), (2, true), (3, true), (4, true), (9, true), (5, false), (6, false), (7, true), (8, true), (10, true), (11, true), (12, true)] (fun W => Turns [] w4.drew W) (by kernel_rfl) rfl (by kernel_rfl) (by intro c d v a w h; cases d <;> first | (simpa [Exit.then, Exit.inBlock, Act.put] using h) | exact h) (Turns.refl _ _) ?_
    generalize w4.drew = w5 at *
    have y0 : World.cell? (w5) ⟨yb, 0, none⟩ = some _ := (H.blk 0 rfl).cell 0
    have y1 : World.cell? (w5) ⟨yb, 1, none⟩ = some _ := (H.blk 0 rfl).cell 1
    have y2 : World.cell? (w5) ⟨yb, 2, none⟩ = some _ := (H.blk 0 rfl).cell 2
    have y3 : World.cell? (w5) ⟨yb, 3, none⟩ = some _ := (H.blk 0 rfl).cell 3
    have y4 : World.cell? (w5) ⟨yb, 4, none⟩ = some _ := (H.blk 0 rfl).cell 4
    have x0 : World.cell? (w5) ⟨xb, 0, none⟩ = some _ := (H.blk 3 rfl).cell 0
    have x1 : World.cell? (w5) ⟨xb, 1, none⟩ = some _ := (H.blk 3 rfl).cell 1
    have x2 : World.cell? (w5) ⟨xb, 2, none⟩ = some _ := (H.blk 3 rfl).cell 2
    have x3 : World.cell? (w5) ⟨xb, 3, none⟩ = some _ := (H.blk 3 rfl).cell 3
    have x4 : World.cell? (w5) ⟨xb, 4, none⟩ = some _ := (H.blk 3 rfl).cell 4
    have hX := Lib.hid (fun w6 t => hXh.out w6 iv2 lv3 ((H.turns t).keep [4, 5, 1, 2]))
    have Oh := Lib.hid (fun W v h => lof_is W v [y] h (by simp))
    have hs2 := Lib.hid (oneIt (H.alloc #[.int .i64 y.id, .int .i64 y.key, .int .i64 y.cost, .int .i64 y.cls, .int .i64 y.until_] 34 |>.blk 0 rfl))
    clear H
    refine flo_read _ rfl (fun K hK => ?_)
    go_simp
    first | (refine hK _ ?_) | (refine ⟨fun W hS => ?_, hK _ ?_⟩; · (have Y0 := hS.old y0; have Y1 := hS.old y1; have Y2 := hS.old y2; have Y3 := hS.old y3; have Y4 := hS.old y4; have X0 := hS.old x0; have X1 := hS.old x1; have X2 := hS.old x2; have X3 := hS.old x3; have X4 := hS.old x4; try go_simp))
    clear hK K
    refine flo_read _ rfl (fun K hK => ?_)
    go_simp
    first | (refine hK _ ?_) | (refine ⟨fun W hS => ?_, hK _ ?_⟩; · (have Y0 := hS.old y0; have Y1 := hS.old y1; have Y2 := hS.old y2; have Y3 := hS.old y3; have Y4 := hS.old y4; have X0 := hS.old x0; have X1 := hS.old x1; have X2 := hS.old x2; have X3 := hS.old x3; have X4 := hS.old x4; try go_simp))
    clear hK K
    refine flo_read _ rfl (fun K hK => ?_)
    go_simp
    first | (refine hK _ ?_) | (refine ⟨fun W hS => ?_, hK _ ?_⟩; · (have Y0 := hS.old y0; have Y1 := hS.old y1; have Y2 := hS.old y2; have Y3 := hS.old y3; have Y4 := hS.old y4; have X0 := hS.old x0; have X1 := hS.old x1; have X2 := hS.old x2; have X3 := hS.old x3; have X4 := hS.old x4; try go_simp))
    clear hK K
    refine flo_read _ rfl (fun K hK => ?_)
    go_simp
    first | (refine hK _ ?_) | (refine ⟨fun W hS => ?_, hK _ ?_⟩; · (have Y0 := hS.old y0; have Y1 := hS.old y1; have Y2 := hS.old y2; have Y3 := hS.old y3; have Y4 := hS.old y4; have X0 := hS.old x0; have X1 := hS.old x1; have X2 := hS.old x2; have X3 := hS.old x3; have X4 := hS.old x4; try go_simp))
    clear hK K
    refine flo_read _ rfl (fun K hK => ?_)
    go_simp
    first | (refine hK _ ?_) | (refine ⟨fun W hS => ?_, hK _ ?_⟩; · (have Y0 := hS.old y0; have Y1 := hS.old y1; have Y2 := hS.old y2; have Y3 := hS.old y3; have Y4 := hS.old y4; have X0 := hS.old x0; have X1 := hS.old x1; have X2 := hS.old x2; have X3 := hS.old x3; have X4 := hS.old x4; try go_simp))
    clear hK K
    refine flo_read _ rfl (fun K hK => ?_)
    go_simp
    first | (refine hK _ ?_) | (refine ⟨fun W hS => ?_, hK _ ?_⟩; · (have Y0 := hS.old y0; have Y1 := hS.old y1; have Y2 := hS.old y2; have Y3 := hS.old y3; have Y4 := hS.old y4; have X0 := hS.old x0; have X1 := hS.old x1; have X2 := hS.old x2; have X3 := hS.old x3; have X4 := hS.old x4; try go_simp))
    clear hK K
    refine flo_alone _ rfl ?_
    go_wp2_with fail
    have t6 := (Turns.refl [] w5).alloc (.cells #[.int .i64 y.id, .int .i64 y.key, .int .i64 y.cost, .int .i64 y.cls, .int .i64 y.until_] 34)
    refine ⟨fun W => Turns [] (w5.alloc (.cells #[.int .i64 y.id, .int .i64 y.key, .int .i64 y.cost, .int .i64 y.cls, .int .i64 y.until_] 34)) W, fun W h => t6.trans h, Turns.refl _ _, ?_⟩
    clear y0 y1 y2 y3 y4 x0 x1 x2 x3 x4
    generalize w5.alloc (.cells #[.int .i64 y.id, .int .i64 y.key, .int .i64 y.cost, .int .i64 y.cls, .int .i64 y.until_] 34) = w6 at *
    refine flo_alone _ rfl ?_
    go_wp2_with fail
    go_at_call 39
    refine Calls.mono (Oh.out _ _ hs2.out) ?_
    rintro e w7 ⟨u, rfl, o, t7, _⟩
    go_wp2_with fail
    refine ⟨fun W => Turns [] w7 W, fun W h => t7.trans h, Turns.refl _ _, ?_⟩
    obtain ⟨ad, c, rfl, LX⟩ := icells_at (j := 0) (x := y) o.reads rfl
    obtain ⟨x0, x1, x2, x3, x4⟩ := LX
    simp only [Nat.zero_mul, Addr.add, if_true] at x0 x1 x2 x3 x4
    refine flo_read _ rfl (fun K hK => ?_)
    go_simp
    first | (refine hK _ ?_) | (refine ⟨fun W hS => ?_, hK _ ?_⟩; · (have X0 := hS.old x0; have X1 := hS.old x1; have X2 := hS.old x2; have X3 := hS.old x3; have X4 := hS.old x4; try go_simp))
    clear hK K
    refine flo_read _ rfl (fun K hK => ?_)
    go_simp
    first | (refine hK _ ?_) | (refine ⟨fun W hS => ?_, hK _ ?_⟩; · (have X0 := hS.old x0; have X1 := hS.old x1; have X2 := hS.old x2; have X3 := hS.old x3; have X4 := hS.old x4; try go_simp))
    clear hK K
    refine flo_read _ rfl (fun K hK => ?_)
    go_simp
    first | (refine hK _ ?_) | (refine ⟨fun W hS => ?_, hK _ ?_⟩; · (have X0 := hS.old x0; have X1 := hS.old x1; have X2 := hS.old x2; have X3 := hS.old x3; have X4 := hS.old x4; try go_simp))
    clear hK K
    refine flo_read _ rfl (fun K hK => ?_)
    go_simp
    first | (refine hK _ ?_) | (refine ⟨fun W hS => ?_, hK _ ?_⟩; · (have X0 := hS.old x0; have X1 := hS.old x1; have X2 := hS.old x2; have X3 := hS.old x3; have X4 := hS.old x4; try go_simp))
    clear hK K
    refine flo_read _ rfl (fun K hK => ?_)
    go_simp
    first | (refine hK _ ?_) | (refine ⟨fun W hS => ?_, hK _ ?_⟩; · (have X0 := hS.old x0; have X1 := hS.old x1; have X2 := hS.old x2; have X3 := hS.old x3; have X4 := hS.old x4; try go_simp))
    clear hK K
    refine flo_end ?_
    have hX2 := hX.out _ (t6.trans t7)
    go_wp2_with fail
    exact hX2
  · rw [if_neg k4] at hl'
    have g4 : (k.tmod 6 == 4) = false := by simpa using k4
    by_cases k5 : k.tmod 6 = 5
    · rw [if_pos k5] at hl'
      subst hl'
      have E1 := Lib.hid (Qg.expire_is _ b room iv l x.until_ (H.got [1, 2]) (by omega))
      have E2 := Lib.hid (fun w lv h => Qi.expire_is w d room lv l x.until_ h (by omega))
      have O1 := Lib.hid (fun W v h => lof_is W v (gone l x.until_) h (Nat.le_trans (List.length_filter_le _ _) (by omega)))
      have S1 := Lib.hid (fun W v u h1 h2 => Qr.same_is W v u (gone l x.until_) h1 h2)
      have hHh := Lib.hid H
      clear H k4
      go_enter Try.func11, Try.ntmps11
      go_wp2_with fail
      go_at_call 47
      refine Calls.mono (E1.out) ?_
      rintro e w2 ⟨u, iv2, rfl, h2⟩
      have H := (hHh.out.call [1, 2] h2).drew
      clear hHh E1 h2
      go_wp2_with fail
      go_wp2_with fail
      refine wp_region_flo2 [(0, true, [6, 7]), (2, true, [1, 7]), (3, true, [1, 6, 7]), (4, true, [1, 6, 7]), (5, true, [1, 7]), (1, false, []), (6, false, []), (7, false, []), (8, true, [])] (fun j W => Blk W w.heap.size #[.int .u8 k, .int .i64 x.id, .int .i64 x.key, .int .i64 x.cost, .int .i64 x.cls, .int .i64 x.until_] 36) (by kernel_rfl) rfl (by kernel_rfl) (by intro c d v a w h; cases d <;> first | (simpa [Exit.then, Exit.inBlock, Act.put] using h) | exact h) ?_
      generalize w2.drew = w3 at *
      generalize w.heap.size = ab at *
      have a5 : World.cell? (w3) ⟨ab, 5, none⟩ = some _ := (H.blk 3 rfl).cell 5
      first
        | (refine flo2_read _ rfl (fun _ => True) trivial (fun _ _ _ _ => trivial) (fun K hK => ?_); go_simp; first | (refine hK _ ?_) | (refine ⟨fun W _ => ?_, hK _ ?_⟩; · (go_simp)) | (refine ⟨fun W => ?_, hK _ ?_⟩; · (go_simp)))
        | (refine flo2_read _ rfl (fun W => W = _) rfl (by simp) (fun K hK => ?_); go_simp; first | (refine hK _ ?_) | (refine ⟨fun W hS => ?_, hK _ ?_⟩; · (subst hS; go_simp)) | (refine ⟨?_, hK _ ?_⟩; · (go_simp)))
      clear hK K
      first
        | (refine flo2_read _ rfl (fun _ => True) trivial (fun _ _ _ _ => trivial) (fun K hK => ?_); go_simp; first | (refine hK _ ?_) | (refine ⟨fun W _ => ?_, hK _ ?_⟩; · (go_simp)) | (refine ⟨fun W => ?_, hK _ ?_⟩; · (go_simp)))
        | (refine flo2_read _ rfl (fun W => W = _) rfl (by simp) (fun K hK => ?_); go_simp; first | (refine hK _ ?_) | (refine ⟨fun W hS => ?_, hK _ ?_⟩; · (subst hS; go_simp)) | (refine ⟨?_, hK _ ?_⟩; · (go_simp)))
      clear hK K
      first
        | (refine flo2_read _ rfl (fun _ => True) trivial (fun _ _ _ _ => trivial) (fun K hK => ?_); go_simp; first | (refine hK _ ?_) | (refine ⟨fun W _ => ?_, hK _ ?_⟩; · (go_simp)) | (refine ⟨fun W => ?_, hK _ ?_⟩; · (go_simp)))
        | (refine flo2_read _ rfl (fun W => W = _) rfl (by simp) (fun K hK => ?_); go_simp; first | (refine hK _ ?_) | (refine ⟨fun W hS => ?_, hK _ ?_⟩; · (subst hS; go_simp)) | (refine ⟨?_, hK _ ?_⟩; · (go_simp)))
      clear hK K
      first
        | (refine flo2_read _ rfl (fun _ => True) trivial (fun _ _ _ _ => trivial) (fun K hK => ?_); go_simp; first | (refine hK _ ?_) | (refine ⟨fun W _ => ?_, hK _ ?_⟩; · (go_simp)) | (refine ⟨fun W => ?_, hK _ ?_⟩; · (go_simp)))
        | (refine flo2_read _ rfl (fun W => W = _) rfl (by simp) (fun K hK => ?_); go_simp; first | (refine hK _ ?_) | (refine ⟨fun W hS => ?_, hK _ ?_⟩; · (subst hS; go_simp)) | (refine ⟨?_, hK _ ?_⟩; · (go_simp)))
      clear hK K
      refine flo2_read _ rfl (fun W => Blk W ab #[.int .u8 k, .int .i64 x.id, .int .i64 x.key, .int .i64 x.cost, .int .i64 x.cls, .int .i64 x.until_] 36) (H.blk 3 rfl) (fun j hj W hW => hW) (fun K hK => ?_)
      go_simp
      first | (refine hK _ ?_) | (refine ⟨fun W hS => ?_, hK _ ?_⟩; · (have A5 : W.cell? ⟨ab, 5, none⟩ = some _ := hS.cell 5; try go_simp))
      clear hK K
      refine flo2_alone _ rfl ?_
      go_wp2_with fail
      go_at_call 39
      refine Calls.mono (O1.out _ _ (H.own 2 rfl).reads) ?_
      rintro e w4 ⟨v4, rfl, o4, t4, m4⟩
      go_wp2_with fail
      refine ⟨(H.turns t4).blk 3 rfl, _, fun _ _ h => h, ?_⟩
      replace H := H.newSlice t4 o4 m4
      have E3 := Lib.hid (E2.out _ _ (H.got [5, 6]))
      clear o4 t4 m4 a5
      refine flo2_alone _ rfl ?_
      go_wp2_with fail
      go_at_call 54
      refine Calls.mono (E3.out) ?_
      rintro e w5 ⟨v5, lv5, rfl, h5⟩
      go_wp2_with fail
      refine ⟨(H.call [5, 6] h5).blk 7 rfl, _, fun _ _ h => h, ?_⟩
      replace H := H.call [5, 6] h5
      clear h5 E3
      refine flo2_alone _ rfl ?_
      go_wp2_with fail
      go_at_call 38
      refine Calls.mono (S1.out _ _ _ (H.own 3 rfl).reads (H.own 2 rfl).reads) ?_
      rintro e w6 ⟨rfl, t6⟩
      go_wp2_with fail
      refine ⟨(H.turns t6).blk 7 rfl, _, fun _ _ h => h, ?_⟩
      have hX := hXh.out _ _ _ ((H.turns t6).keep [4, 5, 0, 1])
      clear H t6
      first
        | (refine flo2_read _ rfl (fun _ => True) trivial (fun _ _ _ _ => trivial) (fun K hK => ?_); go_simp; first | (refine hK _ ?_) | (refine ⟨fun W _ => ?_, hK _ ?_⟩; · (go_simp)) | (refine ⟨fun W => ?_, hK _ ?_⟩; · (go_simp)))
        | (refine flo2_read _ rfl (fun W => W = _) rfl (by simp) (fun K hK => ?_); go_simp; first | (refine hK _ ?_) | (refine ⟨fun W hS => ?_, hK _ ?_⟩; · (subst hS; go_simp)) | (refine ⟨?_, hK _ ?_⟩; · (go_simp)))
      clear hK K
      refine flo2_end ?_
      go_wp2_with fail
      exact hX
    · rw [if_neg k5] at hl'
      have g5 : (k.tmod 6 == 5) = false := by simpa using k5
      obtain ⟨n, l2, hq⟩ : ∃ n l2, putQ room l x = (n, l2) := ⟨_, _, rfl⟩
      rw [hq] at hl'
      dsimp only at hl'
      subst hl'
      have P1 := Lib.hid (put_any _ x b room iv l (H.got [1, 2]) (by omega) n l2 hq)
      have P2 := Lib.hid (fun w lv h => rput_any w x d room lv l h (by omega) n l2 hq)
      have O1 := Lib.hid (fun W v h => lof_is W v [x] h (by simp))
      unfold It.v at P1 P2
      have a1 : World.cell? (w.alloc (.cells #[.int .u8 k, .int .i64 x.id, .int .i64 x.key, .int .i64 x.cost, .int .i64 x.cls, .int .i64 x.until_] 36)) ⟨w.heap.size, 1, none⟩ = some _ := (H.blk 0 rfl).cell 1
      have a2 : World.cell? (w.alloc (.cells #[.int .u8 k, .int .i64 x.id, .int .i64 x.key, .int .i64 x.cost, .int .i64 x.cls, .int .i64 x.until_] 36)) ⟨w.heap.size, 2, none⟩ = some _ := (H.blk 0 rfl).cell 2
      have a3 : World.cell? (w.alloc (.cells #[.int .u8 k, .int .i64 x.id, .int .i64 x.key, .int .i64 x.cost, .int .i64 x.cls, .int .i64 x.until_] 36)) ⟨w.heap.size, 3, none⟩ = some _ := (H.blk 0 rfl).cell 3
      have a4 : World.cell? (w.alloc (.cells #[.int .u8 k, .int .i64 x.id, .int .i64 x.key, .int .i64 x.cost, .int .i64 x.cls, .int .i64 x.until_] 36)) ⟨w.heap.size, 4, none⟩ = some _ := (H.blk 0 rfl).cell 4
      have a5 : World.cell? (w.alloc (.cells #[.int .u8 k, .int .i64 x.id, .int .i64 x.key, .int .i64 x.cost, .int .i64 x.cls, .int .i64 x.until_] 36)) ⟨w.heap.size, 5, none⟩ = some _ := (H.blk 0 rfl).cell 5
      have hHh := Lib.hid H
      clear H k4 k5 hq
      go_enter Try.func11, Try.ntmps11
      go_wp2_with fail
      go_at_call 46
      refine Calls.mono (P1.out) ?_
      rintro e w2 ⟨rfl, iv2, h2⟩
      have H := (hHh.out.call [1, 2] h2)
      clear hHh P1 h2 a1 a2 a3 a4 a5
      have a1 : World.cell? (w2) ⟨w.heap.size, 1, none⟩ = some _ := (H.blk 2 rfl).cell 1
      have a2 : World.cell? (w2) ⟨w.heap.size, 2, none⟩ = some _ := (H.blk 2 rfl).cell 2
      have a3 : World.cell? (w2) ⟨w.heap.size, 3, none⟩ = some _ := (H.blk 2 rfl).cell 3
      have a4 : World.cell? (w2) ⟨w.heap.size, 4, none⟩ = some _ := (H.blk 2 rfl).cell 4
      have a5 : World.cell? (w2) ⟨w.heap.size, 5, none⟩ = some _ := (H.blk 2 rfl).cell 5
      replace H := H.alloc #[.int .i64 x.id, .int .i64 x.key, .int .i64 x.cost, .int .i64 x.cls, .int .i64 x.until_] 34
      have O2 := Lib.hid (O1.out _ _ (oneIt (H.blk 0 rfl)))
      have hHh := Lib.hid H
      clear H O1
      go_wp2_with fail
      go_at_call 39
      refine Calls.mono (O2.out) ?_
      rintro e w3 ⟨u, rfl, o, t3, _⟩
      obtain ⟨ad, c, rfl, LX⟩ := icells_at (j := 0) (x := x) o.reads rfl
      obtain ⟨x0, x1, x2, x3, x4⟩ := LX
      simp only [Nat.zero_mul, Addr.add, if_true] at x0 x1 x2 x3 x4
      have H := hHh.out.turns t3
      have P3 := Lib.hid (P2.out _ _ (H.got [4, 5]))
      have hH2 := Lib.hid H
      clear hHh H t3 O2 P2 o a1 a2 a3 a4 a5
      go_wp2_with fail
      go_at_call 55
      refine Calls.mono (P3.out) ?_
      rintro e w4 ⟨rfl, lv4, h4⟩
      have hX := hXh.out _ _ _ ((hH2.out.call [4, 5] h4).keep [3, 4, 0, 1])
      clear h4 hH2 P3
      go_wp2_with fail
      exact hX
end Go.Proofs.Ytoojemdehmabhaa.Qy
