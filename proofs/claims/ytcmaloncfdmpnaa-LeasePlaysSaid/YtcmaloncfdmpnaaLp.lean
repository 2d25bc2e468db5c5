/- The law LeasePlays. -/
import Derived.Test.YtcmaloncfdmpnaaLk
import Derived.Test.YtcmaloncfdmpnaaHa
set_option linter.unusedVariables false
set_option linter.unusedSimpArgs false
set_option maxRecDepth 100000
namespace Go.Proofs.Ytcmaloncfdmpnaa.Lp
open Go.RowKit Go.MapKept Go.ChangeShapes Go.WideShapes Hm Hs Hf Hg Hk Hx Hy Hv Hl Ho Hn Ha Sm Sat Wa Lw La Lb Ld Le Lf Lg Lh Li Lj Lk
/-- a wallet -/
def tWal (b m : Nat) (l : List Lea) : Th := ⟨[b, m], fun w => IsWallet w b m l, fun h k hk => by
  rcases List.mem_cons.1 hk with rfl | hk
  · exact h.blk.lt
  · rw [List.mem_singleton.1 hk]; exact h.map.lt, fun h hm => ⟨h.blk.move (hm b (by simp)), h.map.move (hm m (by simp))⟩⟩
theorem spend_nil (w : World) : Calls Try.prog 69 #[.pointer none, .int .i64 1, .int .i64 1, .int .i64 1] w fun e w' => e = .returned (.tuple #[.int .i64 0, .bool false]) ∧ Turns [] w w' := by
  go_enter Try.func69, Try.ntmps69
  go_wp2_with fail
  go_at_call 67
  refine Calls.mono (left_nil 1 1 _) ?_
  rintro e w1 ⟨rfl, t1⟩
  go_wp2_with fail
  go_ret2
  exact ⟨rfl, t1⟩
def okK (x : Int) : Prop := -9223372036854775808 ≤ x ∧ x ≤ 9223372036854775807
theorem both {l R : List Lea} (h : Rel l R) (a : Lj.Act) : ∃ n ok l' R', stepR l a = (n, ok, l') ∧ wantR R a = (n, ok, R') ∧ Rel l' R' ∧ (∀ y ∈ l', (∃ z ∈ l, y.key = z.key) ∨ y.key = a.l.key) ∧ l'.length ≤ l.length + 1 := by
  unfold stepR wantR
  by_cases c0 : a.kind.tmod 7 = 0 ∨ a.kind.tmod 7 = 1
  · rw [if_pos c0, if_pos c0]
    obtain ⟨n, l', R', e1, e2, e3, e4, e5⟩ := h.put a.l
    rw [e1, e2]
    exact ⟨_, _, _, _, rfl, rfl, e3, fun y hy => by rcases e4 y hy with h1 | rfl; exact .inl ⟨y, h1, rfl⟩; exact .inr rfl, e5⟩
  · rw [if_neg c0, if_neg c0]
    by_cases c5 : a.kind.tmod 7 = 5
    · rw [if_pos c5, if_pos c5]
      obtain ⟨e1, e2⟩ := h.close a.l.key a.l.gen
      rw [e1]
      exact ⟨_, _, _, _, rfl, rfl, e2, fun y hy => .inl ⟨y, (List.mem_filter.1 hy).1, rfl⟩, Nat.le_succ_of_le (List.length_filter_le _ _)⟩
    · rw [if_neg c5, if_neg c5]
      by_cases c6 : a.kind.tmod 7 = 6
      · rw [if_pos c6, if_pos c6]
        have e2 := h.filter (stays a.l.gen)
        have e3 := e2.len
        refine ⟨_, _, _, _, rfl, ?_, e2, fun y hy => .inl ⟨y, (List.mem_filter.1 hy).1, rfl⟩, Nat.le_succ_of_le (List.length_filter_le _ _)⟩
        rw [h.len]
        unfold drl
        rw [e3]
      · rw [if_neg c6, if_neg c6]
        obtain ⟨g, ok, l', R', e1, e2, e3, e4, e5⟩ := h.spend a.l.key a.l.amount a.now
        exact ⟨g, ok, l', R', e1, e2, e3, fun y hy => .inl (e4 y hy), by omega⟩
/-- an act's cells -/
structure ACells (w : World) (ad : Addr) (m : Nat) (a : Lj.Act) : Prop where
  c0 : w.cell? (ad.add m) = some (.int .u8 a.kind)
  c1 : w.cell? ⟨(ad.add m).block, (ad.add m).off + 1, none⟩ = some (.int .i64 a.l.key)
  c2 : w.cell? ⟨(ad.add m).block, (ad.add m).off + 2, none⟩ = some (.int .i64 a.l.gen)
  c3 : w.cell? ⟨(ad.add m).block, (ad.add m).off + 3, none⟩ = some (.int .i64 a.l.amount)
  c4 : w.cell? ⟨(ad.add m).block, (ad.add m).off + 4, none⟩ = some (.int .i64 a.l.spent)
  c5 : w.cell? ⟨(ad.add m).block, (ad.add m).off + 5, none⟩ = some (.int .i64 a.l.until_)
  c6 : w.cell? ⟨(ad.add m).block, (ad.add m).off + 6, none⟩ = some (.int .i64 a.now)
theorem ACells.turns {w w' : World} {ad : Addr} {m : Nat} {a : Lj.Act} (h : ACells w ad m a) (t : Turns [] w w') : ACells w' ad m a := ⟨t.old h.c0, t.old h.c1, t.old h.c2, t.old h.c3, t.old h.c4, t.old h.c5, t.old h.c6⟩
theorem acells_of {w : World} {ad : Addr} {m : Nat} {a : Lj.Act} (h : ∀ i u, (Lj.Act.cells a)[i]? = some u → w.cell? (ad.add (m + i)) = some u) : ACells w ad m a := by
  have h0 := h 0 _ rfl
  have h1 := h 1 _ rfl
  have h2 := h 2 _ rfl
  have h3 := h 3 _ rfl
  have h4 := h 4 _ rfl
  have h5 := h 5 _ rfl
  have h6 := h 6 _ rfl
  rw [Nat.add_zero] at h0
  rw [add_field _ _ _ (by omega)] at h1 h2 h3 h4 h5 h6
  exact ⟨h0, h1, h2, h3, h4, h5, h6⟩
set_option maxHeartbeats 4000000 in
theorem plays_is (w : World) (A : Option Addr) (c : Nat) (acts : List Lj.Act) (key now : Int) (hl : FlatRow w A 7 (acts.map Lj.Act.cells)) (hk : ∀ a ∈ acts, okK a.l.key) :
    Calls Try.prog 10 #[.slice A acts.length c, .int .i64 key, .int .i64 now] w fun e w' => e = .returned (.bool true) ∧ Turns [] w w' := by
  have H := Sep.start w
  obtain ⟨X, hX⟩ : ∃ X : Ending → World → Prop, X = fun e w' => e = .returned (.bool true) ∧ Turns [] w w' := ⟨_, rfl⟩
  rw [← hX]
  have hXh : Hid (∀ w', Turns [] w w' → X (.returned (.bool true)) w') := Lib.hid (fun w' h => by rw [hX]; exact ⟨rfl, h⟩)
  clear hX
  have hlh := Lib.hid hl
  have hkh := Lib.hid hk
  clear hl hk
  by_cases hlong : (acts.length : Int) > 80
  · have g1 := decide_eq_true hlong
    clear hlong
    go_enter Try.func10, Try.ntmps10
    go_wp2_with fail
    go_at_call 60
    refine Calls.mono (alive_any _) ?_
    rintro e w1 ⟨rfl, t1⟩
    have hX := hXh.out _ t1
    go_wp2_with fail
    exact hX
  · have g1 : decide ((acts.length : Int) > 80) = false := decide_eq_false hlong
    have hl80 : acts.length ≤ 80 := by omega
    clear hlong
    go_enter Try.func10, Try.ntmps10
    go_wp2_with fail
    go_at_call 61
    refine Calls.mono (Lw.new_any _) ?_
    rintro e w1 ⟨b, m, rfl, h1, hb, hm, t1⟩
    replace H := H.fresh t1 (tWal b m []) h1 (by intro k hk; rcases List.mem_cons.1 hk with rfl | hk; exact hb; rw [List.mem_singleton.1 hk]; exact hm)
    clear h1 hb hm t1
    replace H := ((H.alloc #[.slice none 0 0] 105).nilSlice 162 5).keep [2, 1, 0]
    have hHh := Lib.hid H
    clear H
    go_wp2_with fail
    have H := hHh.out
    clear hHh
    generalize w1.alloc (.cells #[.slice none 0 0] 105) = w2 at *
    generalize w1.heap.size = d at *
    go_loopw [9] (fun v9 wr => ∃ (k : Nat) (l R : List Lea) (lv : Value), k ≤ acts.length ∧ v9 = .int .i64 k ∧ Rel l R ∧ (∀ y ∈ l, okK y.key) ∧ l.length ≤ k ∧ Sep [] w [tWal b m l, tBlk d #[lv] 105, tOwn 162 5 lv (R.map Lea.cells)] wr) (fun v9 _ => acts.length - (RowKit.intOf v9).toNat)
    case atStart => exact ⟨0, [], [], _, by omega, rfl, Rel.nil, by simp, by simp, H⟩
    case round =>
      obtain ⟨k, l, R, lv, hk, rfl, hrl, hok, hln, H1⟩ := hrel
      clear H
      have H := H1
      clear H1
      by_cases hlt : k < acts.length
      · have g2 : decide ((k : Int) < (acts.length : Int)) = true := by simp; omega
        obtain ⟨a, hx⟩ : ∃ a, acts[k]? = some a := ⟨_, List.getElem?_eq_getElem hlt⟩
        obtain ⟨ad, rfl, _, hc⟩ := hlh.out.at_ (j := k) (c := Lj.Act.cells a) (by rw [List.getElem?_map, hx]; rfl)
        have hka := hkh.out a (List.mem_of_getElem? hx)
        have hcW := Lib.hid (acells_of hc)
        obtain ⟨n, ok, l', R', e1, e2, hrl', hky, hlen⟩ := both hrl a
        have hRl := hrl.len
        have hRl' := hrl'.len
        have hok' : ∀ y ∈ l', okK y.key := fun y hy => by
          rcases hky y hy with ⟨z, hz, e⟩ | e
          · rw [e]; exact hok z hz
          · rw [e]; exact hka
        have P1h := Lib.hid (step_is wr b m l (H.at_ 0 rfl) a (by omega) n ok l' e1)
        have P2h := Lib.hid (fun w lv h => want_is w d lv R h a (by omega) n ok R' e2)
        unfold Lj.Act.v at P1h P2h
        have A1h := Lib.hid (fun w h => Lb.all_is w b m l' h hok' (by omega))
        rw [hrl'.sl] at A1h
        have A2h := Lib.hid (fun w v h => Lj.of_is w v R' h (by omega))
        have A3h := Lib.hid (fun w v u hv hu => Lj.same_is w v u R' hv hu)
        have L1h := Lib.hid (fun w k t h => Lw.left_any k t w b m l' h)
        have L2h := Lib.hid (fun w lv k t h => Ld.left_is w d lv R' k t h (by omega))
        have hrlh := Lib.hid hrl'
        have hokh := Lib.hid hok'
        have hlenh := Lib.hid (show l'.length ≤ k + 1 by omega)
        have hleft := Lib.hid (fun k t => hrl'.left k t)
        clear hx hc hka e1 e2 hrl hrl' hky hok hok' hlen hRl hRl'
        obtain ⟨i0, i1, i2, i3, i4, i5, i6⟩ := hcW.out.turns H.t
        go_wp2_with fail
        go_at_call 62
        refine Calls.mono (P1h.out) ?_
        rintro e w3 ⟨rfl, h3, t3⟩
        replace H := H.step 0 (T' := tWal b m l') rfl (t3.mono (by simp [tWal])) h3 (fun k hk => .inl hk)
        clear h3 t3 i0 i1 i2 i3 i4 i5 i6 P1h
        obtain ⟨i0, i1, i2, i3, i4, i5, i6⟩ := hcW.out.turns H.t
        have P2c := Lib.hid (P2h.out w3 lv (H.got [1, 2]))
        clear P2h
        go_wp2_with fail
        go_at_call 63
        refine Calls.mono (P2c.out) ?_
        rintro e w4 ⟨rfl, lv4, h4⟩
        replace H := (H.call [1, 2] h4).keep [2, 0, 1]
        clear h4 P2c i0 i1 i2 i3 i4 i5 i6
        replace H := H.drew
        go_wp2_with fail
        go_wp2_with fail
        refine wp_region_flo [(0, true), (3, true), (4, true), (5, true), (6, true), (1, false), (2, false), (7, false), (8, true)] (fun W => Turns [] w4.drew W) (by kernel_rfl) rfl (by kernel_rfl) (by intro c d v a w h; cases d <;> first | (simpa [Exit.then, Exit.inBlock, Act.put] using h) | exact h) (Turns.refl _ _) ?_
        generalize w4.drew = w5 at *
        have c0 : World.cell? (w5) ⟨d, 0, none⟩ = some _ := (H.blk 1 rfl).cell 0
        refine flo_read _ rfl (fun K hK => ?_)
        go_simp
        first | (refine hK _ ?_) | (refine ⟨fun W hS => ?_, hK _ ?_⟩; · (have x0 := hS.old c0; try go_simp))
        clear hK K
        refine flo_read _ rfl (fun K hK => ?_)
        go_simp
        first | (refine hK _ ?_) | (refine ⟨fun W hS => ?_, hK _ ?_⟩; · (have x0 := hS.old c0; try go_simp))
        clear hK K
        refine flo_read _ rfl (fun K hK => ?_)
        go_simp
        first | (refine hK _ ?_) | (refine ⟨fun W hS => ?_, hK _ ?_⟩; · (have x0 := hS.old c0; try go_simp))
        clear hK K
        refine flo_read _ rfl (fun K hK => ?_)
        go_simp
        first | (refine hK _ ?_) | (refine ⟨fun W hS => ?_, hK _ ?_⟩; · (have x0 := hS.old c0; try go_simp))
        clear hK K
        refine flo_read _ rfl (fun K hK => ?_)
        go_simp
        first | (refine hK _ ?_) | (refine ⟨fun W hS => ?_, hK _ ?_⟩; · (have x0 := hS.old c0; try go_simp))
        clear hK K
        refine flo_alone _ rfl ?_
        go_wp2_with fail
        go_at_call 66
        refine Calls.mono (A1h.out _ (H.at_ 0 rfl)) ?_
        rintro e w6 ⟨v1, rfl, o1, t6, _⟩
        go_wp2_with fail
        refine ⟨fun W => Turns [] w6 W, fun W h => t6.trans h, Turns.refl _ _, ?_⟩
        replace H := H.turns t6
        refine flo_alone _ rfl ?_
        go_wp2_with fail
        go_at_call 65
        refine Calls.mono (A2h.out _ _ o1.reads) ?_
        rintro e w7 ⟨v2, rfl, o2, t7, _⟩
        go_wp2_with fail
        refine ⟨fun W => Turns [] w7 W, fun W h => t7.trans h, Turns.refl _ _, ?_⟩
        replace H := H.turns t7
        refine flo_alone _ rfl ?_
        go_wp2_with fail
        go_at_call 64
        refine Calls.mono (A3h.out _ _ _ o2.reads (H.own 2 rfl).reads) ?_
        rintro e w8 ⟨rfl, t8⟩
        go_wp2_with fail
        refine ⟨fun W => Turns [] w8 W, fun W h => t8.trans h, Turns.refl _ _, ?_⟩
        replace H := H.turns t8
        clear o1 o2 t6 t7 t8 c0 A1h A2h A3h
        refine flo_read _ rfl (fun K hK => ?_)
        go_simp
        first | (refine hK _ ?_) | (refine ⟨fun W hS => ?_, hK _ ?_⟩; · (skip; try go_simp))
        clear hK K
        refine flo_end ?_
        replace H := H.drew
        have e1 := hleft.out key now
        have e2 := hleft.out a.l.key a.now
        have B1 := L1h.out
        have B2 := L2h.out
        obtain ⟨p, hp⟩ : ∃ p, Lw.left R' key now = p := ⟨_, rfl⟩
        obtain ⟨q, hq⟩ : ∃ q, Lw.left R' a.l.key a.now = q := ⟨_, rfl⟩
        have C1 := Lib.hid (fun w h => by have := L1h.out w key now h; rw [e1, hp] at this; exact this)
        have C2 := Lib.hid (fun w lv h => by have := L2h.out w lv key now h; rw [hp] at this; exact this)
        have C3 := Lib.hid (fun w h => by have := L1h.out w a.l.key a.now h; rw [e2, hq] at this; exact this)
        have C4 := Lib.hid (fun w lv h => by have := L2h.out w lv a.l.key a.now h; rw [hq] at this; exact this)
        clear B1 B2 hp hq e1 e2 L1h L2h hleft
        go_wp2_with fail
        go_wp2_with fail
        refine wp_region_flo [(0, true), (1, true), (2, true), (3, true), (4, true), (5, true), (6, true), (7, true), (8, true), (9, true), (10, true), (11, true), (12, true), (13, true), (14, true), (15, true), (17, true), (18, true), (19, true), (16, false), (20, false), (21, true), (22, true), (23, true), (24, true), (25, true), (26, true), (27, true), (28, true), (29, true), (30, true), (31, true), (32, true), (33, true), (34, true), (35, true), (37, true), (38, true), (39, true), (40, true), (41, true), (42, true), (43, true), (44, true), (45, true), (46, true), (47, true), (48, true), (36, false), (49, false), (50, true), (51, true)] (fun W => Turns [] w8.drew W) (by kernel_rfl) rfl (by kernel_rfl) (by intro c d v a w h; cases d <;> first | (simpa [Exit.then, Exit.inBlock, Act.put] using h) | exact h) (Turns.refl _ _) ?_
        generalize w8.drew = w9 at *
        refine flo_read _ rfl (fun K hK => ?_)
        go_simp
        first | (refine hK _ ?_) | (refine ⟨fun W hS => ?_, hK _ ?_⟩; · (skip; try go_simp))
        clear hK K
        refine flo_read _ rfl (fun K hK => ?_)
        go_simp
        first | (refine hK _ ?_) | (refine ⟨fun W hS => ?_, hK _ ?_⟩; · (skip; try go_simp))
        clear hK K
        refine flo_read _ rfl (fun K hK => ?_)
        go_simp
        first | (refine hK _ ?_) | (refine ⟨fun W hS => ?_, hK _ ?_⟩; · (skip; try go_simp))
        clear hK K
        refine flo_read _ rfl (fun K hK => ?_)
        go_simp
        first | (refine hK _ ?_) | (refine ⟨fun W hS => ?_, hK _ ?_⟩; · (skip; try go_simp))
        clear hK K
        refine flo_read _ rfl (fun K hK => ?_)
        go_simp
        first | (refine hK _ ?_) | (refine ⟨fun W hS => ?_, hK _ ?_⟩; · (skip; try go_simp))
        clear hK K
        refine flo_read _ rfl (fun K hK => ?_)
        go_simp
        first | (refine hK _ ?_) | (refine ⟨fun W hS => ?_, hK _ ?_⟩; · (skip; try go_simp))
        clear hK K
        refine flo_read _ rfl (fun K hK => ?_)
        go_simp
        first | (refine hK _ ?_) | (refine ⟨fun W hS => ?_, hK _ ?_⟩; · (skip; try go_simp))
        clear hK K
        refine flo_read _ rfl (fun K hK => ?_)
        go_simp
        first | (refine hK _ ?_) | (refine ⟨fun W hS => ?_, hK _ ?_⟩; · (skip; try go_simp))
        clear hK K
        refine flo_read _ rfl (fun K hK => ?_)
        go_simp
        first | (refine hK _ ?_) | (refine ⟨fun W hS => ?_, hK _ ?_⟩; · (skip; try go_simp))
        clear hK K
        refine flo_read _ rfl (fun K hK => ?_)
        go_simp
        first | (refine hK _ ?_) | (refine ⟨fun W hS => ?_, hK _ ?_⟩; · (skip; try go_simp))
        clear hK K
        refine flo_read _ rfl (fun K hK => ?_)
        go_simp
        first | (refine hK _ ?_) | (refine ⟨fun W hS => ?_, hK _ ?_⟩; · (skip; try go_simp))
        clear hK K
        refine flo_read _ rfl (fun K hK => ?_)
        go_simp
        first | (refine hK _ ?_) | (refine ⟨fun W hS => ?_, hK _ ?_⟩; · (skip; try go_simp))
        clear hK K
        refine flo_read _ rfl (fun K hK => ?_)
        go_simp
        first | (refine hK _ ?_) | (refine ⟨fun W hS => ?_, hK _ ?_⟩; · (skip; try go_simp))
        clear hK K
        refine flo_read _ rfl (fun K hK => ?_)
        go_simp
        first | (refine hK _ ?_) | (refine ⟨fun W hS => ?_, hK _ ?_⟩; · (skip; try go_simp))
        clear hK K
        refine flo_read _ rfl (fun K hK => ?_)
        go_simp
        first | (refine hK _ ?_) | (refine ⟨fun W hS => ?_, hK _ ?_⟩; · (skip; try go_simp))
        clear hK K
        refine flo_read _ rfl (fun K hK => ?_)
        go_simp
        first | (refine hK _ ?_) | (refine ⟨fun W hS => ?_, hK _ ?_⟩; · (skip; try go_simp))
        clear hK K
        refine flo_read _ rfl (fun K hK => ?_)
        go_simp
        first | (refine hK _ ?_) | (refine ⟨fun W hS => ?_, hK _ ?_⟩; · (skip; try go_simp))
        clear hK K
        refine flo_read _ rfl (fun K hK => ?_)
        go_simp
        first | (refine hK _ ?_) | (refine ⟨fun W hS => ?_, hK _ ?_⟩; · (skip; try go_simp))
        clear hK K
        refine flo_read _ rfl (fun K hK => ?_)
        go_simp
        first | (refine hK _ ?_) | (refine ⟨fun W hS => ?_, hK _ ?_⟩; · (skip; try go_simp))
        clear hK K
        refine flo_alone _ rfl ?_
        go_wp2_with fail
        go_at_call 67
        refine Calls.mono (C1.out _ (H.at_ 0 rfl)) ?_
        rintro e wa ⟨rfl, ta⟩
        go_wp2_with fail
        refine ⟨fun W => Turns [] wa W, fun W h => ta.trans h, Turns.refl _ _, ?_⟩
        replace H := H.turns ta
        refine flo_alone _ rfl ?_
        go_wp2_with fail
        go_at_call 68
        refine Calls.mono (C2.out _ _ (H.got [1, 2])) ?_
        rintro e wb ⟨rfl, tb⟩
        go_wp2_with fail
        refine ⟨fun W => Turns [] wb W, fun W h => tb.trans h, Turns.refl _ _, ?_⟩
        replace H := H.turns tb
        clear ta tb C1 C2
        obtain ⟨i0, i1, i2, i3, i4, i5, i6⟩ := hcW.out.turns H.t
        clear i0 i2 i3 i4 i5
        refine flo_read _ rfl (fun K hK => ?_)
        go_simp
        first | (refine hK _ ?_) | (refine ⟨fun W hS => ?_, hK _ ?_⟩; · (have x1 := hS.old i1; have x6 := hS.old i6; try go_simp))
        clear hK K
        refine flo_read _ rfl (fun K hK => ?_)
        go_simp
        first | (refine hK _ ?_) | (refine ⟨fun W hS => ?_, hK _ ?_⟩; · (have x1 := hS.old i1; have x6 := hS.old i6; try go_simp))
        clear hK K
        refine flo_read _ rfl (fun K hK => ?_)
        go_simp
        first | (refine hK _ ?_) | (refine ⟨fun W hS => ?_, hK _ ?_⟩; · (have x1 := hS.old i1; have x6 := hS.old i6; try go_simp))
        clear hK K
        refine flo_read _ rfl (fun K hK => ?_)
        go_simp
        first | (refine hK _ ?_) | (refine ⟨fun W hS => ?_, hK _ ?_⟩; · (have x1 := hS.old i1; have x6 := hS.old i6; try go_simp))
        clear hK K
        refine flo_read _ rfl (fun K hK => ?_)
        go_simp
        first | (refine hK _ ?_) | (refine ⟨fun W hS => ?_, hK _ ?_⟩; · (have x1 := hS.old i1; have x6 := hS.old i6; try go_simp))
        clear hK K
        refine flo_read _ rfl (fun K hK => ?_)
        go_simp
        first | (refine hK _ ?_) | (refine ⟨fun W hS => ?_, hK _ ?_⟩; · (have x1 := hS.old i1; have x6 := hS.old i6; try go_simp))
        clear hK K
        refine flo_read _ rfl (fun K hK => ?_)
        go_simp
        first | (refine hK _ ?_) | (refine ⟨fun W hS => ?_, hK _ ?_⟩; · (have x1 := hS.old i1; have x6 := hS.old i6; try go_simp))
        clear hK K
        refine flo_read _ rfl (fun K hK => ?_)
        go_simp
        first | (refine hK _ ?_) | (refine ⟨fun W hS => ?_, hK _ ?_⟩; · (have x1 := hS.old i1; have x6 := hS.old i6; try go_simp))
        clear hK K
        refine flo_read _ rfl (fun K hK => ?_)
        go_simp
        first | (refine hK _ ?_) | (refine ⟨fun W hS => ?_, hK _ ?_⟩; · (have x1 := hS.old i1; have x6 := hS.old i6; try go_simp))
        clear hK K
        refine flo_read _ rfl (fun K hK => ?_)
        go_simp
        first | (refine hK _ ?_) | (refine ⟨fun W hS => ?_, hK _ ?_⟩; · (have x1 := hS.old i1; have x6 := hS.old i6; try go_simp))
        clear hK K
        refine flo_read _ rfl (fun K hK => ?_)
        go_simp
        first | (refine hK _ ?_) | (refine ⟨fun W hS => ?_, hK _ ?_⟩; · (have x1 := hS.old i1; have x6 := hS.old i6; try go_simp))
        clear hK K
        refine flo_read _ rfl (fun K hK => ?_)
        go_simp
        first | (refine hK _ ?_) | (refine ⟨fun W hS => ?_, hK _ ?_⟩; · (have x1 := hS.old i1; have x6 := hS.old i6; try go_simp))
        clear hK K
        refine flo_read _ rfl (fun K hK => ?_)
        go_simp
        first | (refine hK _ ?_) | (refine ⟨fun W hS => ?_, hK _ ?_⟩; · (have x1 := hS.old i1; have x6 := hS.old i6; try go_simp))
        clear hK K
        refine flo_read _ rfl (fun K hK => ?_)
        go_simp
        first | (refine hK _ ?_) | (refine ⟨fun W hS => ?_, hK _ ?_⟩; · (have x1 := hS.old i1; have x6 := hS.old i6; try go_simp))
        clear hK K
        refine flo_read _ rfl (fun K hK => ?_)
        go_simp
        first | (refine hK _ ?_) | (refine ⟨fun W hS => ?_, hK _ ?_⟩; · (have x1 := hS.old i1; have x6 := hS.old i6; try go_simp))
        clear hK K
        refine flo_read _ rfl (fun K hK => ?_)
        go_simp
        first | (refine hK _ ?_) | (refine ⟨fun W hS => ?_, hK _ ?_⟩; · (have x1 := hS.old i1; have x6 := hS.old i6; try go_simp))
        clear hK K
        refine flo_read _ rfl (fun K hK => ?_)
        go_simp
        first | (refine hK _ ?_) | (refine ⟨fun W hS => ?_, hK _ ?_⟩; · (have x1 := hS.old i1; have x6 := hS.old i6; try go_simp))
        clear hK K
        refine flo_read _ rfl (fun K hK => ?_)
        go_simp
        first | (refine hK _ ?_) | (refine ⟨fun W hS => ?_, hK _ ?_⟩; · (have x1 := hS.old i1; have x6 := hS.old i6; try go_simp))
        clear hK K
        refine flo_read _ rfl (fun K hK => ?_)
        go_simp
        first | (refine hK _ ?_) | (refine ⟨fun W hS => ?_, hK _ ?_⟩; · (have x1 := hS.old i1; have x6 := hS.old i6; try go_simp))
        clear hK K
        refine flo_read _ rfl (fun K hK => ?_)
        go_simp
        first | (refine hK _ ?_) | (refine ⟨fun W hS => ?_, hK _ ?_⟩; · (have x1 := hS.old i1; have x6 := hS.old i6; try go_simp))
        clear hK K
        refine flo_read _ rfl (fun K hK => ?_)
        go_simp
        first | (refine hK _ ?_) | (refine ⟨fun W hS => ?_, hK _ ?_⟩; · (have x1 := hS.old i1; have x6 := hS.old i6; try go_simp))
        clear hK K
        refine flo_read _ rfl (fun K hK => ?_)
        go_simp
        first | (refine hK _ ?_) | (refine ⟨fun W hS => ?_, hK _ ?_⟩; · (have x1 := hS.old i1; have x6 := hS.old i6; try go_simp))
        clear hK K
        refine flo_read _ rfl (fun K hK => ?_)
        go_simp
        first | (refine hK _ ?_) | (refine ⟨fun W hS => ?_, hK _ ?_⟩; · (have x1 := hS.old i1; have x6 := hS.old i6; try go_simp))
        clear hK K
        refine flo_read _ rfl (fun K hK => ?_)
        go_simp
        first | (refine hK _ ?_) | (refine ⟨fun W hS => ?_, hK _ ?_⟩; · (have x1 := hS.old i1; have x6 := hS.old i6; try go_simp))
        clear hK K
        refine flo_read _ rfl (fun K hK => ?_)
        go_simp
        first | (refine hK _ ?_) | (refine ⟨fun W hS => ?_, hK _ ?_⟩; · (have x1 := hS.old i1; have x6 := hS.old i6; try go_simp))
        clear hK K
        refine flo_read _ rfl (fun K hK => ?_)
        go_simp
        first | (refine hK _ ?_) | (refine ⟨fun W hS => ?_, hK _ ?_⟩; · (have x1 := hS.old i1; have x6 := hS.old i6; try go_simp))
        clear hK K
        refine flo_read _ rfl (fun K hK => ?_)
        go_simp
        first | (refine hK _ ?_) | (refine ⟨fun W hS => ?_, hK _ ?_⟩; · (have x1 := hS.old i1; have x6 := hS.old i6; try go_simp))
        clear hK K
        refine flo_alone _ rfl ?_
        go_wp2_with fail
        go_at_call 67
        refine Calls.mono (C3.out _ (H.at_ 0 rfl)) ?_
        rintro e wc ⟨rfl, tc⟩
        go_wp2_with fail
        refine ⟨fun W => Turns [] wc W, fun W h => tc.trans h, Turns.refl _ _, ?_⟩
        replace H := H.turns tc
        refine flo_alone _ rfl ?_
        go_wp2_with fail
        go_at_call 68
        refine Calls.mono (C4.out _ _ (H.got [1, 2])) ?_
        rintro e we ⟨rfl, te⟩
        go_wp2_with fail
        refine ⟨fun W => Turns [] we W, fun W h => te.trans h, Turns.refl _ _, ?_⟩
        replace H := H.turns te
        clear tc te C3 C4 i1 i6
        refine flo_read _ rfl (fun K hK => ?_)
        go_simp
        first | (refine hK _ ?_) | (refine ⟨fun W hS => ?_, hK _ ?_⟩; · (skip; try go_simp))
        clear hK K
        refine flo_read _ rfl (fun K hK => ?_)
        go_simp
        first | (refine hK _ ?_) | (refine ⟨fun W hS => ?_, hK _ ?_⟩; · (skip; try go_simp))
        clear hK K
        refine flo_end ?_
        go_wp2_with fail
        go_roundw
        case rel => exact ⟨k + 1, l', R', lv4, by omega, by go_num, hrlh.out, hokh.out, hlenh.out, H⟩
        case measure => simp [RowKit.intOf]; omega
      · obtain rfl : k = acts.length := by omega
        have g2 : decide ((acts.length : Int) < (acts.length : Int)) = false := by simp
        have T0 := H.t
        clear H hrl hok hln
        go_wp2_with fail
        go_at_call 69
        refine Calls.mono (spend_nil _) ?_
        rintro e wa ⟨rfl, ta⟩
        go_wp2_with fail
        go_at_call 60
        refine Calls.mono (alive_any _) ?_
        rintro e wb ⟨rfl, tb⟩
        go_wp2_with fail
        go_at_call 70
        refine Calls.mono (put_nil ⟨0, 1, 1, 0, 0⟩ _) ?_
        rintro e wc ⟨rfl, tc⟩
        go_wp2_with fail
        go_at_call 67
        refine Calls.mono (left_nil 1 1 _) ?_
        rintro e wd ⟨rfl, td⟩
        go_wp2_with fail
        go_at_call 71
        refine Calls.mono (drop_nil _ 1) ?_
        rintro e we ⟨rfl, te⟩
        go_wp2_with fail
        go_at_call 66
        refine Calls.mono (all_nil _) ?_
        rintro e wf ⟨rfl, tf⟩
        go_wp2_with fail
        go_at_call 72
        refine Calls.mono (close_nil 1 1 _) ?_
        rintro e wg ⟨rfl, tg⟩
        have hX := hXh.out _ (((((((T0.trans ta).trans tb).trans tc).trans td).trans te).trans tf).trans tg)
        clear T0 ta tb tc td te tf tg
        go_wp2_with fail
        exact hX
end Go.Proofs.Ytcmaloncfdmpnaa.Lp
