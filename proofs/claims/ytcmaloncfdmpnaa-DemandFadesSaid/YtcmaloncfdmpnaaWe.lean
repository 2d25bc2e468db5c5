/- The laws DemandPlays, DemandFades. -/
import Derived.Test.YtcmaloncfdmpnaaWd
import Derived.Test.YtcmaloncfdmpnaaHa
set_option linter.unusedVariables false
set_option linter.unusedSimpArgs false
set_option maxRecDepth 100000
namespace Go.Proofs.Ytcmaloncfdmpnaa.We
open Go.RowKit Go.MapKept Go.ChangeShapes Go.WideShapes Hm Hs Hf Hg Hk Hx Hv Hj Ho Hn Ha Sm Sat Wa Wb Wc Wd
theorem alive_any (w : World) : Calls Try.prog 50 #[] w fun e w' => e = .returned (.bool true) ∧ Turns [] w w' := by
  have H := Sep.start w
  obtain ⟨X, hX⟩ : ∃ X : Ending → World → Prop, X = fun e w' => e = .returned (.bool true) ∧ Turns [] w w' := ⟨_, rfl⟩
  rw [← hX]
  have hXh : Hid (∀ w', Turns [] w w' → X (.returned (.bool true)) w') := Lib.hid (fun w' h => by rw [hX]; exact ⟨rfl, h⟩)
  clear hX
  go_enter Try.func50, Try.ntmps50
  go_wp2_with fail
  go_at_call 51
  refine Calls.mono (new_is _) ?_
  rintro e w1 ⟨b, mb, rfl, h1⟩
  replace H := H.call [] h1
  clear h1
  have P1 := note_is w1 b mb [] [] 3 9 (H.got [0, 1]) Est.nil (by omega)
  unfold NoteOut at P1
  rw [show ofN ([] ++ [((3 : Int), (9 : Int))]) 3 = 9 by decide] at P1
  have P1h := Lib.hid P1
  clear P1
  go_wp2_with fail
  go_at_call 52
  refine Calls.mono (P1h.out) ?_
  rintro e w2 ⟨rfl, l2, e2, h2⟩
  replace H := H.call [0, 1] h2
  have P2 := note_is w2 b mb l2 _ 3 2 (H.got [0, 1]) e2 (by omega)
  unfold NoteOut at P2
  rw [show ofN ([] ++ [((3 : Int), (9 : Int))] ++ [(3, 2)]) 3 = 4 by decide] at P2
  have P2h := Lib.hid P2
  clear P2 P1h h2
  go_wp2_with fail
  go_at_call 52
  refine Calls.mono (P2h.out) ?_
  rintro e w3 ⟨rfl, l3, e3, h3⟩
  replace H := H.call [0, 1] h3
  have P3 := of_is w3 b mb l3 _ 3 (H.got [0, 1]) e3
  have P4 := fun w h => want_is w b mb l3 _ 3 5 7 h e3
  have P5 := fun w h => keys_is w b mb l3 _ h e3 (by simp)
  have hk : skeys l3 = [3] := by rw [dkeys_eq e3]; decide
  have hk1 : (ins (skeys l3)).length = 1 := by rw [hk]; rfl
  have v2 : ofN ([] ++ [((3 : Int), (9 : Int))] ++ [(3, 2)]) 3 = 4 := by decide
  rw [v2] at P3 P4
  have v3 : min (sum [(4 : Int), 5]) (fit 7) = 7 := by decide
  rw [v3] at P4
  have P3h := Lib.hid P3
  have P4h := Lib.hid P4
  have P5h := Lib.hid P5
  clear P3 P4 P5 P2h h3 hk v3
  clear v2
  go_wp2_with fail
  go_at_call 54
  refine Calls.mono (P3h.out) ?_
  rintro e w4 ⟨rfl, t4⟩
  replace H := H.turns t4
  go_wp2_with fail
  go_at_call 56
  refine Calls.mono (P4h.out w4 (H.got [0, 1])) ?_
  rintro e w5 ⟨rfl, t5⟩
  replace H := H.turns t5
  go_wp2_with fail
  go_at_call 58
  refine Calls.mono (P5h.out w5 (H.got [0, 1])) ?_
  rintro e w6 ⟨v, rfl, o6, t6, _⟩
  replace H := H.turns t6
  obtain ⟨A, c, rfl, _⟩ := o6.form
  rw [hk1]
  have hX := hXh.out _ H.t
  clear H t4 t5 t6 o6 hk1
  go_wp2_with fail
  exact hX
/-- the demands, alike -/
def DInv (T : Th) (w : World) (b mb d : Nat) (NS : List (Int × Int)) (wr : World) : Prop := ∃ l lv, Est l NS ∧ Sep [] w [tBlk b #[.map (some mb)] 153, tMap mb l, tBlk d #[lv] 93, tOwn 95 2 lv (NS.map nrow), T] wr
theorem DInv.t {T : Th} {w wr : World} {b mb d : Nat} {NS : List (Int × Int)} (h : DInv T w b mb d NS wr) : Turns [] w wr := by
  obtain ⟨_, _, _, H⟩ := h
  exact H.t
set_option maxHeartbeats 4000000 in
theorem plays_is (w : World) (A : Option Addr) (c : Nat) (NS : List (Int × Int)) (key q m : Int) (hl : FlatRow w A 2 (NS.map nrow)) (hk : ∀ n ∈ NS, -9223372036854775808 ≤ n.1 ∧ n.1 ≤ 9223372036854775807) :
    Calls Try.prog 8 #[.slice A NS.length c, .int .i64 key, .agg #[.int .i64 q, .int .i64 m]] w fun e w' => e = .returned (.bool true) ∧ Turns [] w w' := by
  have H := (Sep.start w).alloc #[.int .i64 q, .int .i64 m] 83
  obtain ⟨X, hX⟩ : ∃ X : Ending → World → Prop, X = fun e w' => e = .returned (.bool true) ∧ Turns [] w w' := ⟨_, rfl⟩
  rw [← hX]
  have hXh : Hid (∀ w', Turns [] w w' → X (.returned (.bool true)) w') := Lib.hid (fun w' h => by rw [hX]; exact ⟨rfl, h⟩)
  clear hX
  have hll := hl.1
  rw [List.length_map] at hll
  have hlh := Lib.hid hl
  have hkh := Lib.hid hk
  clear hl hk
  by_cases hlong : (NS.length : Int) > 80
  · have g1 := decide_eq_true hlong
    clear hlong
    go_enter Try.func8, Try.ntmps8
    go_wp2_with fail
    go_at_call 50
    refine Calls.mono (alive_any _) ?_
    rintro e w1 ⟨rfl, t1⟩
    have hX := hXh.out _ (H.turns t1).t
    go_wp2_with fail
    exact hX
  · have g1 : decide ((NS.length : Int) > 80) = false := decide_eq_false hlong
    have hl80 : NS.length ≤ 80 := by omega
    clear hlong
    go_enter Try.func8, Try.ntmps8
    go_wp2_with fail
    go_at_call 51
    refine Calls.mono (new_is _) ?_
    rintro e w1 ⟨b, mb, rfl, h1⟩
    replace H := H.call [] h1
    replace H := (H.alloc #[.slice none 0 0] 93).nilSlice 95 2
    have hP : DInv (tBlk w.heap.size #[.int .i64 q, .int .i64 m] 83) w b mb w1.heap.size [] (w1.alloc (.cells #[.slice none 0 0] 93)) := ⟨[], _, Est.nil, H.keep [2, 3, 1, 0, 4]⟩
    clear H h1
    go_wp2_with fail
    generalize w1.alloc (.cells #[.slice none 0 0] 93) = w2 at *
    generalize hd : w1.heap.size = d at *
    clear hd
    go_loopw [9] (fun v9 wr => ∃ (k : Nat), k ≤ NS.length ∧ v9 = .int .i64 k ∧ DInv (tBlk w.heap.size #[.int .i64 q, .int .i64 m] 83) w b mb d (NS.take k) wr) (fun v9 _ => NS.length - (RowKit.intOf v9).toNat)
    case atStart => exact ⟨0, by omega, rfl, hP⟩
    case round =>
      obtain ⟨k, hk, rfl, l, lv, hE, H⟩ := hrel
      clear hP
      obtain ⟨wo, rfl⟩ : ∃ wo : World, wo = wr := ⟨_, rfl⟩
      by_cases hlt : k < NS.length
      · have g2 : decide ((k : Int) < (NS.length : Int)) = true := by simp; omega
        obtain ⟨n, hx⟩ : ∃ n, NS[k]? = some n := ⟨_, List.getElem?_eq_getElem hlt⟩
        obtain ⟨ad, rfl, _, hc⟩ := hlh.out.at_ (j := k) (c := nrow n) (by rw [List.getElem?_map, hx]; rfl)
        have hkn := hkh.out n (List.mem_of_getElem? hx)
        have hc0 := hc 0 _ rfl
        have hc1 := hc 1 _ rfl
        rw [Nat.add_zero] at hc0
        rw [add_field _ _ _ (by omega)] at hc1
        have hcW : Hid (∀ wr, Turns [] w wr → wr.cell? (ad.add (k * 2)) = some (.int .i64 n.1) ∧ wr.cell? ⟨(ad.add (k * 2)).block, (ad.add (k * 2)).off + 1, none⟩ = some (.int .i64 n.2)) := Lib.hid (fun wr t => ⟨t.old hc0, t.old hc1⟩)
        have hNS : NS.take (k + 1) = NS.take k ++ [(n.1, n.2)] := by rw [List.take_add_one, hx]; rfl
        have hNSh := Lib.hid hNS
        have hln : (NS.take k).length ≤ 80 := by rw [List.length_take]; omega
        have hlnh := Lib.hid hln
        generalize hTK : NS.take k = TK at *
        have P1 := note_is wo.drew b mb l TK n.1 n.2 (H.drew.got [0, 1]) hE hkn
        have P2 := fun w lv h => dnote_is w d lv TK n.1 n.2 h (by omega)
        generalize hTS : TK ++ [(n.1, n.2)] = TS at *
        unfold NoteOut at P1
        unfold DNoteOut at P2
        rw [hTS] at P1 P2
        have P1h := Lib.hid P1
        have P2h := Lib.hid P2
        have hTSh := Lib.hid hTS
        have hTSl : Hid (TS.length ≤ 81) := Lib.hid (by rw [← hTS, List.length_append]; simp; omega)
        clear hx hc hc0 hc1 hNS hTK hTS hkn P1 P2 hln
        replace H := H.drew
        go_wp2_with fail
        go_wp2_with fail
        refine wp_region_flo2 [(0, true, []), (1, true, [11]), (2, true, [11]), (3, true, [11]), (4, true, [11]), (5, true, []), (6, true, [11]), (7, true, [11]), (8, true, [11]), (9, true, [11]), (10, true, []), (11, false, []), (12, true, [])] (fun j W => True) (by kernel_rfl) rfl (by kernel_rfl) (by intro c d v a w h; cases d <;> first | (simpa [Exit.then, Exit.inBlock, Act.put] using h) | exact h) ?_
        generalize wo.drew = w3 at *
        obtain ⟨i0, i1⟩ := hcW.out _ H.t
        first
          | (refine flo2_read _ rfl (fun _ => True) trivial (fun _ _ _ _ => trivial) (fun K hK => ?_); go_simp; first | (refine hK _ ?_) | (refine ⟨fun W _ => ?_, hK _ ?_⟩; · (go_simp)) | (refine ⟨fun W => ?_, hK _ ?_⟩; · (go_simp)))
          | (refine flo2_read _ rfl (fun W => W = _) rfl (by simp) (fun K hK => ?_); go_simp; first | (refine hK _ ?_) | (refine ⟨fun W hS => ?_, hK _ ?_⟩; · (subst hS; go_simp)) | (refine ⟨?_, hK _ ?_⟩; · (go_simp)))
        clear hK K
        first
          | (refine flo2_read _ rfl (fun _ => True) trivial (fun _ _ _ _ => trivial) (fun K hK => ?_); go_simp; first | (refine hK _ ?_) | (refine ⟨fun W _ => ?_, hK _ ?_⟩; · (go_simp)) | (refine ⟨fun W => ?_, hK _ ?_⟩; · (go_simp)))
          | (refine flo2_read _ rfl (fun W => W = _) rfl (by simp) (fun K hK => ?_); go_simp; first | (refine hK _ ?_) | (refine ⟨fun W hS => ?_, hK _ ?_⟩; · (subst hS; go_simp)) | (refine ⟨?_, hK _ ?_⟩; · (go_simp)))
        clear hK K
        first
          | (refine flo2_read _ rfl (fun _ => True) trivial (fun _ _ _ _ => trivial) (fun K hK => ?_); go_simp; first | (refine hK _ ?_) | (refine ⟨fun W _ => ?_, hK _ ?_⟩; · (go_simp)) | (refine ⟨fun W => ?_, hK _ ?_⟩; · (go_simp)))
          | (refine flo2_read _ rfl (fun W => W = _) rfl (by simp) (fun K hK => ?_); go_simp; first | (refine hK _ ?_) | (refine ⟨fun W hS => ?_, hK _ ?_⟩; · (subst hS; go_simp)) | (refine ⟨?_, hK _ ?_⟩; · (go_simp)))
        clear hK K
        first
          | (refine flo2_read _ rfl (fun _ => True) trivial (fun _ _ _ _ => trivial) (fun K hK => ?_); go_simp; first | (refine hK _ ?_) | (refine ⟨fun W _ => ?_, hK _ ?_⟩; · (go_simp)) | (refine ⟨fun W => ?_, hK _ ?_⟩; · (go_simp)))
          | (refine flo2_read _ rfl (fun W => W = _) rfl (by simp) (fun K hK => ?_); go_simp; first | (refine hK _ ?_) | (refine ⟨fun W hS => ?_, hK _ ?_⟩; · (subst hS; go_simp)) | (refine ⟨?_, hK _ ?_⟩; · (go_simp)))
        clear hK K
        first
          | (refine flo2_read _ rfl (fun _ => True) trivial (fun _ _ _ _ => trivial) (fun K hK => ?_); go_simp; first | (refine hK _ ?_) | (refine ⟨fun W _ => ?_, hK _ ?_⟩; · (go_simp)) | (refine ⟨fun W => ?_, hK _ ?_⟩; · (go_simp)))
          | (refine flo2_read _ rfl (fun W => W = _) rfl (by simp) (fun K hK => ?_); go_simp; first | (refine hK _ ?_) | (refine ⟨fun W hS => ?_, hK _ ?_⟩; · (subst hS; go_simp)) | (refine ⟨?_, hK _ ?_⟩; · (go_simp)))
        clear hK K
        first
          | (refine flo2_read _ rfl (fun _ => True) trivial (fun _ _ _ _ => trivial) (fun K hK => ?_); go_simp; first | (refine hK _ ?_) | (refine ⟨fun W _ => ?_, hK _ ?_⟩; · (go_simp)) | (refine ⟨fun W => ?_, hK _ ?_⟩; · (go_simp)))
          | (refine flo2_read _ rfl (fun W => W = _) rfl (by simp) (fun K hK => ?_); go_simp; first | (refine hK _ ?_) | (refine ⟨fun W hS => ?_, hK _ ?_⟩; · (subst hS; go_simp)) | (refine ⟨?_, hK _ ?_⟩; · (go_simp)))
        clear hK K
        first
          | (refine flo2_read _ rfl (fun _ => True) trivial (fun _ _ _ _ => trivial) (fun K hK => ?_); go_simp; first | (refine hK _ ?_) | (refine ⟨fun W _ => ?_, hK _ ?_⟩; · (go_simp)) | (refine ⟨fun W => ?_, hK _ ?_⟩; · (go_simp)))
          | (refine flo2_read _ rfl (fun W => W = _) rfl (by simp) (fun K hK => ?_); go_simp; first | (refine hK _ ?_) | (refine ⟨fun W hS => ?_, hK _ ?_⟩; · (subst hS; go_simp)) | (refine ⟨?_, hK _ ?_⟩; · (go_simp)))
        clear hK K
        first
          | (refine flo2_read _ rfl (fun _ => True) trivial (fun _ _ _ _ => trivial) (fun K hK => ?_); go_simp; first | (refine hK _ ?_) | (refine ⟨fun W _ => ?_, hK _ ?_⟩; · (go_simp)) | (refine ⟨fun W => ?_, hK _ ?_⟩; · (go_simp)))
          | (refine flo2_read _ rfl (fun W => W = _) rfl (by simp) (fun K hK => ?_); go_simp; first | (refine hK _ ?_) | (refine ⟨fun W hS => ?_, hK _ ?_⟩; · (subst hS; go_simp)) | (refine ⟨?_, hK _ ?_⟩; · (go_simp)))
        clear hK K
        first
          | (refine flo2_read _ rfl (fun _ => True) trivial (fun _ _ _ _ => trivial) (fun K hK => ?_); go_simp; first | (refine hK _ ?_) | (refine ⟨fun W _ => ?_, hK _ ?_⟩; · (go_simp)) | (refine ⟨fun W => ?_, hK _ ?_⟩; · (go_simp)))
          | (refine flo2_read _ rfl (fun W => W = _) rfl (by simp) (fun K hK => ?_); go_simp; first | (refine hK _ ?_) | (refine ⟨fun W hS => ?_, hK _ ?_⟩; · (subst hS; go_simp)) | (refine ⟨?_, hK _ ?_⟩; · (go_simp)))
        clear hK K
        first
          | (refine flo2_read _ rfl (fun _ => True) trivial (fun _ _ _ _ => trivial) (fun K hK => ?_); go_simp; first | (refine hK _ ?_) | (refine ⟨fun W _ => ?_, hK _ ?_⟩; · (go_simp)) | (refine ⟨fun W => ?_, hK _ ?_⟩; · (go_simp)))
          | (refine flo2_read _ rfl (fun W => W = _) rfl (by simp) (fun K hK => ?_); go_simp; first | (refine hK _ ?_) | (refine ⟨fun W hS => ?_, hK _ ?_⟩; · (subst hS; go_simp)) | (refine ⟨?_, hK _ ?_⟩; · (go_simp)))
        clear hK K
        first
          | (refine flo2_read _ rfl (fun _ => True) trivial (fun _ _ _ _ => trivial) (fun K hK => ?_); go_simp; first | (refine hK _ ?_) | (refine ⟨fun W _ => ?_, hK _ ?_⟩; · (go_simp)) | (refine ⟨fun W => ?_, hK _ ?_⟩; · (go_simp)))
          | (refine flo2_read _ rfl (fun W => W = _) rfl (by simp) (fun K hK => ?_); go_simp; first | (refine hK _ ?_) | (refine ⟨fun W hS => ?_, hK _ ?_⟩; · (subst hS; go_simp)) | (refine ⟨?_, hK _ ?_⟩; · (go_simp)))
        clear hK K
        refine flo2_alone _ rfl ?_
        go_wp2_with fail
        go_at_call 52
        refine Calls.mono (P1h.out) ?_
        rintro e w4 ⟨rfl, l4, e4, h4⟩
        go_wp2_with fail
        refine ⟨trivial, _, fun _ _ h => h, ?_⟩
        first
          | (refine flo2_read _ rfl (fun _ => True) trivial (fun _ _ _ _ => trivial) (fun K hK => ?_); go_simp; first | (refine hK _ ?_) | (refine ⟨fun W _ => ?_, hK _ ?_⟩; · (go_simp)) | (refine ⟨fun W => ?_, hK _ ?_⟩; · (go_simp)))
          | (refine flo2_read _ rfl (fun W => W = _) rfl (by simp) (fun K hK => ?_); go_simp; first | (refine hK _ ?_) | (refine ⟨fun W hS => ?_, hK _ ?_⟩; · (subst hS; go_simp)) | (refine ⟨?_, hK _ ?_⟩; · (go_simp)))
        clear hK K
        refine flo2_end ?_
        replace H := H.call [0, 1] h4
        clear h4 i0 i1 P1h
        replace H := H.drew
        go_wp2_with fail
        go_wp2_with fail
        refine wp_region_flo [(0, true), (1, true), (2, true), (3, true), (4, true), (5, true), (6, true), (7, true), (8, true), (9, true), (10, true), (11, true), (12, false), (13, true), (14, true), (15, true), (16, true), (18, true), (19, true), (17, false), (20, false), (21, true), (22, true), (23, true), (24, true), (25, true), (26, true), (27, true), (28, true), (29, true), (31, true), (32, true), (33, true), (34, true), (35, true), (36, true), (30, false), (37, false), (38, true), (39, true)] (fun W => Turns [] w W) (by kernel_rfl) rfl (by kernel_rfl) (by intro c d v a w h; cases d <;> first | (simpa [Exit.then, Exit.inBlock, Act.put] using h) | exact h) (H.t) ?_
        generalize w4.drew = w5 at *
        obtain ⟨i0, i1⟩ := hcW.out _ H.t
        refine flo_read _ rfl (fun K hK => ?_)
        go_simp
        first | (refine hK _ ?_) | (refine ⟨fun W hS => ?_, hK _ ?_⟩; · (obtain ⟨j0, j1⟩ := hcW.out _ hS; try go_simp))
        clear hK K
        refine flo_read _ rfl (fun K hK => ?_)
        go_simp
        first | (refine hK _ ?_) | (refine ⟨fun W hS => ?_, hK _ ?_⟩; · (obtain ⟨j0, j1⟩ := hcW.out _ hS; try go_simp))
        clear hK K
        refine flo_read _ rfl (fun K hK => ?_)
        go_simp
        first | (refine hK _ ?_) | (refine ⟨fun W hS => ?_, hK _ ?_⟩; · (obtain ⟨j0, j1⟩ := hcW.out _ hS; try go_simp))
        clear hK K
        refine flo_read _ rfl (fun K hK => ?_)
        go_simp
        first | (refine hK _ ?_) | (refine ⟨fun W hS => ?_, hK _ ?_⟩; · (obtain ⟨j0, j1⟩ := hcW.out _ hS; try go_simp))
        clear hK K
        refine flo_read _ rfl (fun K hK => ?_)
        go_simp
        first | (refine hK _ ?_) | (refine ⟨fun W hS => ?_, hK _ ?_⟩; · (obtain ⟨j0, j1⟩ := hcW.out _ hS; try go_simp))
        clear hK K
        refine flo_read _ rfl (fun K hK => ?_)
        go_simp
        first | (refine hK _ ?_) | (refine ⟨fun W hS => ?_, hK _ ?_⟩; · (obtain ⟨j0, j1⟩ := hcW.out _ hS; try go_simp))
        clear hK K
        refine flo_read _ rfl (fun K hK => ?_)
        go_simp
        first | (refine hK _ ?_) | (refine ⟨fun W hS => ?_, hK _ ?_⟩; · (obtain ⟨j0, j1⟩ := hcW.out _ hS; try go_simp))
        clear hK K
        refine flo_read _ rfl (fun K hK => ?_)
        go_simp
        first | (refine hK _ ?_) | (refine ⟨fun W hS => ?_, hK _ ?_⟩; · (obtain ⟨j0, j1⟩ := hcW.out _ hS; try go_simp))
        clear hK K
        refine flo_read _ rfl (fun K hK => ?_)
        go_simp
        first | (refine hK _ ?_) | (refine ⟨fun W hS => ?_, hK _ ?_⟩; · (obtain ⟨j0, j1⟩ := hcW.out _ hS; try go_simp))
        clear hK K
        refine flo_read _ rfl (fun K hK => ?_)
        go_simp
        first | (refine hK _ ?_) | (refine ⟨fun W hS => ?_, hK _ ?_⟩; · (obtain ⟨j0, j1⟩ := hcW.out _ hS; try go_simp))
        clear hK K
        refine flo_read _ rfl (fun K hK => ?_)
        go_simp
        first | (refine hK _ ?_) | (refine ⟨fun W hS => ?_, hK _ ?_⟩; · (obtain ⟨j0, j1⟩ := hcW.out _ hS; try go_simp))
        clear hK K
        refine flo_read _ rfl (fun K hK => ?_)
        go_simp
        first | (refine hK _ ?_) | (refine ⟨fun W hS => ?_, hK _ ?_⟩; · (obtain ⟨j0, j1⟩ := hcW.out _ hS; try go_simp))
        clear hK K
        clear i0 i1
        refine flo_alone _ rfl ?_
        go_wp2_with fail
        go_at_call 53
        refine Calls.mono (P2h.out w5 lv (H.got [2, 3])) ?_
        rintro e w6 ⟨rfl, lv6, h6⟩
        go_wp2_with fail
        refine ⟨fun W => Turns [] w6 W, fun W h => (H.call [2, 3] h6).t.trans h, Turns.refl _ _, ?_⟩
        replace H := (H.call [2, 3] h6).keep [2, 3, 0, 1, 4]
        clear h6 P2h
        have hE := e4
        clear e4
        have O1 := fun w h => of_is w b mb l4 TS key h hE
        have O2 := fun w h => dof_is w d lv6 TS key h (by have := hTSl.out; omega)
        have N1 := fun w h => want_is w b mb l4 TS key q m h hE
        have N2 := fun w h => dwant_is w d lv6 TS key q m h (by have := hTSl.out; omega)
        have K1 := fun w h => Wb.keys_is w b mb l4 TS h hE (by have := hTSl.out; omega)
        have K2 := fun w h => dkeys_is w d lv6 TS h (by have := hTSl.out; omega)
        rw [dkeys_eq hE] at K1
        generalize ofN TS key = o at O1 O2 N1 N2
        generalize min (sum [o, q]) (fit m) = z at N1 N2
        generalize dkeys TS = ks at K1 K2
        have O1h := Lib.hid O1
        have O2h := Lib.hid O2
        have N1h := Lib.hid N1
        have N2h := Lib.hid N2
        have K1h := Lib.hid K1
        have K2h := Lib.hid K2
        have hEh := Lib.hid hE
        clear O1 O2 N1 N2 K1 K2 hE
        have t0 : World.cell? (w6) ⟨w.heap.size, 0, none⟩ = some _ := (H.blk 4 rfl).cell 0
        have t1 : World.cell? (w6) ⟨w.heap.size, 1, none⟩ = some _ := (H.blk 4 rfl).cell 1
        refine flo_read _ rfl (fun K hK => ?_)
        go_simp
        first | (refine hK _ ?_) | (refine ⟨fun W hS => ?_, hK _ ?_⟩; · (have y0 := hS.old t0; have y1 := hS.old t1; try go_simp))
        clear hK K
        refine flo_read _ rfl (fun K hK => ?_)
        go_simp
        first | (refine hK _ ?_) | (refine ⟨fun W hS => ?_, hK _ ?_⟩; · (have y0 := hS.old t0; have y1 := hS.old t1; try go_simp))
        clear hK K
        refine flo_read _ rfl (fun K hK => ?_)
        go_simp
        first | (refine hK _ ?_) | (refine ⟨fun W hS => ?_, hK _ ?_⟩; · (have y0 := hS.old t0; have y1 := hS.old t1; try go_simp))
        clear hK K
        refine flo_read _ rfl (fun K hK => ?_)
        go_simp
        first | (refine hK _ ?_) | (refine ⟨fun W hS => ?_, hK _ ?_⟩; · (have y0 := hS.old t0; have y1 := hS.old t1; try go_simp))
        clear hK K
        refine flo_read _ rfl (fun K hK => ?_)
        go_simp
        first | (refine hK _ ?_) | (refine ⟨fun W hS => ?_, hK _ ?_⟩; · (have y0 := hS.old t0; have y1 := hS.old t1; try go_simp))
        clear hK K
        refine flo_read _ rfl (fun K hK => ?_)
        go_simp
        first | (refine hK _ ?_) | (refine ⟨fun W hS => ?_, hK _ ?_⟩; · (have y0 := hS.old t0; have y1 := hS.old t1; try go_simp))
        clear hK K
        refine flo_alone _ rfl ?_
        go_wp2_with fail
        go_at_call 54
        refine Calls.mono (O1h.out _ (H.got [0, 1])) ?_
        rintro e w7 ⟨rfl, t7⟩
        go_wp2_with fail
        refine ⟨fun W => Turns [] w7 W, fun W h => t7.trans h, Turns.refl _ _, ?_⟩
        replace H := H.turns t7
        refine flo_alone _ rfl ?_
        go_wp2_with fail
        go_at_call 55
        refine Calls.mono (O2h.out _ (H.got [2, 3])) ?_
        rintro e w8 ⟨rfl, t8⟩
        go_wp2_with fail
        refine ⟨fun W => Turns [] w8 W, fun W h => t8.trans h, Turns.refl _ _, ?_⟩
        replace H := H.turns t8
        clear t0 t1 t7 t8
        have t0 : World.cell? (w8) ⟨w.heap.size, 0, none⟩ = some _ := (H.blk 4 rfl).cell 0
        have t1 : World.cell? (w8) ⟨w.heap.size, 1, none⟩ = some _ := (H.blk 4 rfl).cell 1
        refine flo_read _ rfl (fun K hK => ?_)
        go_simp
        first | (refine hK _ ?_) | (refine ⟨fun W hS => ?_, hK _ ?_⟩; · (have y0 := hS.old t0; have y1 := hS.old t1; try go_simp))
        clear hK K
        refine flo_read _ rfl (fun K hK => ?_)
        go_simp
        first | (refine hK _ ?_) | (refine ⟨fun W hS => ?_, hK _ ?_⟩; · (have y0 := hS.old t0; have y1 := hS.old t1; try go_simp))
        clear hK K
        refine flo_read _ rfl (fun K hK => ?_)
        go_simp
        first | (refine hK _ ?_) | (refine ⟨fun W hS => ?_, hK _ ?_⟩; · (have y0 := hS.old t0; have y1 := hS.old t1; try go_simp))
        clear hK K
        refine flo_read _ rfl (fun K hK => ?_)
        go_simp
        first | (refine hK _ ?_) | (refine ⟨fun W hS => ?_, hK _ ?_⟩; · (have y0 := hS.old t0; have y1 := hS.old t1; try go_simp))
        clear hK K
        refine flo_read _ rfl (fun K hK => ?_)
        go_simp
        first | (refine hK _ ?_) | (refine ⟨fun W hS => ?_, hK _ ?_⟩; · (have y0 := hS.old t0; have y1 := hS.old t1; try go_simp))
        clear hK K
        refine flo_read _ rfl (fun K hK => ?_)
        go_simp
        first | (refine hK _ ?_) | (refine ⟨fun W hS => ?_, hK _ ?_⟩; · (have y0 := hS.old t0; have y1 := hS.old t1; try go_simp))
        clear hK K
        refine flo_read _ rfl (fun K hK => ?_)
        go_simp
        first | (refine hK _ ?_) | (refine ⟨fun W hS => ?_, hK _ ?_⟩; · (have y0 := hS.old t0; have y1 := hS.old t1; try go_simp))
        clear hK K
        refine flo_read _ rfl (fun K hK => ?_)
        go_simp
        first | (refine hK _ ?_) | (refine ⟨fun W hS => ?_, hK _ ?_⟩; · (have y0 := hS.old t0; have y1 := hS.old t1; try go_simp))
        clear hK K
        refine flo_read _ rfl (fun K hK => ?_)
        go_simp
        first | (refine hK _ ?_) | (refine ⟨fun W hS => ?_, hK _ ?_⟩; · (have y0 := hS.old t0; have y1 := hS.old t1; try go_simp))
        clear hK K
        refine flo_read _ rfl (fun K hK => ?_)
        go_simp
        first | (refine hK _ ?_) | (refine ⟨fun W hS => ?_, hK _ ?_⟩; · (have y0 := hS.old t0; have y1 := hS.old t1; try go_simp))
        clear hK K
        refine flo_read _ rfl (fun K hK => ?_)
        go_simp
        first | (refine hK _ ?_) | (refine ⟨fun W hS => ?_, hK _ ?_⟩; · (have y0 := hS.old t0; have y1 := hS.old t1; try go_simp))
        clear hK K
        refine flo_read _ rfl (fun K hK => ?_)
        go_simp
        first | (refine hK _ ?_) | (refine ⟨fun W hS => ?_, hK _ ?_⟩; · (have y0 := hS.old t0; have y1 := hS.old t1; try go_simp))
        clear hK K
        refine flo_read _ rfl (fun K hK => ?_)
        go_simp
        first | (refine hK _ ?_) | (refine ⟨fun W hS => ?_, hK _ ?_⟩; · (have y0 := hS.old t0; have y1 := hS.old t1; try go_simp))
        clear hK K
        refine flo_read _ rfl (fun K hK => ?_)
        go_simp
        first | (refine hK _ ?_) | (refine ⟨fun W hS => ?_, hK _ ?_⟩; · (have y0 := hS.old t0; have y1 := hS.old t1; try go_simp))
        clear hK K
        refine flo_read _ rfl (fun K hK => ?_)
        go_simp
        first | (refine hK _ ?_) | (refine ⟨fun W hS => ?_, hK _ ?_⟩; · (have y0 := hS.old t0; have y1 := hS.old t1; try go_simp))
        clear hK K
        refine flo_alone _ rfl ?_
        go_wp2_with fail
        go_at_call 56
        refine Calls.mono (N1h.out _ (H.got [0, 1])) ?_
        rintro e w9 ⟨rfl, t9⟩
        go_wp2_with fail
        refine ⟨fun W => Turns [] w9 W, fun W h => t9.trans h, Turns.refl _ _, ?_⟩
        replace H := H.turns t9
        refine flo_alone _ rfl ?_
        go_wp2_with fail
        go_at_call 57
        refine Calls.mono (N2h.out _ (H.got [2, 3])) ?_
        rintro e wa ⟨rfl, ta⟩
        go_wp2_with fail
        refine ⟨fun W => Turns [] wa W, fun W h => ta.trans h, Turns.refl _ _, ?_⟩
        replace H := H.turns ta
        clear t0 t1 t9 ta
        refine flo_read _ rfl (fun K hK => ?_)
        go_simp
        first | (refine hK _ ?_) | (refine ⟨fun W hS => ?_, hK _ ?_⟩; · (skip; try go_simp))
        clear hK K
        refine flo_read _ rfl (fun K hK => ?_)
        go_simp
        first | (refine hK _ ?_) | (refine ⟨fun W hS => ?_, hK _ ?_⟩; · (skip; try go_simp))
        clear hK K
        refine flo_end ?_
        go_wp2_with fail
        go_at_call 58
        refine Calls.mono (K1h.out _ (H.got [0, 1])) ?_
        rintro e wb ⟨v1, rfl, o1, tb, _⟩
        replace H := H.turns tb
        go_wp2_with fail
        go_at_call 59
        refine Calls.mono (K2h.out _ (H.got [2, 3])) ?_
        rintro e wc ⟨v2, rfl, o2, tc, _⟩
        replace H := H.turns tc
        have o1' := (o1.turns tc (by simp)).reads
        have o2' := o2.reads
        have hSm := Rs.same_is wc v1 v2 ks o1' o2'
        have hSmh := Lib.hid hSm
        clear hSm o1 o2 o1' o2' tb tc
        go_wp2_with fail
        go_at_call 23
        refine Calls.mono (hSmh.out) ?_
        rintro e wd ⟨rfl, td⟩
        replace H := H.turns td
        go_wp2_with fail
        go_roundw
        case rel => exact ⟨k + 1, by omega, by go_num, by rw [hNSh.out]; exact ⟨l4, lv6, hEh.out, H⟩⟩
        case measure => simp [RowKit.intOf]; omega
      · obtain rfl : k = NS.length := by omega
        have g2 : decide ((NS.length : Int) < (NS.length : Int)) = false := by simp
        replace H := ((H.keep [4]).alloc #[.slice none 0 0] 93).nilSlice 95 2
        replace H := H.drew
        have hHh := Lib.hid H
        clear H
        go_wp2_with fail
        go_wp2_with fail
        refine wp_region_flo [(0, false), (1, true), (2, true), (4, true), (7, true), (3, false), (5, false), (6, true), (8, false), (9, true), (10, true), (11, true), (12, true), (13, true), (14, true), (15, true), (16, true), (17, true), (18, true), (20, true), (21, true), (22, true), (23, true), (24, true), (19, false), (25, false), (26, true), (27, true), (28, true)] (fun W => True) (by kernel_rfl) rfl (by kernel_rfl) (by intro c d v a w h; cases d <;> first | (simpa [Exit.then, Exit.inBlock, Act.put] using h) | exact h) (trivial) ?_
        have H := hHh.out
        clear hHh
        generalize (wo.alloc (.cells #[.slice none 0 0] 93)).drew = w3 at *
        generalize wo.heap.size = d2 at *
        have N1 := fun w => want_nil w 1 q m
        have N2 := fun w h => dwant_is w d2 (.slice none 0 0) [] 1 q m h (by simp)
        rw [show ofN [] 1 = 0 from rfl] at N2
        generalize min (sum [0, q]) (fit m) = z at N1 N2
        have N1h := Lib.hid N1
        have N2h := Lib.hid N2
        clear N1 N2
        refine flo_alone _ rfl ?_
        go_wp2_with fail
        go_at_call 50
        refine Calls.mono (alive_any _) ?_
        rintro e w4 ⟨rfl, t4⟩
        go_wp2_with fail
        refine ⟨fun W => Turns [] w4 W, fun W _ => trivial, Turns.refl _ _, ?_⟩
        replace H := H.turns t4
        have t0 : World.cell? (w4) ⟨w.heap.size, 0, none⟩ = some _ := (H.blk 2 rfl).cell 0
        have t1 : World.cell? (w4) ⟨w.heap.size, 1, none⟩ = some _ := (H.blk 2 rfl).cell 1
        refine flo_read _ rfl (fun K hK => ?_)
        go_simp
        first | (refine hK _ ?_) | (refine ⟨fun W hS => ?_, hK _ ?_⟩; · (have y0 := hS.old t0; have y1 := hS.old t1; try go_simp))
        clear hK K
        refine flo_read _ rfl (fun K hK => ?_)
        go_simp
        first | (refine hK _ ?_) | (refine ⟨fun W hS => ?_, hK _ ?_⟩; · (have y0 := hS.old t0; have y1 := hS.old t1; try go_simp))
        clear hK K
        refine flo_read _ rfl (fun K hK => ?_)
        go_simp
        first | (refine hK _ ?_) | (refine ⟨fun W hS => ?_, hK _ ?_⟩; · (have y0 := hS.old t0; have y1 := hS.old t1; try go_simp))
        clear hK K
        refine flo_read _ rfl (fun K hK => ?_)
        go_simp
        first | (refine hK _ ?_) | (refine ⟨fun W hS => ?_, hK _ ?_⟩; · (have y0 := hS.old t0; have y1 := hS.old t1; try go_simp))
        clear hK K
        refine flo_alone _ rfl ?_
        go_wp2_with fail
        go_at_call 52
        refine Calls.mono (note_nil _ 1 5) ?_
        rintro e w5 ⟨rfl, t5⟩
        go_wp2_with fail
        refine ⟨fun W => Turns [] w5 W, fun W h => t5.trans h, Turns.refl _ _, ?_⟩
        refine flo_alone _ rfl ?_
        go_wp2_with fail
        go_at_call 54
        refine Calls.mono (of_nil _ 1) ?_
        rintro e w6 ⟨rfl, t6⟩
        go_wp2_with fail
        refine ⟨fun W => Turns [] w6 W, fun W h => t6.trans h, Turns.refl _ _, ?_⟩
        replace H := (H.turns t5).turns t6
        clear t0 t1 t4 t5 t6
        refine flo_read _ rfl (fun K hK => ?_)
        go_simp
        first | (refine hK _ ?_) | (refine ⟨fun W hS => ?_, hK _ ?_⟩; · (skip; try go_simp))
        clear hK K
        refine flo_alone _ rfl ?_
        go_wp2_with fail
        go_at_call 58
        refine Calls.mono (keys_nil _) ?_
        rintro e w7 ⟨rfl, t7⟩
        go_wp2_with fail
        refine ⟨fun W => Turns [] w7 W, fun W h => t7.trans h, Turns.refl _ _, ?_⟩
        replace H := H.turns t7
        have t0 : World.cell? (w7) ⟨w.heap.size, 0, none⟩ = some _ := (H.blk 2 rfl).cell 0
        have t1 : World.cell? (w7) ⟨w.heap.size, 1, none⟩ = some _ := (H.blk 2 rfl).cell 1
        refine flo_read _ rfl (fun K hK => ?_)
        go_simp
        first | (refine hK _ ?_) | (refine ⟨fun W hS => ?_, hK _ ?_⟩; · (have y0 := hS.old t0; have y1 := hS.old t1; try go_simp))
        clear hK K
        refine flo_read _ rfl (fun K hK => ?_)
        go_simp
        first | (refine hK _ ?_) | (refine ⟨fun W hS => ?_, hK _ ?_⟩; · (have y0 := hS.old t0; have y1 := hS.old t1; try go_simp))
        clear hK K
        refine flo_read _ rfl (fun K hK => ?_)
        go_simp
        first | (refine hK _ ?_) | (refine ⟨fun W hS => ?_, hK _ ?_⟩; · (have y0 := hS.old t0; have y1 := hS.old t1; try go_simp))
        clear hK K
        refine flo_read _ rfl (fun K hK => ?_)
        go_simp
        first | (refine hK _ ?_) | (refine ⟨fun W hS => ?_, hK _ ?_⟩; · (have y0 := hS.old t0; have y1 := hS.old t1; try go_simp))
        clear hK K
        refine flo_read _ rfl (fun K hK => ?_)
        go_simp
        first | (refine hK _ ?_) | (refine ⟨fun W hS => ?_, hK _ ?_⟩; · (have y0 := hS.old t0; have y1 := hS.old t1; try go_simp))
        clear hK K
        refine flo_read _ rfl (fun K hK => ?_)
        go_simp
        first | (refine hK _ ?_) | (refine ⟨fun W hS => ?_, hK _ ?_⟩; · (have y0 := hS.old t0; have y1 := hS.old t1; try go_simp))
        clear hK K
        refine flo_read _ rfl (fun K hK => ?_)
        go_simp
        first | (refine hK _ ?_) | (refine ⟨fun W hS => ?_, hK _ ?_⟩; · (have y0 := hS.old t0; have y1 := hS.old t1; try go_simp))
        clear hK K
        refine flo_read _ rfl (fun K hK => ?_)
        go_simp
        first | (refine hK _ ?_) | (refine ⟨fun W hS => ?_, hK _ ?_⟩; · (have y0 := hS.old t0; have y1 := hS.old t1; try go_simp))
        clear hK K
        refine flo_read _ rfl (fun K hK => ?_)
        go_simp
        first | (refine hK _ ?_) | (refine ⟨fun W hS => ?_, hK _ ?_⟩; · (have y0 := hS.old t0; have y1 := hS.old t1; try go_simp))
        clear hK K
        refine flo_read _ rfl (fun K hK => ?_)
        go_simp
        first | (refine hK _ ?_) | (refine ⟨fun W hS => ?_, hK _ ?_⟩; · (have y0 := hS.old t0; have y1 := hS.old t1; try go_simp))
        clear hK K
        refine flo_read _ rfl (fun K hK => ?_)
        go_simp
        first | (refine hK _ ?_) | (refine ⟨fun W hS => ?_, hK _ ?_⟩; · (have y0 := hS.old t0; have y1 := hS.old t1; try go_simp))
        clear hK K
        refine flo_read _ rfl (fun K hK => ?_)
        go_simp
        first | (refine hK _ ?_) | (refine ⟨fun W hS => ?_, hK _ ?_⟩; · (have y0 := hS.old t0; have y1 := hS.old t1; try go_simp))
        clear hK K
        refine flo_read _ rfl (fun K hK => ?_)
        go_simp
        first | (refine hK _ ?_) | (refine ⟨fun W hS => ?_, hK _ ?_⟩; · (have y0 := hS.old t0; have y1 := hS.old t1; try go_simp))
        clear hK K
        refine flo_read _ rfl (fun K hK => ?_)
        go_simp
        first | (refine hK _ ?_) | (refine ⟨fun W hS => ?_, hK _ ?_⟩; · (have y0 := hS.old t0; have y1 := hS.old t1; try go_simp))
        clear hK K
        refine flo_read _ rfl (fun K hK => ?_)
        go_simp
        first | (refine hK _ ?_) | (refine ⟨fun W hS => ?_, hK _ ?_⟩; · (have y0 := hS.old t0; have y1 := hS.old t1; try go_simp))
        clear hK K
        refine flo_alone _ rfl ?_
        go_wp2_with fail
        go_at_call 56
        refine Calls.mono (N1h.out _) ?_
        rintro e w8 ⟨rfl, t8⟩
        go_wp2_with fail
        refine ⟨fun W => Turns [] w8 W, fun W h => t8.trans h, Turns.refl _ _, ?_⟩
        replace H := H.turns t8
        refine flo_alone _ rfl ?_
        go_wp2_with fail
        go_at_call 57
        refine Calls.mono (N2h.out _ (H.got [1, 0])) ?_
        rintro e w9 ⟨rfl, t9⟩
        go_wp2_with fail
        refine ⟨fun W => Turns [] w9 W, fun W h => t9.trans h, Turns.refl _ _, ?_⟩
        replace H := H.turns t9
        clear t0 t1 t7 t8 t9
        refine flo_read _ rfl (fun K hK => ?_)
        go_simp
        first | (refine hK _ ?_) | (refine ⟨fun W hS => ?_, hK _ ?_⟩; · (skip; try go_simp))
        clear hK K
        refine flo_read _ rfl (fun K hK => ?_)
        go_simp
        first | (refine hK _ ?_) | (refine ⟨fun W hS => ?_, hK _ ?_⟩; · (skip; try go_simp))
        clear hK K
        refine flo_read _ rfl (fun K hK => ?_)
        go_simp
        first | (refine hK _ ?_) | (refine ⟨fun W hS => ?_, hK _ ?_⟩; · (skip; try go_simp))
        clear hK K
        refine flo_end ?_
        have hX := hXh.out _ H.t
        clear H
        go_wp2_with fail
        exact hX
theorem nestNote : Nest Try.prog 95 [kInt .i64, kInt .i64] :=
  nStruct Try.underlying95 (ncons rfl (nInt Try.underlying3 (by kernel_rfl)) (ncons rfl (nInt Try.underlying3 (by kernel_rfl)) nnil rfl) rfl) (by kernel_rfl)
theorem nestTwo : Nest Try.prog 83 (List.replicate 2 [kInt .i64]).flatten := nArray Try.underlying83 (nInt Try.underlying3 (by kernel_rfl)) (by kernel_rfl)
theorem notes_of {W : World} {v : Value} (h : kSlice [kInt .i64, kInt .i64] W v) : ∃ A c NS, v = .slice A (NS : List (Int × Int)).length c ∧ FlatRow W A 2 (NS.map nrow) ∧ ∀ n ∈ NS, -9223372036854775808 ≤ n.1 ∧ n.1 ≤ 9223372036854775807 := by
  obtain ⟨A, c, rows, rfl, hc, hm, hn, hf, hk⟩ := h
  obtain ⟨NS, rfl, ha⟩ := rows_of (f := nrow) (p := fun n => -9223372036854775808 ≤ n.1 ∧ n.1 ≤ 9223372036854775807) (fun r hr => by
    obtain ⟨v0, r0, rfl, ⟨n0, rfl, w0⟩, k0⟩ := (hk r hr).out
    obtain ⟨v1, r1, rfl, ⟨n1, rfl, w1⟩, k1⟩ := k0.out
    obtain rfl := k1.none
    exact ⟨(n0, n1), rfl, int_bd w0⟩)
  exact ⟨A, c, NS, by rw [List.length_map], hf, ha⟩
theorem plays_opened {H : Type} (enc : TypeId × Value → H) (W : World) {base : Nat} {v0 v1 v2 : Value} {d0 d1 d2 : DataW H} {p0 p1 p2 : List MemPlace} (h0 : DataW.Trod enc Try.prog W 0 (fun _ => true) true 88 v0 d0 p0)
    (h1 : DataW.Trod enc Try.prog W 0 (fun _ => true) true 3 v1 d1 p1) (h2 : DataW.Trod enc Try.prog W 0 (fun _ => true) true 83 v2 d2 p2)
    (o0 : Value.okWide Try.prog W .any base 88 v0) (o1 : Value.okWide Try.prog W .any base 3 v1) (o2 : Value.okWide Try.prog W .any base 83 v2) :
    Calls Try.prog 8 #[v0, v1, v2] W fun e w' => e = .returned (.bool true) ∧ Below W.heap.size W w' := by
  obtain ⟨A, c, NS, rfl, hf, hk⟩ := notes_of (arg_slice Try.underlying88 nestNote (by kernel_rfl) h0 o0)
  obtain ⟨key, rfl, _⟩ := arg_int Try.underlying3 (by kernel_rfl) h1 o1
  obtain ⟨cs, rfl, hk2⟩ := arg_array Try.underlying83 nestTwo h2 o2
  obtain ⟨v0, r0, rfl, ⟨n0, rfl, w0⟩, k0⟩ := hk2.out
  obtain ⟨v1, r1, rfl, ⟨n1, rfl, w1⟩, k1⟩ := k0.out
  obtain rfl := k1.none
  exact (plays_is W A c NS key n0 n1 hf hk).mono fun e w' ⟨he, t⟩ => ⟨he, t.isBelow⟩
end Go.Proofs.Ytcmaloncfdmpnaa.We
